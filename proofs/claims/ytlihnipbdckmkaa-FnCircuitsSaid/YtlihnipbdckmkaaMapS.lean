/- MapQubits of the reference. -/
import Derived.Test.YtlihnipbdckmkaaMapP
namespace Go.Proofs.Ytlihnipbdckmkaa
open Go.RowKit

theorem l1HasT_any (T : Option Addr) (tcap k : Nat) (ts : List Int) (v : Int) (w : World) (hk : k ≤ ts.length) (htn : ts.length ≤ 1048576) (ht : Hid (FlatAt w T ts)) :
    Calls Try.prog 55 #[.slice T k tcap, .int .i64 v] w fun e w' => e = .returned (.bool ((ts.take k).contains v)) ∧ w = w' := by
  have h := l1Has_any T tcap (ts.take k) v w (by rw [List.length_take]; omega) (ht.out.take k)
  have e : (ts.take k).length = k := by rw [List.length_take]; omega
  rw [e] at h
  exact h

set_option maxRecDepth 100000 in
set_option maxHeartbeats 16000000 in
theorem specMap_any (q : Int) (A : Option Addr) (cap : Nat) (xs : List G3) (T : Option Addr) (tcap : Nat) (ts : List Int) (n : Int) (w : World) (hn : xs.length ≤ 1048576) (htn : ts.length ≤ 1048576) (hcap : ts.length ≤ tcap) (hx : Hid (FlatAt w A (flatG xs))) (ht : Hid (FlatAt w T ts)) :
    Calls Try.prog 23 #[cv q A xs.length cap, .slice T ts.length tcap, .int .i64 n] w fun e w' => CRes e w w' (mapOk q xs ts n) n (mapL ts xs) := by
  rcases hok : cOk q xs with _ | _
  · have Hno : Hid (mapOk q xs ts n = false) := by show mapOk _ _ _ _ = false; simp [mapOk, hok]
    go_enter Try.func23, Try.ntmps23
    go_wp2_with fail
    refine (l4Good_any q A cap xs _ (by omega) ((hx.out.alloc _).alloc _)).mono ?_
    rintro e w1 ⟨rfl, b1⟩
    obtain ⟨b1c, b1f⟩ := bcell b1
    have z1 := b1.size
    try simp only [World.size_alloc] at z1
    have B1 : Below w.heap.size w w1 := Below.chain (Below.refl _ _) (by go_grown) b1 (by go_size)
    have y10 : w.heap.size < w1.heap.size := by omega
    have y11 : w.heap.size + 1 < w1.heap.size := by omega
    rw [hok]
    go_wp2
    refine bodyPost_ret (by simp [results, Try.results23, go_sem, b1c]) rfl (CRes.no Hno.out ?_)
    go_grown
  have Hok := Lib.hid hok
  have Hl4 := Lib.hid (cOk_parts hok).2.1
  have hq5 := inB_t.1 (cOk_parts hok).1
  clear hok
  rcases hin : inB n 1 5 with _ | _
  · have Hno : Hid (mapOk q xs ts n = false) := by show mapOk _ _ _ _ = false; simp [mapOk, hin]
    go_enter Try.func23, Try.ntmps23
    go_wp2_with fail
    refine (l4Good_any q A cap xs _ (by omega) ((hx.out.alloc _).alloc _)).mono ?_
    rintro e w1 ⟨rfl, b1⟩
    obtain ⟨b1c, b1f⟩ := bcell b1
    have z1 := b1.size
    try simp only [World.size_alloc] at z1
    have B1 : Below w.heap.size w w1 := Below.chain (Below.refl _ _) (by go_grown) b1 (by go_size)
    have y10 : w.heap.size < w1.heap.size := by omega
    have y11 : w.heap.size + 1 < w1.heap.size := by omega
    rw [Hok.out]
    go_wp2_with fail
    refine (l1In_any _ _ _ _).mono ?_
    rintro e w' ⟨rfl, rfl⟩
    rw [hin]
    go_wp2
    refine bodyPost_ret (by simp [results, Try.results23, go_sem, b1c]) rfl (CRes.no Hno.out ?_)
    go_grown
  obtain ⟨hn1, hn5⟩ := inB_t.1 hin
  have Hin := Lib.hid hin
  clear hin
  by_cases hlen : (ts.length : Int) = q
  case neg =>
    have Hno : Hid (mapOk q xs ts n = false) := by show mapOk _ _ _ _ = false; simp [mapOk, hlen]
    have fl : ((ts.length : Int) == q) = false := by simpa using hlen
    have fl' : ((ts.length : Int) != q) = true := by simpa using hlen
    clear hlen
    go_enter Try.func23, Try.ntmps23
    go_wp2_with fail
    refine (l4Good_any q A cap xs _ (by omega) ((hx.out.alloc _).alloc _)).mono ?_
    rintro e w1 ⟨rfl, b1⟩
    obtain ⟨b1c, b1f⟩ := bcell b1
    have z1 := b1.size
    try simp only [World.size_alloc] at z1
    have B1 : Below w.heap.size w w1 := Below.chain (Below.refl _ _) (by go_grown) b1 (by go_size)
    have y10 : w.heap.size < w1.heap.size := by omega
    have y11 : w.heap.size + 1 < w1.heap.size := by omega
    rw [Hok.out]
    go_wp2_with fail
    refine (l1In_any _ _ _ _).mono ?_
    rintro e w' ⟨rfl, rfl⟩
    rw [Hin.out]
    go_wp2
    refine bodyPost_ret (by simp [results, Try.results23, go_sem, b1c]) rfl (CRes.no Hno.out ?_)
    go_grown
  have Hlen := Lib.hid hlen
  have fl : ((ts.length : Int) == q) = true := by simpa using hlen
  have fl' : ((ts.length : Int) != q) = false := by simpa using hlen
  clear hlen hq5
  rcases hall : allIn ts 0 (n - 1) with _ | _
  · have Hno : Hid (mapOk q xs ts n = false) := by show mapOk _ _ _ _ = false; simp [mapOk, hall]
    have Hall := Lib.hid hall
    clear hall
    go_enter Try.func23, Try.ntmps23
    go_wp2_with fail
    refine (l4Good_any q A cap xs _ (by omega) ((hx.out.alloc _).alloc _)).mono ?_
    rintro e w1 ⟨rfl, b1⟩
    obtain ⟨b1c, b1f⟩ := bcell b1
    have z1 := b1.size
    try simp only [World.size_alloc] at z1
    have B1 : Below w.heap.size w w1 := Below.chain (Below.refl _ _) (by go_grown) b1 (by go_size)
    have y10 : w.heap.size < w1.heap.size := by omega
    have y11 : w.heap.size + 1 < w1.heap.size := by omega
    rw [Hok.out]
    go_wp2_with fail
    refine (l1In_any _ _ _ _).mono ?_
    rintro e w' ⟨rfl, rfl⟩
    rw [Hin.out]
    have Ht1 := Lib.hid (intsOf (ht.out.below B1))
    go_wp2_with fail
    refine (l1All_any T tcap ts 0 (n - 1) _ (by omega) Ht1).mono ?_
    rintro e w' ⟨rfl, rfl⟩
    rw [Hall.out]
    go_wp2
    refine bodyPost_ret (by simp [results, Try.results23, go_sem, b1c]) rfl (CRes.no Hno.out ?_)
    go_grown
  have Hall := Lib.hid hall
  clear hall
  obtain ⟨i0, hi, hz0, hz1, hz2⟩ := info_parts Try.infoGate
  go_enter Try.func23, Try.ntmps23
  go_wp2_with fail
  refine (l4Good_any q A cap xs _ (by omega) ((hx.out.alloc _).alloc _)).mono ?_
  rintro e w1 ⟨rfl, b1⟩
  obtain ⟨b1c, b1f⟩ := bcell b1
  have z1 := b1.size
  try simp only [World.size_alloc] at z1
  have B1 : Below w.heap.size w w1 := Below.chain (Below.refl _ _) (by go_grown) b1 (by go_size)
  have y10 : w.heap.size < w1.heap.size := by omega
  have y11 : w.heap.size + 1 < w1.heap.size := by omega
  rw [Hok.out]
  go_wp2_with fail
  refine (l1In_any _ _ _ _).mono ?_
  rintro e w' ⟨rfl, rfl⟩
  rw [Hin.out]
  have Ht1 := Lib.hid (ht.out.below B1)
  have Hti := Lib.hid (intsOf (ht.out.below B1))
  go_wp2_with fail
  refine (l1All_any T tcap ts 0 (n - 1) _ (by omega) Hti).mono ?_
  rintro e w' ⟨rfl, rfl⟩
  rw [Hall.out]
  have Hz1 : Hid (ZeroC w1 (w.heap.size + 1)) := (b1.block (w.heap.size + 1) (by go_size)).trans (heap_top _ _ (by simp))
  have p1 : w1.cell? ⟨w.heap.size, 1, none⟩ = some (.slice A xs.length cap) := by go_simp
  have r0 := cell_of_row w1 (w.heap.size + 1) 0 _ _ _ Hz1.out
  have r1 := cell_of_row w1 (w.heap.size + 1) 1 _ _ _ Hz1.out
  have rf := fun o => frozen_of_row w1 (w.heap.size + 1) o _ _ Hz1.out
  clear b1 b1c b1f
  go_wp2_with fail
  go_loop [38] (fun i => ∃ k : Nat, k ≤ ts.length ∧ i = .int .i64 k ∧ diffN ts k = true) (fun i => ts.length - (intOf i).toNat)
  case atStart => exact ⟨0, Nat.zero_le _, rfl, rfl⟩
  case round =>
  obtain ⟨k, hk, rfl, hdiff⟩ := hrel
  have Hdiff := Lib.hid hdiff
  clear hdiff
  by_cases hlt : k < ts.length
  · obtain ⟨v, hkv⟩ : ∃ v, ts[k]? = some v := ⟨_, List.getElem?_eq_getElem hlt⟩
    obtain ⟨tb, toff, hT, htl, hcv⟩ := Ht1.out k v hkv
    have Hv := Lib.hid (getD_at hkv)
    have Hstp := Lib.hid (diffN_step ts k)
    have Hbad := Lib.hid (diffN_bad (ts := ts) hlt)
    have hkc : k ≤ tcap := by omega
    clear hkv
    subst hT
    rcases hcon : (ts.take k).contains v with _ | _
    · go_wp2_with fail
      refine (l1HasT_any _ tcap k ts v _ hk htn Ht1).mono ?_
      rintro e w' ⟨rfl, rfl⟩
      rw [hcon]
      go_wp2
      go_round
      case rel => exact ⟨k + 1, by omega, by go_num, by rw [Hstp.out, Hdiff.out, Hv.out, hcon]; rfl⟩
      case measure => simp [intOf]; omega
    · have Hno : Hid (mapOk q xs ts n = false) := by show mapOk _ _ _ _ = false; rw [mapOk, Hbad.out (by rw [Hv.out]; exact hcon), Bool.and_false]
      go_wp2_with fail
      refine (l1HasT_any _ tcap k ts v _ hk htn Ht1).mono ?_
      rintro e w' ⟨rfl, rfl⟩
      rw [hcon]
      go_wp2
      refine bodyPost_ret (by simp [results, Try.results23, go_sem, r0, r1]) rfl (CRes.no Hno.out ?_)
      go_grown
  obtain rfl : k = ts.length := by omega
  have Hyes : Hid (mapOk q xs ts n = true) := by show mapOk _ _ _ _ = true; rw [mapOk, Hok.out, Hin.out, fl, Hall.out, Hdiff.out]; rfl
  clear Hdiff Hti r0 r1 rf
  have HZ : Hid (ZeroC (w1.alloc (.cells #[.int .i64 n, .slice none 0 0] 38)) (w.heap.size + 1)) := (Below.heap_alloc _ _ _ (by omega)).trans Hz1.out
  have HM : Hid (MadeC (w1.alloc (.cells #[.int .i64 n, .slice none 0 0] 38)) w1.heap.size (w1.heap.size + 1) w1.heap.size n []) := ⟨none, 0, heap_top _ _ rfl, World.ownsRow_nil _ _ _ _, fun k hk => by cases hk⟩
  go_wp2_with fail
  go_loopw [55] (fun i wr => ∃ k : Nat, i = .int .i64 k ∧ k ≤ xs.length ∧ MadeC wr w1.heap.size (w1.heap.size + 1) w1.heap.size n (mapL ts (xs.take k)) ∧ ZeroC wr (w.heap.size + 1) ∧ Below w.heap.size w wr ∧ w1.heap.size < wr.heap.size) (fun i _ => xs.length - (intOf i).toNat)
  case atStart => exact ⟨0, rfl, Nat.zero_le _, HM.out, HZ.out, by go_grown, by go_size⟩
  case round =>
    obtain ⟨k, rfl, hk, hm, hz, hb, hs⟩ := hrel
    obtain ⟨A', cap', hb2, hown, _⟩ := hm
    have Hz := Lib.hid hz
    have Hb2 := Lib.hid hb2
    have Hown := Lib.hid hown
    have k1 := cell_of_row wr w1.heap.size 1 _ _ _ hb2
    have kf := frozen_of_row wr w1.heap.size 1 _ _ hb2
    clear hz hb2 hown
    obtain ⟨ys, hys⟩ : ∃ ys, ys = mapL ts (xs.take k) := ⟨_, rfl⟩
    have hyl : ys.length ≤ 400 := by rw [hys]; exact mapL_take_len ts xs k Hl4.out
    rw [← hys] at k1 Hb2 Hown
    have Hys := Lib.hid hys
    clear hys
    by_cases hlt : k < xs.length
    · obtain ⟨⟨xk, xa, xb⟩, hkx⟩ : ∃ x, xs[k]? = some x := ⟨_, List.getElem?_eq_getElem hlt⟩
      obtain ⟨b0, off, rfl, hbl, hc⟩ := hx.out.three hkx
      have Hst := Lib.hid (mapL_step (ts := ts) hkx)
      have hgate := gate_three Hok.out hkx Hlen.out
      clear hkx
      obtain ⟨c0, c1, c2⟩ := hc.below hb hbl
      simp only at c0 c1 c2
      clear hc
      have Htw := Lib.hid (ht.out.below hb)
      rcases hgate with hgate | hgate | hgate
      · obtain ⟨h12, hmg⟩ := hgate
        simp only at h12
        subst h12
        have Hmg := Lib.hid hmg
        clear hmg
        have htwo : inB 12 9 11 = false := rfl
        go_wp2_with fail
        refine (l1In_any _ _ _ _).mono ?_
        rintro e w' ⟨rfl, rfl⟩
        rw [htwo]
        go_wp2_with (at_builtin; refine wpList_append_lies _ rfl _ _ 36 rfl (w1.heap.size + 1) 29 i0 (tv 0 0 0) 3 24 Try.underlying36 hi hz0 hz1 hz2 rfl (by decide) (.slice A' ys.length cap') ys.length ((flatG ys).map (Value.int .i64)) rfl ((Hown.out.alloc _).alloc _) ⟨wr.heap.size + 1, 0, none⟩ 1 1 [.int .i64 (12 : Int), .int .i64 xa, .int .i64 xb] rfl rfl ?c1 ?c2 (by decide) ?c3 ?c4 ?c5 (wr.heap.size + 2) ?c6 ?_)
        case c1 => exact cells_at _ (heap_top _ _ (by simp))
        case c2 => intro v hv; simp at hv; rcases hv with rfl | rfl | rfl <;> rfl
        case c3 => unfold maxLen; omega
        case c4 => omega
        case c5 => simp; omega
        case c6 => simp
        intro g cap2 w3 hown' hgrow hat hlt3
        have hrow : ∀ kk, (Value.slice A' ys.length cap').ownBlock = some kk → (w1.heap.size + 1) ≤ kk := fun kk hk => (Hown.out.lt kk hk).1
        have hb3 := Lib.hid ((hgrow.block w1.heap.size (by simp; omega) (fun e => by have := hrow _ e.symm; omega)).trans ((Below.heap_alloc _ _ _ (by simp; omega)).trans ((Below.heap_alloc _ _ _ (by omega)).trans Hb2.out)))
        have hz3 := Lib.hid ((hgrow.block (w.heap.size + 1) (by simp; omega) (fun e => by have := hrow _ e.symm; omega)).trans ((Below.heap_alloc _ _ _ (by simp; omega)).trans ((Below.heap_alloc _ _ _ (by omega)).trans Hz.out)))
        have B3 : Below w.heap.size w w3 := Below.grown (by go_grown) hgrow (by simp; omega) (fun kk hk => by have := hrow kk hk; omega)
        have ho' := Lib.hid hown'
        have s3 := hgrow.size
        simp only [World.size_alloc] at s3
        have k3 := cell_of_row w3 w1.heap.size 1 _ _ _ hb3.out
        have k3f := frozen_of_row w3 w1.heap.size 1 _ _ hb3.out
        have hatF : w1.heap.size + 1 ≤ g ∨ g = wr.heap.size + 2 := by
          rcases hat with h | h
          · exact .inl (hrow g h)
          · exact .inr h
        clear hown' hgrow hat hrow
        go_wp2
        go_roundw
        case rel =>
          refine ⟨k + 1, by go_num, by omega, ?_, (Below.heap_setCell _ _ _ _ (by dsimp only; omega)).trans hz3.out, B3.setCell (by dsimp only; omega) _, by simp [World.setCell]; omega⟩
          rw [Hst.out, Hmg.out, ← Hys.out]
          exact MadeC.push hb3.out ho'.out (by omega) (by rcases hatF with h | h <;> omega)
        case measure => simp [intOf]; omega
      · obtain ⟨h12, htwo, a, t, hxa, hta, hmg⟩ := hgate
        simp only at h12 htwo hxa
        subst hxa
        obtain ⟨tb, toff, hT, htl, hct⟩ := Htw.out a t hta
        have hal := (List.getElem?_eq_some_iff.1 hta).1
        have hali : (a : Int) < (ts.length : Int) := by omega
        have f12 : (xk == 12) = false := by simpa using h12
        have f12' : (xk != 12) = true := by simpa using h12
        have Hmg := Lib.hid hmg
        clear hmg hta h12
        subst hT
        go_wp2_with fail
        refine (l1In_any _ _ _ _).mono ?_
        rintro e w' ⟨rfl, rfl⟩
        rw [htwo]
        go_wp2_with (at_builtin; refine wpList_append_lies _ rfl _ _ 36 rfl (w1.heap.size + 1) 29 i0 (tv 0 0 0) 3 24 Try.underlying36 hi hz0 hz1 hz2 rfl (by decide) (.slice A' ys.length cap') ys.length ((flatG ys).map (Value.int .i64)) rfl ((Hown.out.alloc _).alloc _) ⟨wr.heap.size + 1, 0, none⟩ 1 1 [.int .i64 xk, .int .i64 t, .int .i64 xb] rfl rfl ?c1 ?c2 (by decide) ?c3 ?c4 ?c5 (wr.heap.size + 2) ?c6 ?_)
        case c1 => exact cells_at _ (heap_top _ _ (by simp))
        case c2 => intro v hv; simp at hv; rcases hv with rfl | rfl | rfl <;> rfl
        case c3 => unfold maxLen; omega
        case c4 => omega
        case c5 => simp; omega
        case c6 => simp
        intro g cap2 w3 hown' hgrow hat hlt3
        have hrow : ∀ kk, (Value.slice A' ys.length cap').ownBlock = some kk → (w1.heap.size + 1) ≤ kk := fun kk hk => (Hown.out.lt kk hk).1
        have hb3 := Lib.hid ((hgrow.block w1.heap.size (by simp; omega) (fun e => by have := hrow _ e.symm; omega)).trans ((Below.heap_alloc _ _ _ (by simp; omega)).trans ((Below.heap_alloc _ _ _ (by omega)).trans Hb2.out)))
        have hz3 := Lib.hid ((hgrow.block (w.heap.size + 1) (by simp; omega) (fun e => by have := hrow _ e.symm; omega)).trans ((Below.heap_alloc _ _ _ (by simp; omega)).trans ((Below.heap_alloc _ _ _ (by omega)).trans Hz.out)))
        have B3 : Below w.heap.size w w3 := Below.grown (by go_grown) hgrow (by simp; omega) (fun kk hk => by have := hrow kk hk; omega)
        have ho' := Lib.hid hown'
        have s3 := hgrow.size
        simp only [World.size_alloc] at s3
        have k3 := cell_of_row w3 w1.heap.size 1 _ _ _ hb3.out
        have k3f := frozen_of_row w3 w1.heap.size 1 _ _ hb3.out
        have hatF : w1.heap.size + 1 ≤ g ∨ g = wr.heap.size + 2 := by
          rcases hat with h | h
          · exact .inl (hrow g h)
          · exact .inr h
        clear hown' hgrow hat hrow
        go_wp2
        go_roundw
        case rel =>
          refine ⟨k + 1, by go_num, by omega, ?_, (Below.heap_setCell _ _ _ _ (by dsimp only; omega)).trans hz3.out, B3.setCell (by dsimp only; omega) _, by simp [World.setCell]; omega⟩
          rw [Hst.out, Hmg.out, ← Hys.out]
          exact MadeC.push hb3.out ho'.out (by omega) (by rcases hatF with h | h <;> omega)
        case measure => simp [intOf]; omega
      · obtain ⟨h12, htwo, a, b, t, u, hxa, hxb, hta, htu, hmg⟩ := hgate
        simp only at h12 htwo hxa hxb
        subst hxa hxb
        obtain ⟨tb, toff, hT, htl, hct⟩ := Htw.out a t hta
        obtain ⟨tb2, toff2, hT2, htl2, hcu⟩ := Htw.out b u htu
        have hal := (List.getElem?_eq_some_iff.1 hta).1
        have hbl' := (List.getElem?_eq_some_iff.1 htu).1
        have hali : (a : Int) < (ts.length : Int) := by omega
        have hbli : (b : Int) < (ts.length : Int) := by omega
        have e2 := hT.symm.trans hT2
        simp only [Option.some.injEq, Addr.mk.injEq, and_true] at e2
        obtain ⟨rfl, rfl⟩ := e2
        have f12 : (xk == 12) = false := by simpa using h12
        have f12' : (xk != 12) = true := by simpa using h12
        have Hmg := Lib.hid hmg
        clear hmg hta htu h12 hT2
        subst hT
        go_wp2_with fail
        refine (l1In_any _ _ _ _).mono ?_
        rintro e w' ⟨rfl, rfl⟩
        rw [htwo]
        go_wp2_with (at_builtin; refine wpList_append_lies _ rfl _ _ 36 rfl (w1.heap.size + 1) 29 i0 (tv 0 0 0) 3 24 Try.underlying36 hi hz0 hz1 hz2 rfl (by decide) (.slice A' ys.length cap') ys.length ((flatG ys).map (Value.int .i64)) rfl ((Hown.out.alloc _).alloc _) ⟨wr.heap.size + 1, 0, none⟩ 1 1 [.int .i64 xk, .int .i64 t, .int .i64 u] rfl rfl ?c1 ?c2 (by decide) ?c3 ?c4 ?c5 (wr.heap.size + 2) ?c6 ?_)
        case c1 => exact cells_at _ (heap_top _ _ (by simp))
        case c2 => intro v hv; simp at hv; rcases hv with rfl | rfl | rfl <;> rfl
        case c3 => unfold maxLen; omega
        case c4 => omega
        case c5 => simp; omega
        case c6 => simp
        intro g cap2 w3 hown' hgrow hat hlt3
        have hrow : ∀ kk, (Value.slice A' ys.length cap').ownBlock = some kk → (w1.heap.size + 1) ≤ kk := fun kk hk => (Hown.out.lt kk hk).1
        have hb3 := Lib.hid ((hgrow.block w1.heap.size (by simp; omega) (fun e => by have := hrow _ e.symm; omega)).trans ((Below.heap_alloc _ _ _ (by simp; omega)).trans ((Below.heap_alloc _ _ _ (by omega)).trans Hb2.out)))
        have hz3 := Lib.hid ((hgrow.block (w.heap.size + 1) (by simp; omega) (fun e => by have := hrow _ e.symm; omega)).trans ((Below.heap_alloc _ _ _ (by simp; omega)).trans ((Below.heap_alloc _ _ _ (by omega)).trans Hz.out)))
        have B3 : Below w.heap.size w w3 := Below.grown (by go_grown) hgrow (by simp; omega) (fun kk hk => by have := hrow kk hk; omega)
        have ho' := Lib.hid hown'
        have s3 := hgrow.size
        simp only [World.size_alloc] at s3
        have k3 := cell_of_row w3 w1.heap.size 1 _ _ _ hb3.out
        have k3f := frozen_of_row w3 w1.heap.size 1 _ _ hb3.out
        have hatF : w1.heap.size + 1 ≤ g ∨ g = wr.heap.size + 2 := by
          rcases hat with h | h
          · exact .inl (hrow g h)
          · exact .inr h
        clear hown' hgrow hat hrow
        go_wp2
        go_roundw
        case rel =>
          refine ⟨k + 1, by go_num, by omega, ?_, (Below.heap_setCell _ _ _ _ (by dsimp only; omega)).trans hz3.out, B3.setCell (by dsimp only; omega) _, by simp [World.setCell]; omega⟩
          rw [Hst.out, Hmg.out, ← Hys.out]
          exact MadeC.push hb3.out ho'.out (by omega) (by rcases hatF with h | h <;> omega)
        case measure => simp [intOf]; omega
    · obtain rfl : k = xs.length := by omega
      have k0 := cell_of_row wr w1.heap.size 0 _ _ _ Hb2.out
      have q0 := cell_of_row wr (w.heap.size + 1) 0 _ _ _ Hz.out
      have q1 := cell_of_row wr (w.heap.size + 1) 1 _ _ _ Hz.out
      have qf := fun o => frozen_of_row wr (w.heap.size + 1) o _ _ Hz.out
      have hyse : ys = mapL ts xs := by rw [Hys.out, List.take_length]
      subst hyse
      go_wp2
      refine bodyPost_ret (by simp [results, Try.results23, go_sem, q0, q1]; exact Hyes.out) rfl (CRes.mk (q' := n) (ys := mapL ts xs) (A := A') (cap := cap') (by rw [Hyes.out]; rfl) (by rw [Hyes.out]; rfl) ?_ ?_)
      · refine FlatIn.mono (lo := w1.heap.size + 1) (hi := wr.heap.size) ?_ (by omega) (by go_size) (Nat.le_refl _)
        repeat (refine FlatIn.setFar ?_ (by dsimp only; omega) _)
        exact FlatIn.of_owns Hown.out rfl
      · go_grown
end Go.Proofs.Ytlihnipbdckmkaa
