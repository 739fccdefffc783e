/- MapQubits of the program. -/
import Derived.Test.YtlihnipbdckmkaaMapS
namespace Go.Proofs.Ytlihnipbdckmkaa
open Go.RowKit

/-- a slice of the call's own -/
def OwnN (w : World) (base : Nat) (v : Value) (xs : List G3) : Prop :=
  ∃ (A : Option Addr) (cap : Nat), v = .slice A xs.length cap ∧ w.ownsRow base 29 3 (.slice A xs.length cap) xs.length ((flatG xs).map (Value.int .i64))
theorem OwnN.push {w3 : World} {base g cap : Nat} {xs : List G3} {a b c : Int}
    (hown : w3.ownsRow base 29 3 (.slice (some ⟨g, 0, none⟩) (xs.length + 1) cap) (xs.length + 1) ((flatG xs).map (Value.int .i64) ++ [.int .i64 a, .int .i64 b, .int .i64 c])) :
    OwnN w3 base (.slice (some ⟨g, 0, none⟩) (xs.length + 1) cap) (xs ++ [(a, b, c)]) := by
  have e2 : (xs ++ [(a, b, c)]).length = xs.length + 1 := by simp
  refine ⟨some ⟨g, 0, none⟩, cap, by rw [e2], ?_⟩
  rw [e2, flatG_append, List.map_append]
  exact hown

set_option maxRecDepth 100000 in
set_option maxHeartbeats 16000000 in
theorem mapped_any (q : Int) (A : Option Addr) (cap : Nat) (xs : List G3) (T : Option Addr) (tcap : Nat) (ts : List Int) (w : World) (Hok : Hid (cOk q xs = true)) (Hlen : Hid ((ts.length : Int) = q)) (hx : Hid (FlatAt w A (flatG xs))) (ht : Hid (FlatAt w T ts)) :
    Calls Try.prog 58 #[.slice A xs.length cap, .slice T ts.length tcap] w fun e w' => ∃ (A' : Option Addr) (cap' : Nat), e = .returned (.slice A' (mapL ts xs).length cap') ∧ FlatIn w' A' (flatG (mapL ts xs)) w.heap.size w'.heap.size ∧ Below w.heap.size w w' := by
  have Hl4 := Lib.hid (cOk_parts Hok.out).2.1
  have hxn : xs.length ≤ 400 := Hl4.out
  obtain ⟨i0, hi, hz0, hz1, hz2⟩ := info_parts Try.infoGate
  go_enter Try.func58, Try.ntmps58
  go_wp2_with fail
  go_loopw [5, 11] (fun v i wr => ∃ k : Nat, i = .int .i64 k ∧ k ≤ xs.length ∧ OwnN wr w.heap.size v (mapL ts (xs.take k)) ∧ Below w.heap.size w wr) (fun _ i _ => xs.length - (intOf i).toNat)
  case atStart => exact ⟨0, rfl, Nat.zero_le _, ⟨some ⟨w.heap.size, 0, none⟩, 0, rfl, ownsRow_empty _ (Nat.le_refl _) (heap_top _ _ rfl)⟩, by go_grown⟩
  case round =>
    obtain ⟨k, rfl, hk, ho, hb⟩ := hrel
    obtain ⟨A', cap', rfl, hown⟩ := ho
    have zb := hb.size
    have Hown := Lib.hid hown
    clear hown
    obtain ⟨ys, hys⟩ : ∃ ys, ys = mapL ts (xs.take k) := ⟨_, rfl⟩
    have hyl : ys.length ≤ 400 := by rw [hys]; exact mapL_take_len ts xs k Hl4.out
    rw [← hys] at Hown ⊢
    have Hys := Lib.hid hys
    clear hys
    by_cases hlt : k < xs.length
    · obtain ⟨⟨xk, xa, xb⟩, hkx⟩ : ∃ x, xs[k]? = some x := ⟨_, List.getElem?_eq_getElem hlt⟩
      obtain ⟨b0, off, rfl, hbl, hc⟩ := hx.out.three hkx
      have Hst := Lib.hid (mapL_step (ts := ts) hkx)
      have hgate := gate_three Hok.out hkx Hlen.out
      clear hkx
      obtain ⟨c0, c1, c2⟩ := hc.below hb hbl
      simp only at c0 c1 c2
      clear hc
      have Htw := Lib.hid (ht.out.below hb)
      rcases hgate with hgate | hgate | hgate
      · obtain ⟨h12, hmg⟩ := hgate
        simp only at h12
        subst h12
        have Hmg := Lib.hid hmg
        clear hmg
        have htwo : inB 12 9 11 = false := rfl
        go_wp2_with fail
        refine (isTwo_any _ _).mono ?_
        rintro e w' ⟨rfl, rfl⟩
        rw [htwo]
        go_wp2_with (at_builtin; refine wpList_append_lies _ rfl _ _ 36 rfl w.heap.size 29 i0 (tv 0 0 0) 3 24 Try.underlying36 hi hz0 hz1 hz2 rfl (by decide) (.slice A' ys.length cap') ys.length ((flatG ys).map (Value.int .i64)) rfl ((Hown.out.alloc _).alloc _) ⟨wr.heap.size + 1, 0, none⟩ 1 1 [.int .i64 (12 : Int), .int .i64 xa, .int .i64 xb] rfl rfl ?c1 ?c2 (by decide) ?c3 ?c4 ?c5 (wr.heap.size + 2) ?c6 ?_)
        case c1 => exact cells_at _ (heap_top _ _ (by simp))
        case c2 => intro v hv; simp at hv; rcases hv with rfl | rfl | rfl <;> rfl
        case c3 => unfold maxLen; omega
        case c4 => omega
        case c5 => simp; omega
        case c6 => simp
        intro g cap2 w3 hown' hgrow hat hlt3
        have hrow : ∀ kk, (Value.slice A' ys.length cap').ownBlock = some kk → w.heap.size ≤ kk := fun kk hk => (Hown.out.lt kk hk).1
        have B3 : Below w.heap.size w w3 := Below.grown (by go_grown) hgrow (by simp; omega) (fun kk hk => hrow kk hk)
        have ho' := Lib.hid hown'
        have hatF : w.heap.size ≤ g := by
          rcases hat with h | h
          · exact hrow g h
          · omega
        clear hown' hgrow hat hrow
        go_wp2
        go_roundw
        case rel =>
          refine ⟨k + 1, by go_num, by omega, ?_, B3⟩
          rw [Hst.out, Hmg.out, ← Hys.out]
          exact OwnN.push ho'.out
        case measure => simp [intOf]; omega
      · obtain ⟨h12, htwo, a, t, hxa, hta, hmg⟩ := hgate
        simp only at h12 htwo hxa
        subst hxa
        obtain ⟨tb, toff, hT, htl, hct⟩ := Htw.out a t hta
        have hal := (List.getElem?_eq_some_iff.1 hta).1
        have hali : (a : Int) < (ts.length : Int) := by omega
        have f12 : (xk == 12) = false := by simpa using h12
        have f12' : (xk != 12) = true := by simpa using h12
        have Hmg := Lib.hid hmg
        clear hmg hta h12
        subst hT
        go_wp2_with fail
        refine (isTwo_any _ _).mono ?_
        rintro e w' ⟨rfl, rfl⟩
        rw [htwo]
        go_wp2_with (at_builtin; refine wpList_append_lies _ rfl _ _ 36 rfl w.heap.size 29 i0 (tv 0 0 0) 3 24 Try.underlying36 hi hz0 hz1 hz2 rfl (by decide) (.slice A' ys.length cap') ys.length ((flatG ys).map (Value.int .i64)) rfl ((Hown.out.alloc _).alloc _) ⟨wr.heap.size + 1, 0, none⟩ 1 1 [.int .i64 xk, .int .i64 t, .int .i64 xb] rfl rfl ?c1 ?c2 (by decide) ?c3 ?c4 ?c5 (wr.heap.size + 2) ?c6 ?_)
        case c1 => exact cells_at _ (heap_top _ _ (by simp))
        case c2 => intro v hv; simp at hv; rcases hv with rfl | rfl | rfl <;> rfl
        case c3 => unfold maxLen; omega
        case c4 => omega
        case c5 => simp; omega
        case c6 => simp
        intro g cap2 w3 hown' hgrow hat hlt3
        have hrow : ∀ kk, (Value.slice A' ys.length cap').ownBlock = some kk → w.heap.size ≤ kk := fun kk hk => (Hown.out.lt kk hk).1
        have B3 : Below w.heap.size w w3 := Below.grown (by go_grown) hgrow (by simp; omega) (fun kk hk => hrow kk hk)
        have ho' := Lib.hid hown'
        have hatF : w.heap.size ≤ g := by
          rcases hat with h | h
          · exact hrow g h
          · omega
        clear hown' hgrow hat hrow
        go_wp2
        go_roundw
        case rel =>
          refine ⟨k + 1, by go_num, by omega, ?_, B3⟩
          rw [Hst.out, Hmg.out, ← Hys.out]
          exact OwnN.push ho'.out
        case measure => simp [intOf]; omega
      · obtain ⟨h12, htwo, a, b, t, u, hxa, hxb, hta, htu, hmg⟩ := hgate
        simp only at h12 htwo hxa hxb
        subst hxa hxb
        obtain ⟨tb, toff, hT, htl, hct⟩ := Htw.out a t hta
        obtain ⟨tb2, toff2, hT2, htl2, hcu⟩ := Htw.out b u htu
        have hal := (List.getElem?_eq_some_iff.1 hta).1
        have hbl' := (List.getElem?_eq_some_iff.1 htu).1
        have hali : (a : Int) < (ts.length : Int) := by omega
        have hbli : (b : Int) < (ts.length : Int) := by omega
        have e2 := hT.symm.trans hT2
        simp only [Option.some.injEq, Addr.mk.injEq, and_true] at e2
        obtain ⟨rfl, rfl⟩ := e2
        have f12 : (xk == 12) = false := by simpa using h12
        have f12' : (xk != 12) = true := by simpa using h12
        have Hmg := Lib.hid hmg
        clear hmg hta htu h12 hT2
        subst hT
        go_wp2_with fail
        refine (isTwo_any _ _).mono ?_
        rintro e w' ⟨rfl, rfl⟩
        rw [htwo]
        go_wp2_with (at_builtin; refine wpList_append_lies _ rfl _ _ 36 rfl w.heap.size 29 i0 (tv 0 0 0) 3 24 Try.underlying36 hi hz0 hz1 hz2 rfl (by decide) (.slice A' ys.length cap') ys.length ((flatG ys).map (Value.int .i64)) rfl ((Hown.out.alloc _).alloc _) ⟨wr.heap.size + 1, 0, none⟩ 1 1 [.int .i64 xk, .int .i64 t, .int .i64 u] rfl rfl ?c1 ?c2 (by decide) ?c3 ?c4 ?c5 (wr.heap.size + 2) ?c6 ?_)
        case c1 => exact cells_at _ (heap_top _ _ (by simp))
        case c2 => intro v hv; simp at hv; rcases hv with rfl | rfl | rfl <;> rfl
        case c3 => unfold maxLen; omega
        case c4 => omega
        case c5 => simp; omega
        case c6 => simp
        intro g cap2 w3 hown' hgrow hat hlt3
        have hrow : ∀ kk, (Value.slice A' ys.length cap').ownBlock = some kk → w.heap.size ≤ kk := fun kk hk => (Hown.out.lt kk hk).1
        have B3 : Below w.heap.size w w3 := Below.grown (by go_grown) hgrow (by simp; omega) (fun kk hk => hrow kk hk)
        have ho' := Lib.hid hown'
        have hatF : w.heap.size ≤ g := by
          rcases hat with h | h
          · exact hrow g h
          · omega
        clear hown' hgrow hat hrow
        go_wp2
        go_roundw
        case rel =>
          refine ⟨k + 1, by go_num, by omega, ?_, B3⟩
          rw [Hst.out, Hmg.out, ← Hys.out]
          exact OwnN.push ho'.out
        case measure => simp [intOf]; omega
    · obtain rfl : k = xs.length := by omega
      have hyse : ys = mapL ts xs := by rw [Hys.out, List.take_length]
      subst hyse
      go_wp2
      go_ret
      exact ⟨A', cap', rfl, FlatIn.of_owns Hown.out rfl, hb⟩

set_option maxRecDepth 100000 in
set_option maxHeartbeats 8000000 in
theorem containsT_any (T : Option Addr) (tcap k : Nat) (ts : List Int) (v : Int) (w : World) (hk : k ≤ ts.length) (htn : ts.length ≤ 1048576) (ht : Hid (FlatAt w T ts)) :
    Calls Try.prog 57 #[.slice T k tcap, .int .i64 v] w fun e w' => e = .returned (.bool ((ts.take k).contains v)) ∧ w = w' := by
  have h := containsI_any T tcap (ts.take k) v w (by rw [List.length_take]; omega) (ht.out.take k)
  have e : (ts.take k).length = k := by rw [List.length_take]; omega
  rw [e] at h
  exact h

set_option maxRecDepth 100000 in
set_option maxHeartbeats 16000000 in
theorem implMap_any (q : Int) (A : Option Addr) (cap : Nat) (xs : List G3) (T : Option Addr) (tcap : Nat) (ts : List Int) (n : Int) (w : World) (hn : xs.length ≤ 1048576) (htn : ts.length ≤ 1048576) (hcap : ts.length ≤ tcap) (hx : Hid (FlatAt w A (flatG xs))) (ht : Hid (FlatAt w T ts)) :
    Calls Try.prog 22 #[cv q A xs.length cap, .slice T ts.length tcap, .int .i64 n] w fun e w' => CRes e w w' (mapOk q xs ts n) n (mapL ts xs) := by
  rcases hok : cOk q xs with _ | _
  · have Hno : Hid (mapOk q xs ts n = false) := by show mapOk _ _ _ _ = false; simp [mapOk, hok]
    go_enter Try.func22, Try.ntmps22
    go_wp2_with fail
    refine (implValidC_any q A cap xs _ hn ((hx.out.alloc _).alloc _)).mono ?_
    rintro e w1 ⟨rfl, b1⟩
    obtain ⟨b1c, b1f⟩ := bcell b1
    have z1 := b1.size
    try simp only [World.size_alloc] at z1
    have B1 : Below w.heap.size w w1 := Below.chain (Below.refl _ _) (by go_grown) b1 (by go_size)
    have y10 : w.heap.size < w1.heap.size := by omega
    have y11 : w.heap.size + 1 < w1.heap.size := by omega
    rw [hok]
    go_wp2
    refine bodyPost_ret (by simp [results, Try.results22, go_sem, b1c]) rfl (CRes.no Hno.out ?_)
    go_grown
  have Hok := Lib.hid hok
  have Hl4 := Lib.hid (cOk_parts hok).2.1
  have hq5 := inB_t.1 (cOk_parts hok).1
  clear hok
  rcases hin : inB n 1 5 with _ | _
  · have Hno : Hid (mapOk q xs ts n = false) := by show mapOk _ _ _ _ = false; simp [mapOk, hin]
    go_enter Try.func22, Try.ntmps22
    go_wp2_with fail
    refine (implValidC_any q A cap xs _ hn ((hx.out.alloc _).alloc _)).mono ?_
    rintro e w1 ⟨rfl, b1⟩
    obtain ⟨b1c, b1f⟩ := bcell b1
    have z1 := b1.size
    try simp only [World.size_alloc] at z1
    have B1 : Below w.heap.size w w1 := Below.chain (Below.refl _ _) (by go_grown) b1 (by go_size)
    have y10 : w.heap.size < w1.heap.size := by omega
    have y11 : w.heap.size + 1 < w1.heap.size := by omega
    rw [Hok.out]
    go_wp2_with fail
    refine (within_any _ _ _ _).mono ?_
    rintro e w' ⟨rfl, rfl⟩
    rw [hin]
    go_wp2
    refine bodyPost_ret (by simp [results, Try.results22, go_sem, b1c]) rfl (CRes.no Hno.out ?_)
    go_grown
  obtain ⟨hn1, hn5⟩ := inB_t.1 hin
  have Hin := Lib.hid hin
  clear hin
  by_cases hlen : (ts.length : Int) = q
  case neg =>
    have Hno : Hid (mapOk q xs ts n = false) := by show mapOk _ _ _ _ = false; simp [mapOk, hlen]
    have fl : ((ts.length : Int) == q) = false := by simpa using hlen
    have fl' : ((ts.length : Int) != q) = true := by simpa using hlen
    clear hlen
    go_enter Try.func22, Try.ntmps22
    go_wp2_with fail
    refine (implValidC_any q A cap xs _ hn ((hx.out.alloc _).alloc _)).mono ?_
    rintro e w1 ⟨rfl, b1⟩
    obtain ⟨b1c, b1f⟩ := bcell b1
    have z1 := b1.size
    try simp only [World.size_alloc] at z1
    have B1 : Below w.heap.size w w1 := Below.chain (Below.refl _ _) (by go_grown) b1 (by go_size)
    have y10 : w.heap.size < w1.heap.size := by omega
    have y11 : w.heap.size + 1 < w1.heap.size := by omega
    rw [Hok.out]
    go_wp2_with fail
    refine (within_any _ _ _ _).mono ?_
    rintro e w' ⟨rfl, rfl⟩
    rw [Hin.out]
    go_wp2
    refine bodyPost_ret (by simp [results, Try.results22, go_sem, b1c]) rfl (CRes.no Hno.out ?_)
    go_grown
  have Hlen := Lib.hid hlen
  have fl : ((ts.length : Int) == q) = true := by simpa using hlen
  have fl' : ((ts.length : Int) != q) = false := by simpa using hlen
  clear hlen hq5
  go_enter Try.func22, Try.ntmps22
  go_wp2_with fail
  refine (implValidC_any q A cap xs _ hn ((hx.out.alloc _).alloc _)).mono ?_
  rintro e w1 ⟨rfl, b1⟩
  obtain ⟨b1c, b1f⟩ := bcell b1
  have z1 := b1.size
  try simp only [World.size_alloc] at z1
  have B1 : Below w.heap.size w w1 := Below.chain (Below.refl _ _) (by go_grown) b1 (by go_size)
  have y10 : w.heap.size < w1.heap.size := by omega
  have y11 : w.heap.size + 1 < w1.heap.size := by omega
  rw [Hok.out]
  go_wp2_with fail
  refine (within_any _ _ _ _).mono ?_
  rintro e w' ⟨rfl, rfl⟩
  rw [Hin.out]
  have Ht1 := Lib.hid (ht.out.below B1)
  have Hx1 := Lib.hid (hx.out.below B1)
  have Hz1 : Hid (ZeroC w1 (w.heap.size + 1)) := (b1.block (w.heap.size + 1) (by go_size)).trans (heap_top _ _ (by simp))
  have p0 : w1.cell? ⟨w.heap.size, 0, none⟩ = some (.int .i64 q) := by go_simp
  have p1 : w1.cell? ⟨w.heap.size, 1, none⟩ = some (.slice A xs.length cap) := by go_simp
  have r0 := cell_of_row w1 (w.heap.size + 1) 0 _ _ _ Hz1.out
  have r1 := cell_of_row w1 (w.heap.size + 1) 1 _ _ _ Hz1.out
  have rf := fun o => frozen_of_row w1 (w.heap.size + 1) o _ _ Hz1.out
  clear b1 b1c b1f
  go_wp2_with fail
  go_loop [28] (fun i => ∃ k : Nat, k ≤ ts.length ∧ i = .int .i64 k ∧ diffN ts k = true ∧ allIn (ts.take k) 0 (n - 1) = true) (fun i => ts.length - (intOf i).toNat)
  case atStart => exact ⟨0, Nat.zero_le _, rfl, rfl, rfl⟩
  case round =>
  obtain ⟨k, hk, rfl, hdiff, hall⟩ := hrel
  have Hdiff := Lib.hid hdiff
  have Hall := Lib.hid hall
  clear hdiff hall
  by_cases hlt : k < ts.length
  · obtain ⟨v, hkv⟩ : ∃ v, ts[k]? = some v := ⟨_, List.getElem?_eq_getElem hlt⟩
    obtain ⟨tb, toff, hT, htl, hcv⟩ := Ht1.out k v hkv
    have Hv := Lib.hid (getD_at hkv)
    have Hstp := Lib.hid (diffN_step ts k)
    have Hbad := Lib.hid (diffN_bad (ts := ts) hlt)
    have Hst2 := Lib.hid (allIn_step (lo := 0) (hi := n - 1) hkv)
    have Hbad2 := Lib.hid (allIn_bad (lo := 0) (hi := n - 1) hkv)
    have hkc : k ≤ tcap := by omega
    clear hkv
    subst hT
    rcases hvn : inB v 0 (n - 1) with _ | _
    · have Hno : Hid (mapOk q xs ts n = false) := by show mapOk _ _ _ _ = false; rw [mapOk, Hbad2.out hvn, Bool.and_false, Bool.false_and]
      go_wp2_with fail
      refine (within_any _ _ _ _).mono ?_
      rintro e w' ⟨rfl, rfl⟩
      rw [hvn]
      go_wp2
      refine bodyPost_ret (by simp [results, Try.results22, go_sem, r0, r1]) rfl (CRes.no Hno.out ?_)
      go_grown
    rcases hcon : (ts.take k).contains v with _ | _
    · go_wp2_with fail
      refine (within_any _ _ _ _).mono ?_
      rintro e w' ⟨rfl, rfl⟩
      rw [hvn]
      go_wp2_with fail
      refine (containsT_any _ tcap k ts v _ hk htn Ht1).mono ?_
      rintro e w' ⟨rfl, rfl⟩
      rw [hcon]
      go_wp2
      go_round
      case rel => exact ⟨k + 1, by omega, by go_num, by rw [Hstp.out, Hdiff.out, Hv.out, hcon]; rfl, by rw [Hst2.out, Hall.out, hvn]; rfl⟩
      case measure => simp [intOf]; omega
    · have Hno : Hid (mapOk q xs ts n = false) := by show mapOk _ _ _ _ = false; rw [mapOk, Hbad.out (by rw [Hv.out]; exact hcon), Bool.and_false]
      go_wp2_with fail
      refine (within_any _ _ _ _).mono ?_
      rintro e w' ⟨rfl, rfl⟩
      rw [hvn]
      go_wp2_with fail
      refine (containsT_any _ tcap k ts v _ hk htn Ht1).mono ?_
      rintro e w' ⟨rfl, rfl⟩
      rw [hcon]
      go_wp2
      refine bodyPost_ret (by simp [results, Try.results22, go_sem, r0, r1]) rfl (CRes.no Hno.out ?_)
      go_grown
  obtain rfl : k = ts.length := by omega
  have Hyes : Hid (mapOk q xs ts n = true) := by
    show mapOk _ _ _ _ = true
    have h := Hall.out
    rw [List.take_length] at h
    rw [mapOk, Hok.out, Hin.out, fl, h, Hdiff.out]
    rfl
  clear Hdiff Hall
  go_wp2_with fail
  refine (mapped_any q A cap xs T tcap ts _ Hok Hlen Hx1 Ht1).mono ?_
  rintro e w2 ⟨A', cap', rfl, hf, b2⟩
  have Hf := Lib.hid hf
  have B2 : Below w.heap.size w w2 := B1.trans (b2.mono B1.size)
  obtain ⟨b2c, b2f⟩ := bcell b2
  have z2 := b2.size
  have y2 : w.heap.size + 1 < w2.heap.size := by omega
  clear hf b2
  obtain ⟨us, hus⟩ : ∃ us, us = mapL ts xs := ⟨_, rfl⟩
  have Hus := Lib.hid hus
  rw [← hus] at Hf ⊢
  clear hus
  go_wp2
  refine bodyPost_ret (by simp [results, Try.results22, go_sem, b2c, y11, r0, r1]; exact Hyes.out) rfl (CRes.mk (q' := n) (ys := us) (A := A') (cap := cap') (by rw [Hyes.out]; rfl) (by rw [Hyes.out, Hus.out]; rfl) ?_ ?_)
  · refine FlatIn.mono (lo := w1.heap.size) (hi := w2.heap.size) ?_ (by omega) (by go_size) (Nat.le_refl _)
    repeat (refine FlatIn.setFar ?_ (by dsimp only; omega) _)
    exact Hf.out
  · go_grown

theorem mapBd (q : Int) (xs : List G3) (ts : List Int) (n : Int) : (if mapOk q xs ts n then mapL ts xs else []).length ≤ 1048576 := by
  split
  · next h =>
    unfold mapOk at h
    rw [Bool.and_eq_true, Bool.and_eq_true, Bool.and_eq_true, Bool.and_eq_true] at h
    have := (cOk_parts h.1.1.1.1).2.1
    rw [mapL_len]
    omega
  · simp
end Go.Proofs.Ytlihnipbdckmkaa
