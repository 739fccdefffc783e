/- Parsing, of the reference: signed numbers and numbers below a million. -/
import Derived.Test.YtgpocbhlcmohmaaDoorParS
namespace Go.Proofs.YtgpocbhlcmohmaaDoor
open Go.RowKit

theorem sgF_lt : ∀ (k : Nat) (l : List UInt8), l.length = k → sgF 0 l < 10 ^ k
  | 0, l, h => by
    rw [List.length_eq_zero_iff] at h
    subst h
    decide
  | k + 1, l, h => by
    obtain ⟨t, b, rfl⟩ : ∃ t b, l = t ++ [b] := ⟨l.dropLast, l.getLast (by intro e; simp [e] at h), (List.dropLast_concat_getLast _).symm⟩
    have ih := sgF_lt k t (by simpa using h)
    rw [sgF_snoc, Nat.pow_succ]
    split
    · rename_i hd
      have : 48 ≤ b.toNat ∧ b.toNat ≤ 57 := by simpa [isD] using hd
      omega
    · omega
theorem sgF_12 {l : List UInt8} (h : l.length ≤ 12) : sgF 0 l < 1000000000000 :=
  Nat.lt_of_lt_of_le (sgF_lt l.length l rfl) (Nat.le_trans (Nat.pow_le_pow_right (by omega) h) (by decide))
theorem sgF_step {l : List UInt8} {k : Nat} {b : UInt8} (h : l[k]? = some b) : sgF 0 (l.take (k + 1)) = if isD b then 10 * sgF 0 (l.take k) + (b.toNat - 48) else sgF 0 (l.take k) := by
  obtain ⟨hk, rfl⟩ := List.getElem?_eq_some_iff.1 h
  rw [List.take_succ_eq_append_getElem hk, sgF_snoc]
theorem at_list {s : ByteArray} {i : Nat} (h : i < s.size) : s.data.toList[i]? = some s[i] := by
  rw [List.getElem?_eq_getElem (by simpa using h)]
  rfl
theorem signB_neg {s : ByteArray} (h1 : 1 < s.size) (h : s[0].toNat = 45) : signB s.data.toList = -(sgF 0 ((s.data.toList.take 12).drop 1) : Int) := by
  have e0 := at_list (s := s) (i := 0) (by omega)
  have hl : s.data.toList.length = s.size := by simp
  rcases hs : s.data.toList with _ | ⟨b, _ | ⟨c, r⟩⟩
  · rw [hs] at hl; simp at hl; omega
  · rw [hs] at hl; simp at hl; omega
  · rw [hs] at e0
    simp at e0
    rw [signB, if_pos (by rw [e0]; exact h)]
    rfl
theorem signB_pos {s : ByteArray} (h : ∀ h1 : 1 < s.size, ¬ s[0].toNat = 45) : signB s.data.toList = (sgF 0 ((s.data.toList.take 12).drop 0) : Int) := by
  have hl : s.data.toList.length = s.size := by simp
  rcases hs : s.data.toList with _ | ⟨b, _ | ⟨c, r⟩⟩
  · rfl
  · rfl
  · have h1 : 1 < s.size := by rw [hs] at hl; simp at hl; omega
    have e0 := at_list (s := s) (i := 0) (by omega)
    rw [hs] at e0
    simp at e0
    rw [signB, if_neg (by rw [e0]; exact h h1)]
    rfl
theorem cut_at {s : ByteArray} {a k : Nat} (h : a + k < s.size) (h2 : a + k < 12) : ((s.data.toList.take 12).drop a)[k]? = some s[a + k] := by
  rw [List.getElem?_drop, List.getElem?_take, if_pos h2, at_list h]
theorem cut_len (s : ByteArray) (a : Nat) : ((s.data.toList.take 12).drop a).length = min 12 s.size - a := by
  rw [List.length_drop, List.length_take]
  simp
theorem cut_all {s : ByteArray} {a k : Nat} (h : s.size ≤ a + k ∨ 12 ≤ a + k) : ((s.data.toList.take 12).drop a).take k = (s.data.toList.take 12).drop a := List.take_of_length_le (by rw [cut_len]; omega)
theorem isD_iff {b : UInt8} : isD b = true ↔ (48 ≤ b.toNat ∧ b.toNat ≤ 57) := by simp [isD]

set_option maxRecDepth 100000 in
set_option maxHeartbeats 2000000 in
theorem l1Signed_any (s : ByteArray) (w : World) (hs : s.size ≤ 2097152) :
    Calls Tryd.prog 51 #[.string s] w fun e w' => e = .returned (.int .i64 (signB s.data.toList)) ∧ w = w' := by
  by_cases hl : 1 < s.size
  · have hli : (1 : Int) < (s.size : Int) := by omega
    have hl0 : 0 < s.size := by omega
    by_cases hm : s[0].toNat = 45
    · have hmi : (s[0].toNat : Int) = 45 := by omega
      have Hsg := Lib.hid (signB_neg hl hm)
      go_enter Tryd.func51, Tryd.ntmps51
      go_wp2_with fail
      go_loop [3, 5] (fun n i => ∃ k N : Nat, 1 + k ≤ s.size ∧ 1 + k ≤ 12 ∧ i = .int .i64 ((1 + k : Nat) : Int) ∧ n = .int .i64 (N : Int) ∧ N = sgF 0 (((s.data.toList.take 12).drop 1).take k)) (fun _ i => s.size - (intOf i).toNat)
      case atStart => exact ⟨0, 0, by omega, by omega, rfl, rfl, rfl⟩
      case round =>
        obtain ⟨k, N, hk, hk12, rfl, rfl, hN⟩ := hrel
        obtain ⟨i, hi⟩ : ∃ i, i = 1 + k := ⟨_, rfl⟩
        have hNb : N < 1000000000000 := by rw [hN]; exact sgF_12 (by rw [List.length_take]; omega)
        have HN := Lib.hid hN
        rw [← hi] at hk hk12
        have Hi := Lib.hid hi
        have ei : (((1 + k : Nat) : Int)) = (i : Int) := by rw [hi]
        rw [ei]
        clear hN hi ei
        by_cases h1 : i < s.size
        · have h1i : (i : Int) < (s.size : Int) := by omega
          by_cases h2 : i < 12
          · have h2i : (i : Int) < 12 := by omega
            have Hst := Lib.hid (sgF_step (cut_at (s := s) (a := 1) (k := k) (by rw [← Hi.out]; exact h1) (by rw [← Hi.out]; exact h2)))
            have Hb : Hid (s[1 + k]'(by rw [← Hi.out]; exact h1) = s[i]) := by show _ = _; congr 1; exact Hi.out.symm
            rcases hd : isD s[i] with _ | _
            · have hd' : ¬ (48 ≤ s[i].toNat ∧ s[i].toNat ≤ 57) := fun h => by rw [isD_iff.2 h] at hd; cases hd
              have Hs2 : Hid (N = sgF 0 (((s.data.toList.take 12).drop 1).take (k + 1))) := by show _ = _; rw [Hst.out, Hb.out, hd, HN.out]; rfl
              have h3 : (s[i].toNat : Int) < 48 ∨ ((48 : Int) ≤ (s[i].toNat : Int) ∧ (57 : Int) < (s[i].toNat : Int)) := by omega
              rcases h3 with h3 | ⟨h3, h4⟩
              all_goals
                go_wp2
                go_round
                case rel => exact ⟨k + 1, N, by have := Hi.out; omega, by have := Hi.out; omega, by have := Hi.out; rw [show 1 + (k + 1) = i + 1 by omega]; go_num, rfl, Hs2.out⟩
                case measure => simp [intOf]; omega
            · obtain ⟨h3, h4⟩ := isD_iff.1 hd
              have h3i : (48 : Int) ≤ (s[i].toNat : Int) := by omega
              have h4i : (s[i].toNat : Int) ≤ 57 := by omega
              have Hs2 : Hid (10 * N + (s[i].toNat - 48) = sgF 0 (((s.data.toList.take 12).drop 1).take (k + 1))) := by show _ = _; rw [Hst.out, Hb.out, hd, HN.out]; rfl
              go_wp2
              go_round
              case rel => exact ⟨k + 1, 10 * N + (s[i].toNat - 48), by have := Hi.out; omega, by have := Hi.out; omega, by have := Hi.out; rw [show 1 + (k + 1) = i + 1 by omega]; go_num, by go_num, Hs2.out⟩
              case measure => simp [intOf]; omega
          · have h2i : ¬ (i : Int) < 12 := by omega
            have Hs2 : Hid (signB s.data.toList = -(N : Int)) := by
              show _ = _
              have := Hi.out
              rw [Hsg.out, HN.out, cut_all (by omega)]
            go_wp2
            go_ret
            rw [Hs2.out]
            exact ⟨by go_num, rfl⟩
        · have h1i : ¬ (i : Int) < (s.size : Int) := by omega
          have Hs2 : Hid (signB s.data.toList = -(N : Int)) := by
            show _ = _
            have := Hi.out
            rw [Hsg.out, HN.out, cut_all (by omega)]
          go_wp2
          go_ret
          rw [Hs2.out]
          exact ⟨by go_num, rfl⟩
    · have hmi : ¬ (s[0].toNat : Int) = 45 := by omega
      have Hsg := Lib.hid (signB_pos (s := s) fun _ => hm)
      go_enter Tryd.func51, Tryd.ntmps51
      go_wp2_with fail
      go_loop [3, 5] (fun n i => ∃ k N : Nat, 0 + k ≤ s.size ∧ 0 + k ≤ 12 ∧ i = .int .i64 ((0 + k : Nat) : Int) ∧ n = .int .i64 (N : Int) ∧ N = sgF 0 (((s.data.toList.take 12).drop 0).take k)) (fun _ i => s.size - (intOf i).toNat)
      case atStart => exact ⟨0, 0, by omega, by omega, rfl, rfl, rfl⟩
      case round =>
        obtain ⟨k, N, hk, hk12, rfl, rfl, hN⟩ := hrel
        obtain ⟨i, hi⟩ : ∃ i, i = 0 + k := ⟨_, rfl⟩
        have hNb : N < 1000000000000 := by rw [hN]; exact sgF_12 (by rw [List.length_take]; omega)
        have HN := Lib.hid hN
        rw [← hi] at hk hk12
        have Hi := Lib.hid hi
        have ei : (((0 + k : Nat) : Int)) = (i : Int) := by rw [hi]
        rw [ei]
        clear hN hi ei
        by_cases h1 : i < s.size
        · have h1i : (i : Int) < (s.size : Int) := by omega
          by_cases h2 : i < 12
          · have h2i : (i : Int) < 12 := by omega
            have Hst := Lib.hid (sgF_step (cut_at (s := s) (a := 0) (k := k) (by rw [← Hi.out]; exact h1) (by rw [← Hi.out]; exact h2)))
            have Hb : Hid (s[0 + k]'(by rw [← Hi.out]; exact h1) = s[i]) := by show _ = _; congr 1; exact Hi.out.symm
            rcases hd : isD s[i] with _ | _
            · have hd' : ¬ (48 ≤ s[i].toNat ∧ s[i].toNat ≤ 57) := fun h => by rw [isD_iff.2 h] at hd; cases hd
              have Hs2 : Hid (N = sgF 0 (((s.data.toList.take 12).drop 0).take (k + 1))) := by show _ = _; rw [Hst.out, Hb.out, hd, HN.out]; rfl
              have h3 : (s[i].toNat : Int) < 48 ∨ ((48 : Int) ≤ (s[i].toNat : Int) ∧ (57 : Int) < (s[i].toNat : Int)) := by omega
              rcases h3 with h3 | ⟨h3, h4⟩
              all_goals
                go_wp2
                go_round
                case rel => first | exact ⟨k + 1, N, by have := Hi.out; omega, by have := Hi.out; omega, by have := Hi.out; rw [show 0 + (k + 1) = i + 1 by omega]; go_num, rfl, Hs2.out⟩ | (refine ⟨k + 1, by have := Hi.out; omega, by have := Hi.out; omega, by have := Hi.out; omega, by have := Hs2.out; rw [List.drop_zero] at this; rw [← this]⟩)
                case measure => simp [intOf]; omega
            · obtain ⟨h3, h4⟩ := isD_iff.1 hd
              have h3i : (48 : Int) ≤ (s[i].toNat : Int) := by omega
              have h4i : (s[i].toNat : Int) ≤ 57 := by omega
              have Hs2 : Hid (10 * N + (s[i].toNat - 48) = sgF 0 (((s.data.toList.take 12).drop 0).take (k + 1))) := by show _ = _; rw [Hst.out, Hb.out, hd, HN.out]; rfl
              go_wp2
              go_round
              case rel => exact ⟨k + 1, 10 * N + (s[i].toNat - 48), by have := Hi.out; omega, by have := Hi.out; omega, by have := Hi.out; rw [show 0 + (k + 1) = i + 1 by omega]; go_num, by go_num, Hs2.out⟩
              case measure => simp [intOf]; omega
          · have h2i : ¬ (i : Int) < 12 := by omega
            have Hs2 : Hid (signB s.data.toList = (N : Int)) := by
              show _ = _
              have := Hi.out
              rw [Hsg.out, HN.out, cut_all (by omega)]
            go_wp2
            go_ret
            rw [Hs2.out]
            exact ⟨by go_num, rfl⟩
        · have h1i : ¬ (i : Int) < (s.size : Int) := by omega
          have Hs2 : Hid (signB s.data.toList = (N : Int)) := by
            show _ = _
            have := Hi.out
            rw [Hsg.out, HN.out, cut_all (by omega)]
          go_wp2
          go_ret
          rw [Hs2.out]
          exact ⟨by go_num, rfl⟩
  · have hli : ¬ (1 : Int) < (s.size : Int) := by omega
    have Hsg := Lib.hid (signB_pos (s := s) fun h => absurd h hl)
    go_enter Tryd.func51, Tryd.ntmps51
    go_wp2_with fail
    go_loop [3, 5] (fun n i => ∃ k N : Nat, 0 + k ≤ s.size ∧ 0 + k ≤ 12 ∧ i = .int .i64 ((0 + k : Nat) : Int) ∧ n = .int .i64 (N : Int) ∧ N = sgF 0 (((s.data.toList.take 12).drop 0).take k)) (fun _ i => s.size - (intOf i).toNat)
    case atStart => exact ⟨0, 0, by omega, by omega, rfl, rfl, rfl⟩
    case round =>
      obtain ⟨k, N, hk, hk12, rfl, rfl, hN⟩ := hrel
      obtain ⟨i, hi⟩ : ∃ i, i = 0 + k := ⟨_, rfl⟩
      have hNb : N < 1000000000000 := by rw [hN]; exact sgF_12 (by rw [List.length_take]; omega)
      have HN := Lib.hid hN
      rw [← hi] at hk hk12
      have Hi := Lib.hid hi
      have ei : (((0 + k : Nat) : Int)) = (i : Int) := by rw [hi]
      rw [ei]
      clear hN hi ei
      by_cases h1 : i < s.size
      · have h1i : (i : Int) < (s.size : Int) := by omega
        by_cases h2 : i < 12
        · have h2i : (i : Int) < 12 := by omega
          have Hst := Lib.hid (sgF_step (cut_at (s := s) (a := 0) (k := k) (by rw [← Hi.out]; exact h1) (by rw [← Hi.out]; exact h2)))
          have Hb : Hid (s[0 + k]'(by rw [← Hi.out]; exact h1) = s[i]) := by show _ = _; congr 1; exact Hi.out.symm
          rcases hd : isD s[i] with _ | _
          · have hd' : ¬ (48 ≤ s[i].toNat ∧ s[i].toNat ≤ 57) := fun h => by rw [isD_iff.2 h] at hd; cases hd
            have Hs2 : Hid (N = sgF 0 (((s.data.toList.take 12).drop 0).take (k + 1))) := by show _ = _; rw [Hst.out, Hb.out, hd, HN.out]; rfl
            have h3 : (s[i].toNat : Int) < 48 ∨ ((48 : Int) ≤ (s[i].toNat : Int) ∧ (57 : Int) < (s[i].toNat : Int)) := by omega
            rcases h3 with h3 | ⟨h3, h4⟩
            all_goals
              go_wp2
              go_round
              case rel => first | exact ⟨k + 1, N, by have := Hi.out; omega, by have := Hi.out; omega, by have := Hi.out; rw [show 0 + (k + 1) = i + 1 by omega]; go_num, rfl, Hs2.out⟩ | (refine ⟨k + 1, by have := Hi.out; omega, by have := Hi.out; omega, by have := Hi.out; omega, by have := Hs2.out; rw [List.drop_zero] at this; rw [← this]⟩)
              case measure => simp [intOf]; omega
          · obtain ⟨h3, h4⟩ := isD_iff.1 hd
            have h3i : (48 : Int) ≤ (s[i].toNat : Int) := by omega
            have h4i : (s[i].toNat : Int) ≤ 57 := by omega
            have Hs2 : Hid (10 * N + (s[i].toNat - 48) = sgF 0 (((s.data.toList.take 12).drop 0).take (k + 1))) := by show _ = _; rw [Hst.out, Hb.out, hd, HN.out]; rfl
            go_wp2
            go_round
            case rel => exact ⟨k + 1, 10 * N + (s[i].toNat - 48), by have := Hi.out; omega, by have := Hi.out; omega, by have := Hi.out; rw [show 0 + (k + 1) = i + 1 by omega]; go_num, by go_num, Hs2.out⟩
            case measure => simp [intOf]; omega
        · have h2i : ¬ (i : Int) < 12 := by omega
          have Hs2 : Hid (signB s.data.toList = (N : Int)) := by
            show _ = _
            have := Hi.out
            rw [Hsg.out, HN.out, cut_all (by omega)]
          go_wp2
          go_ret
          rw [Hs2.out]
          exact ⟨by go_num, rfl⟩
      · have h1i : ¬ (i : Int) < (s.size : Int) := by omega
        have Hs2 : Hid (signB s.data.toList = (N : Int)) := by
          show _ = _
          have := Hi.out
          rw [Hsg.out, HN.out, cut_all (by omega)]
        go_wp2
        go_ret
        rw [Hs2.out]
        exact ⟨by go_num, rfl⟩
end Go.Proofs.YtgpocbhlcmohmaaDoor
