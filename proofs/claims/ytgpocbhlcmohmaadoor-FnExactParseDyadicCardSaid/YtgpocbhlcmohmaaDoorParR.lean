/- Parsing, of the reference: numbers below a million. -/
import Derived.Test.YtgpocbhlcmohmaaDoorParI
namespace Go.Proofs.YtgpocbhlcmohmaaDoor
open Go.RowKit

theorem head_at {s : ByteArray} (h : 0 < s.size) : s.data.toList.head? = some s[0] := by
  rw [List.head?_eq_getElem?, at_list h]
theorem readB_out {s : ByteArray} (h : s.size = 0 ∨ 6 < s.size) : readB s.data.toList = -1 := by
  have hl : s.data.toList.length = s.size := by simp
  rw [readB, if_pos (by omega)]
theorem readB_zero {s : ByteArray} (h1 : 1 < s.size) (h : s[0].toNat = 48) : readB s.data.toList = -1 := by
  have hl : s.data.toList.length = s.size := by simp
  rw [readB, if_pos (Or.inr (Or.inr ⟨by rw [head_at (by omega)]; exact congrArg some (UInt8.toNat_inj.1 h), by omega⟩))]
theorem readB_in {s : ByteArray} (h0 : 0 < s.size) (h6 : s.size ≤ 6) (h : ¬ (s[0].toNat = 48 ∧ 1 < s.size)) : readB s.data.toList = if s.data.toList.all isD then (sgF 0 s.data.toList : Int) else -1 := by
  have hl : s.data.toList.length = s.size := by simp
  rw [readB, if_neg]
  rintro (h1 | h1 | ⟨h1, h2⟩)
  · omega
  · omega
  · rw [head_at h0] at h1
    exact h ⟨by rw [Option.some.inj h1]; rfl, by omega⟩
theorem isD_step {s : ByteArray} {k : Nat} (h : k < s.size) : (s.data.toList.take (k + 1)).all isD = ((s.data.toList.take k).all isD && isD s[k]) := by
  rw [List.take_succ_eq_append_getElem (by simpa using h), List.all_append]
  simp; rfl
theorem isD_bad {s : ByteArray} {k : Nat} (h : k < s.size) (hb : isD s[k] = false) : s.data.toList.all isD = false := by
  rw [List.all_eq_false]
  exact ⟨s.data.toList[k]'(by simpa using h), List.getElem_mem _, by rw [Bool.not_eq_true]; exact hb⟩

set_option maxRecDepth 100000 in
set_option maxHeartbeats 2000000 in
theorem l1Read_any (s : ByteArray) (w : World) (hs : s.size ≤ 2097152) :
    Calls Tryd.prog 37 #[.string s] w fun e w' => e = .returned (.int .i64 (readB s.data.toList)) ∧ w = w' := by
  by_cases hin : 0 < s.size ∧ s.size ≤ 6
  · have Hin : Hid (inB (s.size : Int) 1 6 = true) := inB_t.2 (by omega)
    obtain ⟨h0, h6⟩ := hin
    by_cases hz : s[0].toNat = 48 ∧ 1 < s.size
    · have hzi : (s[0].toNat : Int) = 48 := by omega
      have h1i : (1 : Int) < (s.size : Int) := by omega
      have Hr := Lib.hid (readB_zero hz.2 hz.1)
      clear hz
      go_enter Tryd.func37, Tryd.ntmps37
      go_wp2_with fail
      refine (l1In_any _ _ _ _).mono ?_
      rintro e w' ⟨rfl, rfl⟩
      rw [Hin.out]
      go_wp2
      go_ret
      rw [Hr.out]
      exact ⟨rfl, rfl⟩
    · have Hr := Lib.hid (readB_in h0 h6 hz)
      have hz2 : ¬ (s[0].toNat : Int) = 48 ∨ ((s[0].toNat : Int) = 48 ∧ ¬ (1 : Int) < (s.size : Int)) := by omega
      clear hz
      rcases hz2 with hz2 | ⟨hz2, hz3⟩
      all_goals
        go_enter Tryd.func37, Tryd.ntmps37
        go_wp2_with fail
        refine (l1In_any _ _ _ _).mono ?_
        rintro e w' ⟨rfl, rfl⟩
        rw [Hin.out]
        go_wp2_with fail
        go_loop [3, 4] (fun n i => ∃ k N : Nat, k ≤ s.size ∧ i = .int .i64 (k : Int) ∧ n = .int .i64 (N : Int) ∧ N = sgF 0 (s.data.toList.take k) ∧ (s.data.toList.take k).all isD = true) (fun _ i => s.size - (intOf i).toNat)
        case atStart => exact ⟨0, 0, by omega, rfl, rfl, rfl, rfl⟩
        case round =>
          obtain ⟨k, N, hk, rfl, rfl, hN, hall⟩ := hrel
          have hNb : N < 1000000000000 := by rw [hN]; exact sgF_12 (by rw [List.length_take]; omega)
          have HN := Lib.hid hN
          have Hall := Lib.hid hall
          clear hN hall
          by_cases h1 : k < s.size
          · have h1i' : (k : Int) < (s.size : Int) := by omega
            have Hst := Lib.hid (sgF_step (at_list h1))
            have Hal := Lib.hid (isD_step h1)
            rcases hd : isD s[k] with _ | _
            · have hd' : ¬ (48 ≤ s[k].toNat ∧ s[k].toNat ≤ 57) := fun h => by rw [isD_iff.2 h] at hd; cases hd
              have Hbad : Hid (readB s.data.toList = -1) := by show _ = _; rw [Hr.out, isD_bad h1 hd]; rfl
              have h3 : (s[k].toNat : Int) < 48 ∨ ((48 : Int) ≤ (s[k].toNat : Int) ∧ (57 : Int) < (s[k].toNat : Int)) := by omega
              rcases h3 with h3 | ⟨h3, h4⟩
              all_goals
                go_wp2
                go_ret
                rw [Hbad.out]
                exact ⟨rfl, rfl⟩
            · obtain ⟨h3, h4⟩ := isD_iff.1 hd
              have h3i : (48 : Int) ≤ (s[k].toNat : Int) := by omega
              have h4i : (s[k].toNat : Int) ≤ 57 := by omega
              have Hs2 : Hid (10 * N + (s[k].toNat - 48) = sgF 0 (s.data.toList.take (k + 1))) := by show _ = _; rw [Hst.out, hd, HN.out]; rfl
              have Hal2 : Hid ((s.data.toList.take (k + 1)).all isD = true) := by show _ = _; rw [Hal.out, Hall.out, hd]; rfl
              go_wp2
              go_round
              case rel => exact ⟨k + 1, 10 * N + (s[k].toNat - 48), by omega, by go_num, by go_num, Hs2.out, Hal2.out⟩
              case measure => simp [intOf]; omega
          · have h1i' : ¬ (k : Int) < (s.size : Int) := by omega
            have Hs2 : Hid (readB s.data.toList = (N : Int)) := by
              show _ = _
              have e : s.data.toList.take k = s.data.toList := List.take_of_length_le (by simp; omega)
              rw [Hr.out, if_pos (by rw [← e]; exact Hall.out), HN.out, e]
            go_wp2
            go_ret
            rw [Hs2.out]
            exact ⟨rfl, rfl⟩
  · have Hin : Hid (inB (s.size : Int) 1 6 = false) := inB_f.2 (by omega)
    have Hr := Lib.hid (readB_out (s := s) (by omega))
    clear hin
    go_enter Tryd.func37, Tryd.ntmps37
    go_wp2_with fail
    refine (l1In_any _ _ _ _).mono ?_
    rintro e w' ⟨rfl, rfl⟩
    rw [Hin.out]
    go_wp2
    go_ret
    rw [Hr.out]
    exact ⟨rfl, rfl⟩
end Go.Proofs.YtgpocbhlcmohmaaDoor
