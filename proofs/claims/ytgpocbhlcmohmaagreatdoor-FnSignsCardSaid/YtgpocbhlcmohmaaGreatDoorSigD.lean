/- FnSigns: signs of real numbers, and texts of dyadic numbers read back; the draws. -/
import Derived.Test.YtgpocbhlcmohmaaGreatDoorSign
import Derived.Test.YtgpocbhlcmohmaaGreatDoorDrw5
import Derived.Test.YtgpocbhlcmohmaaGreatDoorParE
namespace Go.Proofs.YtgpocbhlcmohmaaGreatDoor
open Go.RowKit

theorem even_sq2 {u : Int} (h : (u * u) % 2 = 0) : u % 2 = 0 := by
  rcases Int.emod_two_eq u with h0 | h1
  · exact h0
  · exfalso
    rw [Int.mul_emod, h1] at h
    simp at h
/-- 2 has no rational square root -/
theorem root_two2 : ∀ (m : Nat) (u v : Int), u.natAbs ≤ m → u * u = 2 * v * v → u = 0
  | 0, u, v, h, _ => by omega
  | m + 1, u, v, h, e => by
    have e' : u * u = 2 * (v * v) := by rw [e, Int.mul_assoc]
    have hu : u % 2 = 0 := even_sq2 (by rw [e']; omega)
    obtain ⟨a, rfl⟩ : ∃ a, u = 2 * a := ⟨u / 2, by omega⟩
    have e2 : v * v = 2 * (a * a) := by
      have : 2 * a * (2 * a) = 4 * (a * a) := by
        rw [Int.mul_assoc, Int.mul_left_comm a 2 a, ← Int.mul_assoc]
        omega
      omega
    have hv : v % 2 = 0 := even_sq2 (by rw [e2]; omega)
    obtain ⟨b, rfl⟩ : ∃ b, v = 2 * b := ⟨v / 2, by omega⟩
    have e3 : a * a = 2 * b * b := by
      have : 2 * b * (2 * b) = 4 * (b * b) := by
        rw [Int.mul_assoc, Int.mul_left_comm b 2 b, ← Int.mul_assoc]
        omega
      rw [Int.mul_assoc]
      omega
    have ha : a = 0 := root_two2 m a b (by omega) e3
    omega
theorem sgn_neg (n : Int) : sgn (-n) = -sgn n := by
  rcases sgn_cases n with ⟨h, e⟩ | ⟨h, e⟩ | ⟨h, e⟩ <;> rcases sgn_cases (-n) with ⟨h', e'⟩ | ⟨h', e'⟩ | ⟨h', e'⟩ <;> omega
theorem sgn2_neg (u v : Int) : sgn2 (-u) (-v) = -sgn2 u v := by
  unfold sgn2
  rw [sgn_neg, sgn_neg, show -u + -v = -(u + v) by omega, sgn_neg, show -sgn u * -sgn v = sgn u * sgn v by grind, show -u * -u - 2 * -v * -v = u * u - 2 * v * v by grind]
  split
  · rfl
  · grind
theorem sgn2_zero {u v : Int} : sgn2 u v = 0 ↔ u = 0 ∧ v = 0 := by
  constructor
  · intro h
    unfold sgn2 at h
    split at h
    · rename_i hs
      rcases sgn_cases u with ⟨h1, e1⟩ | ⟨h1, e1⟩ | ⟨h1, e1⟩ <;> rcases sgn_cases v with ⟨h2, e2⟩ | ⟨h2, e2⟩ | ⟨h2, e2⟩ <;> rcases sgn_cases (u + v) with ⟨h3, e3⟩ | ⟨h3, e3⟩ | ⟨h3, e3⟩ <;> rw [e1, e2] at hs <;> omega
    · rename_i hs
      rcases sgn_cases (u * u - 2 * v * v) with ⟨h3, e3⟩ | ⟨h3, e3⟩ | ⟨h3, e3⟩
      · rw [e3] at h
        rcases sgn_cases u with ⟨h1, e1⟩ | ⟨h1, e1⟩ | ⟨h1, e1⟩ <;> rw [e1] at h hs <;> omega
      · have hu := root_two2 _ u v (Nat.le_refl _) (by omega)
        rw [hu] at hs
        exact absurd (by simp [sgn]) hs
      · rw [e3] at h
        rcases sgn_cases u with ⟨h1, e1⟩ | ⟨h1, e1⟩ | ⟨h1, e1⟩ <;> rw [e1] at h hs <;> omega
  · rintro ⟨rfl, rfl⟩
    rfl
theorem sgn_is (n : Int) : sgn n = -1 ∨ sgn n = 0 ∨ sgn n = 1 := by
  rcases sgn_cases n with ⟨_, e⟩ | ⟨_, e⟩ | ⟨_, e⟩ <;> simp [e]
theorem sgn2_is (u v : Int) : sgn2 u v = -1 ∨ sgn2 u v = 0 ∨ sgn2 u v = 1 := by
  unfold sgn2
  split
  · exact sgn_is _
  · rcases sgn_is u with e | e | e <;> rcases sgn_is (u * u - 2 * v * v) with e' | e' | e' <;> rw [e, e'] <;> simp
theorem signOk_neg (u v : Int) : signOk (-u) (-v) = signOk u v := by
  have h : ∀ x : Int, coefB (-x) = coefB x := by
    intro x
    rw [Bool.eq_iff_iff]
    simp only [coefB, inB, decide_eq_true_eq]
    omega
  rw [signOk, signOk, h, h]

/-! ### texts of dyadic numbers -/
theorem prRes_txt2 {a b c d : Int} (h : rOk a b c d = true) : prRes (txt4 a b c d) = .tuple #[rv a b c d, .bool true] := by
  have hb := rOk_bd h
  rw [prRes_four (pcsB_txt4 a b c d), par_itB rfl hb.1, par_itB rfl hb.2.1, par_itB rfl hb.2.2.1, par_itB rfl hb.2.2.2]
  simp [okR, h, rI_t]
theorem txt4_free (a b c d : Int) : (47 : UInt8) ∉ (txt4 a b c d).data.toList := by
  rw [txt4_list, join_two, join_two, join_two, Lib.join_one]
  simp only [List.mem_append, List.mem_singleton, not_or]
  have h := fun n => itoa_free (c := 47) (.inr rfl) n
  refine ⟨⟨h a, by decide⟩, ⟨h b, by decide⟩, ⟨h c, by decide⟩, h d⟩
theorem pcsB_txtD (a b c d : Int) (u : Nat) : pcsB 47 (txtD a b c d (u : Int)) = [txt4 a b c d, itB (u : Int)] := by
  have hl : (txtD a b c d (u : Int)).data.toList = Lib.join [(txt4 a b c d).data.toList, Lib.itoa (u : Int)] [47] := by
    rw [join_two, Lib.join_one, itoa_pos]
    simp [txtD, ByteArray.data_append]
  rw [pcsB_of_join hl (by simp) (fun w hw => ?_)]
  · rfl
  · simp only [List.mem_cons, List.not_mem_nil, or_false] at hw
    rcases hw with rfl | rfl
    · exact txt4_free a b c d
    · exact itoa_free (.inr rfl) _
theorem pdRes_txt {a b c d e : Int} (h : dOk a b c d e = true) : pdRes (txtD a b c d e) = .tuple #[dv a b c d e, .bool true] := by
  have he := dOk_exp h
  obtain ⟨u, rfl⟩ := Int.eq_ofNat_of_zero_le he.1
  have hr : readB (itB (u : Int)).data.toList = (u : Int) := by
    show readB (Lib.itoa (u : Int)) = _
    rw [itoa_pos]
    exact readB_dec (by omega)
  rw [pdRes_two (pcsB_txtD a b c d u) (prRes_txt2 (dOk_r h)), hr, h]
  simp [pdTup, rI_t]
theorem txtD_sz {a b c d e : Int} (h : dOk a b c d e = true) : (txtD a b c d e).size ≤ 200 := by
  have he := dOk_exp h
  obtain ⟨u, rfl⟩ := Int.eq_ofNat_of_zero_le he.1
  have h1 := txt4_size (dOk_r h)
  have h2 := dec60_size (u := u) (by omega)
  rw [txtD, ByteArray.size_append, ByteArray.size_append]
  simp only [Int.toNat_natCast]
  show _ + 1 + _ ≤ 200
  omega

/-! ### the draws -/
set_option maxRecDepth 100000 in
set_option maxHeartbeats 4000000 in
theorem drawReal_any (A : Option Addr) (n cap : Nat) (w : World) (hB : Hid (ByteAt w A n)) :
    Calls Tryz.prog 5 #[.slice A n cap] w fun e w' => ∃ u v : Int, e = .returned (.tuple #[.int .i64 u, .int .i64 v]) ∧ (-1000000001 ≤ u ∧ u ≤ 1000000001) ∧ (-1000000001 ≤ v ∧ v ≤ 1000000001) ∧ Below w.heap.size w w' := by
  go_enter Tryz.func5, Tryz.ntmps5
  go_wp2_with fail
  generalize hW0 : w.alloc (.cells #[.slice A n cap, .int .i64 0, .int .u64 0] 41) = W0
  have B0 : Below w.heap.size w W0 := by rw [← hW0]; clear hW0; go_grown
  have hd0 : Hid (Dr W0 w.heap.size A n cap 0) := by rw [← hW0] at B0 ⊢; exact Dr.start hB.out B0 (by omega) (heap_top _ _ rfl)
  clear hW0
  refine (coef_any w.heap.size A n cap 0 _ hd0 (by omega)).mono ?_
  rintro e w1 ⟨u, rfl, hu, hd1, ht1⟩
  have Hd1 := Lib.hid hd1
  have Hu := Lib.hid hu
  have B1 := B0.trans (Below.mono (ht1.far (B := w.heap.size) (Nat.le_refl _) B0.size) (Nat.le_refl _))
  clear hd1 ht1 hd0 hu
  go_wp2_with fail
  refine (coef_any w.heap.size A n cap _ _ Hd1 (by omega)).mono ?_
  rintro e w2 ⟨v, rfl, hv, _, ht2⟩
  have Hv := Lib.hid hv
  have B2 := B1.trans (Below.mono (ht2.far (B := w.heap.size) (Nat.le_refl _) B1.size) (Nat.le_refl _))
  clear ht2 hv
  go_wp2
  go_ret2
  exact ⟨u, v, rfl, Hu.out, Hv.out, B2⟩

set_option maxRecDepth 100000 in
set_option maxHeartbeats 4000000 in
theorem drawValD_any (A : Option Addr) (n cap : Nat) (w : World) (hB : Hid (ByteAt w A n)) :
    Calls Tryz.prog 18 #[.slice A n cap] w fun e w' => ∃ a b c d x : Int, e = .returned (dv a b c d x) ∧ Below w.heap.size w w' := by
  go_enter Tryz.func18, Tryz.ntmps18
  go_wp2_with fail
  generalize hW0 : (w.alloc (.cells #[.int .i64 0, .int .i64 0, .int .i64 0, .int .i64 0, .int .i64 0] 31)).alloc (.cells #[.slice A n cap, .int .i64 0, .int .u64 0] 41) = W0
  have B0 : Below w.heap.size w W0 := by rw [← hW0]; clear hW0; go_grown
  have hd0 : Hid (Dr W0 (w.heap.size + 1) A n cap 0) := by rw [← hW0] at B0 ⊢; exact Dr.start hB.out B0 (by omega) (heap_top _ _ (by simp))
  have R0 : Hid (Zero5 W0 w.heap.size) := by rw [← hW0]; exact (show Zero5 _ _ from heap_top w _ rfl).alloc _
  clear hW0
  refine (anyDyadic_any _ A n cap 0 _ hd0 (by omega)).mono ?_
  rintro e w1 ⟨a, b, c, d, x, rfl, _, ht1⟩
  have B1 := Touch.new B0 ht1 (by omega)
  have R0' := R0.out.touch ht1 (by omega)
  have s0 := R0'.lt
  obtain ⟨r0, r1, r2, r3, r4⟩ := R0'.cell
  have f0 := R0'.frozen
  clear R0' ht1
  go_wp2
  refine bodyPost_ret (by simp [results, Tryz.results18, go_sem, r0, r1, r2, r3, r4]) rfl ⟨a, b, c, d, x, rfl, ?_⟩
  go_grown

set_option maxRecDepth 100000 in
set_option maxHeartbeats 4000000 in
theorem drawFmtD_any (A : Option Addr) (n cap : Nat) (w : World) (hB : Hid (ByteAt w A n)) :
    Calls Tryz.prog 8 #[.slice A n cap] w fun e w' => ∃ a b c d x : Int, e = .returned (dv a b c d x) ∧ Below w.heap.size w w' := by
  go_enter Tryz.func8, Tryz.ntmps8
  go_wp2_with fail
  refine (drawValD_any A n cap _ (hB.out.below (B := w.heap.size) (by go_grown) (Nat.le_refl _))).mono ?_
  rintro e w1 ⟨a, b, c, d, x, rfl, b1⟩
  obtain ⟨b1c, b1f⟩ := bcell b1
  have z1 := b1.size
  simp only [World.size_alloc] at z1
  have B1 : Below w.heap.size w w1 := Below.chain (Below.refl _ _) (by go_grown) b1 (by go_size)
  go_wp2
  refine bodyPost_ret (by simp [results, Tryz.results8, go_sem, b1c]) rfl ⟨a, b, c, d, x, rfl, ?_⟩
  go_grown

theorem Tryz.stoodDS : Tryz.prog.stoodInHeld 31 = false := by kernel_rfl
theorem Tryz.guardDS : Tryz.prog.eqGuardType Tryz.prog.depth 31 = false := by kernel_rfl
theorem run_neD_same (a b c d e : Int) (w : World) : (binOp .neq 31 (dv a b c d e) (dv a b c d e)).run Tryz.prog w = .ok (.bool false) w := by
  rw [run_neq_struct, run_equalIn_agg w 9999 31 _ _ (by kernel_rfl) Tryz.stoodDS]
  simp only [Program.fieldsOf, Tryz.underlying31]
  simp [go_sem]
theorem run_gdDS (op : BinOp) (t : TypeId) (x y : Operand) (xs ys : Array Value) (w : World) (ht : t = 31) : (eqGuard op t x y (.agg xs) (.agg ys)).run Tryz.prog w = .ok () w := by
  subst ht
  exact run_eqGuard_agg w op _ x y xs ys Tryz.guardDS
end Go.Proofs.YtgpocbhlcmohmaaGreatDoor
