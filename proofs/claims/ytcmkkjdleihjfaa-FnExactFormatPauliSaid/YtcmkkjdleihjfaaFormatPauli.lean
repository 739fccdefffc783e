/- FnExactFormatPauli is proved: the program's FormatPauli returns what the reference's returns, for all arguments. No conditions. -/
import Derived.Test.YtcmkkjdleihjfaaOpen2
import Derived.Test.YtcmkkjdleihjfaaPauF
namespace Go.Proofs.Ytcmkkjdleihjfaa
open Go.RowKit Go.WideShapes Go.ChangeShapes Go.ChangeAt

set_option maxHeartbeats 1000000 in
theorem fnExactFormatPauli_any (n a b c : Int) (w : World) :
    Calls Try.prog 3 #[.int .i64 n, pv a b c] w fun r w' => r = .returned (.bool true) ∧ Below w.heap.size w w' := by
  obtain ⟨s, t, hf⟩ : ∃ s t, fmtRes n a b c = .tuple #[.string s, .bool t] := ⟨_, _, rfl⟩
  have Hf := Lib.hid hf
  clear hf
  go_enter Try.func3, Try.ntmps3
  go_wp2_with fail
  refine (toPauli_any _ _ _ _).mono ?_
  rintro e w1 ⟨rfl, b1⟩
  obtain ⟨b1c, b1f⟩ := bcell b1
  have z1 := b1.size
  try simp only [World.size_alloc] at z1
  have B1 : Below w.heap.size w w1 := Below.chain (Below.refl _ _) (by go_grown) b1 (by go_size)
  have y10 : w.heap.size < w1.heap.size := by omega
  go_wp2_with fail
  refine (specFormatPauli_any _ _ _ _ _).mono ?_
  rintro e w2 ⟨rfl, b2⟩
  have z2 := b2.size
  try simp only [World.size_alloc] at z2
  have C2 := Below.chain b1 (by go_grown) b2 (by go_size)
  have B2 : Below w.heap.size w w2 := Below.chain B1 (by go_grown) b2 (by go_size)
  obtain ⟨b2c, b2f⟩ := bcell b2
  obtain ⟨C2c, C2f⟩ := bcellB C2
  have y20 : w.heap.size < w2.heap.size := by omega
  try (have v21 : w1.heap.size < w2.heap.size := by omega)
  rw [Hf.out]
  go_wp2_with fail
  refine (toPauli_any _ _ _ _).mono ?_
  rintro e w3 ⟨rfl, b3⟩
  have z3 := b3.size
  try simp only [World.size_alloc] at z3
  have C3 := Below.chain C2 (by go_grown) b3 (by go_size)
  have B3 : Below w.heap.size w w3 := Below.chain B2 (by go_grown) b3 (by go_size)
  obtain ⟨b3c, b3f⟩ := bcell b3
  obtain ⟨C3c, C3f⟩ := bcellB C3
  have y30 : w.heap.size < w3.heap.size := by omega
  try (have v31 : w1.heap.size < w3.heap.size := by omega)
  try (have v32 : w2.heap.size < w3.heap.size := by omega)
  go_wp2_with fail
  refine (implFormatPauli_any _ _ _ _ _).mono ?_
  rintro e w4 ⟨rfl, b4⟩
  have z4 := b4.size
  try simp only [World.size_alloc] at z4
  have C4 := Below.chain C3 (by go_grown) b4 (by go_size)
  have B4 : Below w.heap.size w w4 := Below.chain B3 (by go_grown) b4 (by go_size)
  obtain ⟨b4c, b4f⟩ := bcell b4
  obtain ⟨C4c, C4f⟩ := bcellB C4
  have y40 : w.heap.size < w4.heap.size := by omega
  try (have v41 : w1.heap.size < w4.heap.size := by omega)
  try (have v42 : w2.heap.size < w4.heap.size := by omega)
  try (have v43 : w3.heap.size < w4.heap.size := by omega)
  rw [Hf.out]
  go_wp2
  go_ret
  refine ⟨by first | rfl | simp, ?_⟩
  go_grown


set_option maxRecDepth 100000 in
theorem fnExactFormatPauli_lifted (os : Os) (started : os.Started) (H : Type) (enc : TypeId × Value → H) :
    ReturnsInHanded {} Try.checked os 3 .any (Rows.fnExactFormatPauliSpec.pre6 enc Try.prog Try.f3 Rows.fnExactFormatPauliRow.domain false) (Rows.fnExactFormatPauliSpec.post enc Try.prog Try.f3 false true false false) := by
  refine law_lifted (C := Try.checked) (tb := 4) Try.own started (by kernel_rfl) Try.func3
    (ChangeSpec.witness6 (enc := enc) (C := Try.checked) false ⟨#[], #[.int .i64 0, .agg #[.int .i64 0, .int .i64 0, .int .i64 0]], []⟩ 8 (by kernel_rfl) (by kernel_rfl) (by kernel_rfl) (by kernel_rfl))
    Try.laidOut (by kernel_rfl) rfl rfl Try.underlying4 (fun es he => ?_) ?_
  · match es, he with
    | [_, _], _ => rfl
  · intro W base args ds p hval0 hA hwt hsh hblk
    have hval : ∀ (j : Nat) t v, Try.f3.params[j]? = some t → args[j]? = some v → Value.okWide Try.prog W .any base t v := hval0
    have hA' : DataW.TrodAll enc Try.prog W 0 (fun _ => true) true Try.f3.params.toList args.toList ds p := hA
    rw [Try.params3] at hA' hval
    obtain ⟨v0, v1, d0, d1, p0, p1, rfl, rfl, rfl, h0, h1⟩ := trodAll_two hA'
    obtain ⟨n0, rfl, rfl, rfl, wn0⟩ := open_int Try.underlying3 (hval 0 3 v0 rfl rfl) h0
    obtain ⟨a1, b1, c1, rfl⟩ := open_pauli (hval 1 23 v1 rfl rfl) h1
    exact fnExactFormatPauli_any n0 a1 b1 c1 W

theorem fnExactFormatPauli_holds : Rows.FnExactFormatPauliSaid :=
  OpenClaim.holds_of_wide 3 Try.f3 rfl rfl rfl rfl rfl rfl rfl ⟨rfl, rfl, rfl, rfl, rfl⟩ rfl rfl rfl rfl rfl (by kernel_rfl) Try.func3 (by kernel_rfl)
    (of_decide_eq_true (by kernel_rfl)) (by unfold Func.isWrapper; first | (rw [if_pos (by decide +kernel)]; kernel_rfl) | (rw [if_neg (by decide +kernel)]; exact ⟨rfl, rfl⟩))
    (fun os started H enc _ => fnExactFormatPauli_lifted os started H enc)

end Go.Proofs.Ytcmkkjdleihjfaa
