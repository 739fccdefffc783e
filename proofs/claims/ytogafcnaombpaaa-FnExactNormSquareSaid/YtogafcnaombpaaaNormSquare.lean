/- FnExactNormSquare is proved: the program's NormSquare returns what the reference's returns, for all arguments. No conditions. -/
import Derived.Test.YtogafcnaombpaaaOpen2
import Derived.Test.YtogafcnaombpaaaNormSq
import Derived.Deep.DeepCutAuto
namespace Go.Proofs.Ytogafcnaombpaaa
open Go.RowKit Go.WideShapes Go.ChangeShapes Go.ChangeAt

set_option maxHeartbeats 2000000 in
theorem fnExactNormSquare_any (a b c d e : Int) (w : World) :
    Calls Try.prog 8 #[dv a b c d e] w fun r w' => r = .returned (.bool true) ∧ Below w.heap.size w w' := by
  go_enter Try.func8, Try.ntmps8
  go_wp2_with fail
  refine (toDyadic_any _ _ _ _ _ _).mono ?_
  rintro e w1 ⟨rfl, b1⟩
  obtain ⟨b1c, b1f⟩ := bcell b1
  have z1 := b1.size
  try simp only [World.size_alloc] at z1
  have B1 : Below w.heap.size w w1 := Below.chain (Below.refl _ _) (by go_grown) b1 (by go_size)
  have y10 : w.heap.size < w1.heap.size := by omega
  go_wp2_with fail
  refine (specNormSq_any _ _ _ _ _ _).mono ?_
  rintro e w2 ⟨rfl, b2⟩
  have z2 := b2.size
  try simp only [World.size_alloc] at z2
  have C2 := Below.chain b1 (by go_grown) b2 (by go_size)
  have B2 : Below w.heap.size w w2 := Below.chain B1 (by go_grown) b2 (by go_size)
  obtain ⟨b2c, b2f⟩ := bcell b2
  obtain ⟨C2c, C2f⟩ := bcellB C2
  have y20 : w.heap.size < w2.heap.size := by omega
  try (have v21 : w1.heap.size < w2.heap.size := by omega)
  unfold normSqRes mulRes dyRes
  go_wp2_with fail
  refine (toDyadic_any _ _ _ _ _ _).mono ?_
  rintro e w3 ⟨rfl, b3⟩
  have z3 := b3.size
  try simp only [World.size_alloc] at z3
  have C3 := Below.chain C2 (by go_grown) b3 (by go_size)
  have B3 : Below w.heap.size w w3 := Below.chain B2 (by go_grown) b3 (by go_size)
  obtain ⟨b3c, b3f⟩ := bcell b3
  obtain ⟨C3c, C3f⟩ := bcellB C3
  have y30 : w.heap.size < w3.heap.size := by omega
  try (have v31 : w1.heap.size < w3.heap.size := by omega)
  try (have v32 : w2.heap.size < w3.heap.size := by omega)
  go_wp2_with fail
  refine (implNormSq_any _ _ _ _ _ _).mono ?_
  rintro e w4 ⟨rfl, b4⟩
  have z4 := b4.size
  try simp only [World.size_alloc] at z4
  have C4 := Below.chain C3 (by go_grown) b4 (by go_size)
  have B4 : Below w.heap.size w w4 := Below.chain B3 (by go_grown) b4 (by go_size)
  obtain ⟨b4c, b4f⟩ := bcell b4
  obtain ⟨C4c, C4f⟩ := bcellB C4
  have y40 : w.heap.size < w4.heap.size := by omega
  try (have v41 : w1.heap.size < w4.heap.size := by omega)
  try (have v42 : w2.heap.size < w4.heap.size := by omega)
  try (have v43 : w3.heap.size < w4.heap.size := by omega)
  unfold normSqRes mulRes dyRes
  go_wp2_with fail
  refine (eqDyadic_any _ _ _ _ _ _ _ _ _ _ _).mono ?_
  rintro e w5 ⟨rfl, b5⟩
  have z5 := b5.size
  try simp only [World.size_alloc] at z5
  have C5 := Below.chain C4 (by go_grown) b5 (by go_size)
  have B5 : Below w.heap.size w w5 := Below.chain B4 (by go_grown) b5 (by go_size)
  obtain ⟨b5c, b5f⟩ := bcell b5
  obtain ⟨C5c, C5f⟩ := bcellB C5
  have y50 : w.heap.size < w5.heap.size := by omega
  try (have v51 : w1.heap.size < w5.heap.size := by omega)
  try (have v52 : w2.heap.size < w5.heap.size := by omega)
  try (have v53 : w3.heap.size < w5.heap.size := by omega)
  try (have v54 : w4.heap.size < w5.heap.size := by omega)
  go_wp2
  go_ret
  refine ⟨rfl, ?_⟩
  go_grown

set_option maxRecDepth 100000 in
theorem fnExactNormSquare_lifted (os : Os) (started : os.Started) (H : Type) (enc : TypeId × Value → H) :
    ReturnsInHanded {} Try.checked os 8 .any (Rows.fnExactNormSquareSpec.pre6 enc Try.prog Try.f8 Rows.fnExactNormSquareRow.domain false) (Rows.fnExactNormSquareSpec.post enc Try.prog Try.f8 false true false false) := by
  refine law_lifted (C := Try.checked) (tb := 4) Try.own started (by kernel_rfl) Try.func8
    (ChangeSpec.witness6 (enc := enc) (C := Try.checked) false ⟨#[], #[.agg #[.int .i64 0, .int .i64 0, .int .i64 0, .int .i64 0, .int .i64 0]], []⟩ 8 (by kernel_rfl) (by kernel_rfl) (by kernel_rfl) (by kernel_rfl))
    Try.laidOut (by kernel_rfl) rfl rfl Try.underlying4 (fun es he => ?_) ?_
  · match es, he with
    | [_], _ => rfl
  · intro W base args ds p hval0 hA hwt hsh hblk
    have hval : ∀ (j : Nat) t v, Try.f8.params[j]? = some t → args[j]? = some v → Value.okWide Try.prog W .any base t v := hval0
    have hA' : DataW.TrodAll enc Try.prog W 0 (fun _ => true) true Try.f8.params.toList args.toList ds p := hA
    rw [Try.params8] at hA' hval
    obtain ⟨v0, d0, rfl, rfl, h0⟩ := trodAll_one hA'
    obtain ⟨a0, b0, c0, e0, x0, rfl⟩ := open_dyadic (hval 0 43 v0 rfl rfl) h0
    exact fnExactNormSquare_any a0 b0 c0 e0 x0 W

theorem fnExactNormSquare_holds : Rows.FnExactNormSquareSaid :=
  OpenClaim.holds_of_wide 8 Try.f8 rfl rfl rfl rfl rfl rfl rfl ⟨rfl, rfl, rfl, rfl, rfl⟩ rfl rfl rfl rfl rfl (by kernel_rfl) Try.func8 (by kernel_rfl)
    (of_decide_eq_true (by kernel_rfl)) (by unfold Func.isWrapper; first | (rw [if_pos (by decide +kernel)]; kernel_rfl) | (rw [if_neg (by decide +kernel)]; exact ⟨rfl, rfl⟩))
    (fun os started H enc _ => fnExactNormSquare_lifted os started H enc)

end Go.Proofs.Ytogafcnaombpaaa
