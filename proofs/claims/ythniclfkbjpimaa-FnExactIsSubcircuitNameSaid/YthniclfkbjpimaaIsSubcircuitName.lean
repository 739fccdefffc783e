/- FnExactIsSubcircuitName is proved: the program's IsSubcircuitName returns what the reference's returns, for all arguments. No conditions. -/
import Derived.Test.YthniclfkbjpimaaOpen2
import Derived.Test.YthniclfkbjpimaaName
namespace Go.Proofs.Ythniclfkbjpimaa
open Go.RowKit Go.WideShapes Go.ChangeShapes Go.ChangeAt

set_option maxHeartbeats 1000000 in
theorem fnExactIsSubcircuitName_any (s : ByteArray) (w : World) (hs : s.size ≤ maxLen) :
    Calls Try.prog 4 #[.string s] w fun e w' => e = .returned (.bool true) ∧ Below w.heap.size w w' := by
  have Hs := Lib.hid hs
  clear hs
  by_cases hbig : 1048576 < s.size
  · go_enter Try.func4, Try.ntmps4
    go_wp2
    go_ret
    exact ⟨rfl, Below.refl _ _⟩
  · go_enter Try.func4, Try.ntmps4
    go_wp2_with fail
    refine (specName_any _ _ Hs.out).mono ?_
    rintro e w' ⟨rfl, rfl⟩
    go_wp2_with fail
    refine (implName_any _ _ Hs.out).mono ?_
    rintro e w' ⟨rfl, rfl⟩
    go_wp2
    go_ret
    exact ⟨rfl, Below.refl _ _⟩

set_option maxRecDepth 100000 in
theorem fnExactIsSubcircuitName_lifted (os : Os) (started : os.Started) (H : Type) (enc : TypeId × Value → H) :
    ReturnsInHanded {} Try.checked os 4 .any (Rows.fnExactIsSubcircuitNameSpec.pre6 enc Try.prog Try.f4 Rows.fnExactIsSubcircuitNameRow.domain false) (Rows.fnExactIsSubcircuitNameSpec.post enc Try.prog Try.f4 false true false false) := by
  refine law_lifted (C := Try.checked) (tb := 4) Try.own started (by kernel_rfl) Try.func4
    (ChangeSpec.witness6 (enc := enc) (C := Try.checked) false ⟨#[], #[.string ByteArray.empty], []⟩ 8 (by kernel_rfl) (by kernel_rfl) (by kernel_rfl) (by kernel_rfl))
    Try.laidOut (by kernel_rfl) rfl rfl Try.underlying4 (fun es he => ?_) ?_
  · match es, he with
    | [_], _ => rfl
  · intro W base args ds p hval0 hA hwt hsh hblk
    have hval : ∀ (j : Nat) t v, Try.f4.params[j]? = some t → args[j]? = some v → Value.okWide Try.prog W .any base t v := hval0
    have hA' : DataW.TrodAll enc Try.prog W 0 (fun _ => true) true Try.f4.params.toList args.toList ds p := hA
    rw [Try.params4] at hA' hval
    obtain ⟨v0, d0, rfl, rfl, h0⟩ := trodAll_one hA'
    obtain ⟨s0, rfl, rfl, rfl, hs0⟩ := ChangeMaps.open_string Try.underlying9 (hval 0 9 v0 rfl rfl) h0
    exact fnExactIsSubcircuitName_any s0 W hs0

theorem fnExactIsSubcircuitName_holds : Rows.FnExactIsSubcircuitNameSaid :=
  OpenClaim.holds_of_wide 4 Try.f4 rfl rfl rfl rfl rfl rfl rfl ⟨rfl, rfl, rfl, rfl, rfl⟩ rfl rfl rfl rfl rfl (by kernel_rfl) Try.func4 (by kernel_rfl)
    (of_decide_eq_true (by kernel_rfl)) (by unfold Func.isWrapper; first | (rw [if_pos (by decide +kernel)]; kernel_rfl) | (rw [if_neg (by decide +kernel)]; exact ⟨rfl, rfl⟩))
    (fun os started H enc _ => fnExactIsSubcircuitName_lifted os started H enc)

end Go.Proofs.Ythniclfkbjpimaa
