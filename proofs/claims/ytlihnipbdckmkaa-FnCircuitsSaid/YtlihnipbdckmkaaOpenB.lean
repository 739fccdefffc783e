/- Arguments of the laws, opened: bytes. -/
import Derived.Test.YtlihnipbdckmkaaOpenS
import Derived.Test.YtlihnipbdckmkaaDrw3
import Derived.ChangeSlices
import Derived.DataShut
namespace Go.Proofs.Ytlihnipbdckmkaa
open Go.RowKit Go.WideShapes Go.ChangeShapes Go.ChangeAt Go.Joins

theorem open_bytes {H : Type} {enc : TypeId × Value → H} {P : Program} {W : World} {base : Nat} {t e : TypeId} {v : Value} {d : DataW H} {p : List MemPlace} (ht : P.underlying t = some (.slice e)) (he : P.underlying e = some (.int .u8)) (hc : P.cellsOf e = 1)
    (hv : Value.okWide P W .any base t v) (h : DataW.Trod enc P W 0 (fun _ => true) true t v d p) : ∃ (A : Option Addr) (n cap : Nat), v = .slice A n cap ∧ n ≤ maxLen ∧ ByteAt W A n := by
  obtain ⟨a1, len, cap, rfl⟩ := okWide_slice ht hv
  obtain ⟨f, hf⟩ := h
  rcases open_ints ht he hc hf with ⟨hcs, _⟩ | ⟨a, len', cap', zs, hcs, _, hl, hm, hz, _, hcell, hwz⟩
  · simp [Value.cells] at hcs
    obtain ⟨rfl, rfl, rfl⟩ := hcs
    exact ⟨none, 0, 0, rfl, Nat.zero_le _, fun j hj => by omega⟩
  · simp [Value.cells] at hcs
    obtain ⟨rfl, rfl, rfl⟩ := hcs
    simp only [if_true] at hz
    refine ⟨some a, len, cap, rfl, by omega, fun j hj => ?_⟩
    have h1 := hcell j (by omega)
    have h0 := hcell 0 (by omega)
    obtain ⟨s1, s2⟩ := cell_spot h0
    obtain ⟨b, o, s⟩ := a
    have e0 : (⟨b, o, s⟩ : Addr).add 0 = ⟨b, o, s⟩ := by simp [Addr.add]
    rw [e0] at s1 s2
    simp only at s1 s2
    subst s1
    rw [add_off] at h1
    have hw := hwz (zs.getD j 0) (by rw [List.getD_eq_getElem?_getD, List.getElem?_eq_getElem (by omega)]; exact List.getElem_mem _)
    have hw' := (Lit.wf_int_iff .u8 _).1 hw
    have e1 : IntKind.u8.min = 0 := rfl
    have e2 : IntKind.u8.max = 255 := rfl
    rw [e1, e2] at hw'
    exact ⟨b, o, _, rfl, s2, h1, hw'.1, hw'.2⟩

theorem Try.cellsU8 : Try.prog.cellsOf 5 = 1 := by kernel_rfl

/-- a bool, and nothing turned -/
def SomeB (w : World) (e : Ending) (w' : World) : Prop := ∃ k : Bool, e = .returned (.bool k) ∧ w = w'

set_option maxHeartbeats 1000000 in
theorem big_any (A A2 : Option Addr) (n c n2 c2 : Nat) (w : World) (hn : n ≤ maxLen) :
    Calls Try.prog 11 #[.slice A n c, .slice A2 n2 c2] w fun e w' => SomeB w e w' := by
  unfold maxLen at hn
  by_cases h : n ≤ 1048576
  · by_cases h2 : (n2 : Int) ≤ 1048576 - n
    · go_enter Try.func11, Try.ntmps11
      go_wp2
      go_ret
      exact ⟨_, rfl, rfl⟩
    · go_enter Try.func11, Try.ntmps11
      go_wp2
      go_ret
      exact ⟨_, rfl, rfl⟩
  · go_enter Try.func11, Try.ntmps11
    go_wp2
    go_ret
    exact ⟨_, rfl, rfl⟩
end Go.Proofs.Ytlihnipbdckmkaa
