/- Circuits in new memory; impl.circuitIf. -/
import Derived.Test.YtlihnipbdckmkaaGoodC
import Derived.Test.YtlihnipbdckmkaaRow
namespace Go.Proofs.Ytlihnipbdckmkaa
open Go.RowKit

/-- a circuit in new memory, or nothing -/
def CRes (e : Ending) (w w' : World) (ok : Bool) (q : Int) (xs : List G3) : Prop :=
  ∃ (A : Option Addr) (cap : Nat), e = .returned (.tuple #[cv (rI ok q) A (if ok then xs else []).length cap, .bool ok]) ∧ FlatIn w' A (flatG (if ok then xs else [])) w.heap.size w'.heap.size ∧ Below w.heap.size w w'
theorem CRes.no {w w' : World} {ok : Bool} {q : Int} {xs : List G3} (h : ok = false) (hb : Below w.heap.size w w') : CRes (.returned (.tuple #[cv 0 none 0 0, .bool false])) w w' ok q xs := by
  subst h
  exact ⟨none, 0, rfl, FlatIn.nil _ _ _ (Nat.le_refl _), hb⟩
theorem CRes.yes {w w' : World} {ok : Bool} {q : Int} {xs : List G3} {A : Option Addr} {cap : Nat} (h : ok = true) (hf : FlatIn w' A (flatG xs) w.heap.size w'.heap.size) (hb : Below w.heap.size w w') :
    CRes (.returned (.tuple #[cv q A xs.length cap, .bool true])) w w' ok q xs := by
  subst h
  exact ⟨A, cap, rfl, hf, hb⟩
theorem CRes.form {e : Ending} {w w' : World} {ok : Bool} {q : Int} {xs : List G3} (h : CRes e w w' ok q xs) :
    ∃ (A : Option Addr) (cap : Nat) (q' : Int) (ys : List G3), e = .returned (.tuple #[cv q' A ys.length cap, .bool ok]) ∧ q' = rI ok q ∧ ys = (if ok then xs else []) ∧ FlatIn w' A (flatG ys) w.heap.size w'.heap.size ∧ Below w.heap.size w w' :=
  let ⟨A, cap, h1, h2, h3⟩ := h
  ⟨A, cap, _, _, h1, rfl, rfl, h2, h3⟩
theorem CRes.mk {w w' : World} {ok : Bool} {q : Int} {xs : List G3} {A : Option Addr} {cap : Nat} {q' : Int} {ys : List G3} (h1 : q' = rI ok q) (h3 : ys = (if ok then xs else [])) (hf : FlatIn w' A (flatG ys) w.heap.size w'.heap.size) (hb : Below w.heap.size w w') :
    CRes (.returned (.tuple #[cv q' A ys.length cap, .bool ok])) w w' ok q xs := by
  subst h1 h3
  exact ⟨A, cap, rfl, hf, hb⟩

set_option maxRecDepth 100000 in
set_option maxHeartbeats 4000000 in
theorem circuitIf_any (n : Int) (A : Option Addr) (cap : Nat) (xs : List G3) (w : World) (hn : xs.length ≤ 1048576) (hx : Hid (FlatAt w A (flatG xs))) :
    Calls Try.prog 46 #[.int .i64 n, .slice A xs.length cap] w fun e w' => CRes e w w' (cOk n xs) n xs := by
  obtain ⟨i0, hi, hz0, hz1, hz2⟩ := info_parts Try.infoGate
  have Hlen := Lib.hid (flatG_len xs)
  go_enter Try.func46, Try.ntmps46
  go_wp2_with (at_builtin; refine wpList_append_flat _ rfl _ _ 36 rfl (w.heap.size + 1) 29 i0 (tv 0 0 0) 3 24 Try.underlying36 hi hz0 hz1 hz2 rfl (by decide) _ 0 [] rfl (ownsRow_empty _ (by simp) (heap_top _ _ (by simp))) A xs.length cap (flatG xs) rfl Hlen.out ((hx.out.alloc _).alloc _) (by unfold maxLen; omega) (by omega) (by simp) ?_)
  intro v' w3 hown hgrow
  obtain ⟨A', cap', rfl⟩ := ownsRow_form _ hown
  have Hf := Lib.hid (FlatIn.of_owns hown rfl)
  have B3 : Below w.heap.size w w3 := Below.grown (by go_grown) hgrow (by simp; omega) (fun k hk => by simp [Value.ownBlock] at hk; omega)
  have hz3 := (hgrow.block w.heap.size (by simp; omega) (by simp [Value.ownBlock])).trans ((Below.heap_alloc _ _ _ (by simp)).trans (heap_top w _ rfl))
  have z3 := hgrow.size
  simp only [World.size_alloc] at z3
  have q0 := cell_of_row w3 w.heap.size 0 _ _ _ hz3
  have q1 := cell_of_row w3 w.heap.size 1 _ _ _ hz3
  have qf := fun o => frozen_of_row w3 w.heap.size o _ _ hz3
  have y30 : w.heap.size < w3.heap.size := by omega
  clear hown hgrow hz3
  rcases hok : cOk n xs with _ | _
  · go_wp2_with fail
    refine (implValidC_any n A' cap' xs _ hn (Hf.out.alloc _).at).mono ?_
    rintro e w4 ⟨rfl, b4⟩
    obtain ⟨b4c, b4f⟩ := bcell b4
    have z4 := b4.size
    simp only [World.size_alloc] at z4
    have B4 : Below w.heap.size w w4 := Below.chain B3 (by go_grown) b4 (by go_size)
    have y40 : w.heap.size < w4.heap.size := by omega
    rw [hok]
    go_wp2
    refine bodyPost_ret (by simp [results, Try.results46, go_sem, b4c, y30, q0, q1]) rfl (CRes.no hok ?_)
    go_grown
  · have Hok := Lib.hid hok
    go_wp2_with fail
    refine (implValidC_any n A' cap' xs _ hn (Hf.out.alloc _).at).mono ?_
    rintro e w4 ⟨rfl, b4⟩
    have L4 : LocC w4 w3.heap.size n A' xs.length cap' := LocC.below (LocC.of_row (heap_top _ _ rfl)) b4 (by simp)
    obtain ⟨_, l0, l1⟩ := L4
    have F4 := Lib.hid ((Hf.out.alloc _).call b4)
    obtain ⟨b4c, b4f⟩ := bcell b4
    have z4 := b4.size
    simp only [World.size_alloc] at z4
    have B4 : Below w.heap.size w w4 := Below.chain B3 (by go_grown) b4 (by go_size)
    have y40 : w.heap.size < w4.heap.size := by omega
    rw [Hok.out]
    go_wp2
    refine bodyPost_ret (by simp [results, Try.results46, go_sem, b4c, y30, q0, q1]) rfl (CRes.yes (A := A') (cap := cap') Hok.out ?_ ?_)
    · refine FlatIn.mono (lo := w.heap.size + 1) (hi := w3.heap.size) ?_ (by omega) (by go_size) (Nat.le_refl _)
      repeat (refine FlatIn.setFar ?_ (by dsimp only; omega) _)
      exact F4.out
    · go_grown
end Go.Proofs.Ytlihnipbdckmkaa
