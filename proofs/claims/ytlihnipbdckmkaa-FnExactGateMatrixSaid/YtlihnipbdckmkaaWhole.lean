/- impl.whole; a matrix in new memory, its pieces. -/
import Derived.Test.YtlihnipbdckmkaaMatOf
namespace Go.Proofs.Ytlihnipbdckmkaa
open Go.RowKit

def ijD (i j : Nat) : D5 := if i = j then ((1, 0, 0, 0), 0) else zeroD
set_option maxHeartbeats 1000000 in
theorem whole_any (n : Int) (w : World) :
    Calls Try.prog 63 #[.int .i64 n] w fun e w' => e = .returned (dv n 0 0 0 0) ∧ Below w.heap.size w w' := by
  go_enter Try.func63, Try.ntmps63
  go_wp2
  refine bodyPost_ret (by simp [results, Try.results63, go_sem]) rfl ⟨rfl, ?_⟩
  go_grown

/-- a matrix in new memory, handed on by a call: the pieces -/
theorem MRes.form {e : Ending} {w w' : World} {ok : Bool} {R C : Int} {xs : List D5} (h : MRes e w w' ok R C xs) :
    ∃ (A : Option Addr) (cap : Nat) (R' C' : Int) (ys : List D5), e = .returned (.tuple #[mv R' C' A ys.length cap, .bool ok]) ∧ R' = rI ok R ∧ C' = rI ok C ∧ ys = (if ok then xs else []) ∧ FlatIn w' A (flatD ys) w.heap.size w'.heap.size ∧ Below w.heap.size w w' :=
  let ⟨A, cap, h1, h2, h3⟩ := h
  ⟨A, cap, _, _, _, h1, rfl, rfl, rfl, h2, h3⟩
theorem MRes.mk {w w' : World} {ok : Bool} {R C : Int} {xs : List D5} {A : Option Addr} {cap : Nat} {R' C' : Int} {ys : List D5} (h1 : R' = rI ok R) (h2 : C' = rI ok C) (h3 : ys = (if ok then xs else [])) (hf : FlatIn w' A (flatD ys) w.heap.size w'.heap.size) (hb : Below w.heap.size w w') :
    MRes (.returned (.tuple #[mv R' C' A ys.length cap, .bool ok])) w w' ok R C xs := by
  subst h1 h2 h3
  exact ⟨A, cap, rfl, hf, hb⟩

end Go.Proofs.Ytlihnipbdckmkaa
