/- append of a made length onto nil; slices.Grow of nil; slices.Concat of two slices of gates. -/
import Derived.Test.YtlihnipbdckmkaaInvM
namespace Go.Proofs.Ytlihnipbdckmkaa
open Go.RowKit

section
variable {P : Program} (w : World)
theorem run_append_made (t u ty e : TypeId) (i : TypeInfo) (z : Value) (ht : P.underlying t = some (.slice e)) (hu : P.underlying u = some (.int .i64)) (hi : P.info? e = some i) (hz : i.zero = some z) (hsz : 0 < i.size)
    (n : Nat) (h0 : 0 < n) (hn : n ≤ 100000) (h48 : n * i.bytes ≤ 281474976710656) :
    (Builtin.append_ #[t, u] ty #[.slice none 0 0, .int .i64 (n : Int)]).run P w =
      .ok (.slice (some ⟨w.heap.size, 0, none⟩) n (grownCap w n 0 e)) (w.drew.alloc (.cells (Builtin.zeroCells z.cells n ++ Builtin.zeroCells z.cells (grownCap w n 0 e - n)) e)) := by
  have hn0 : n ≠ 0 := by omega
  have h63' : ¬ (9223372036854775807 < (n : Int)) := by omega
  have h48' : ¬ (281474976710656 < Builtin.nextslicecap n 0 * i.bytes) := by rw [nextslicecap_zero h0]; omega
  have h48i : ¬ (281474976710656 < (n : Int) * (i.bytes : Int)) := by
    have : ((n * i.bytes : Nat) : Int) = (n : Int) * (i.bytes : Int) := Int.natCast_mul _ _
    omega
  have hw : IntKind.i64.wrap (n : Int) = (n : Int) := IntWalk.i64_in _ (by omega)
  have hneg : ¬ ((n : Int) < 0) := by omega
  simp [Builtin.append_, run_underlying ht, run_underlying hu, sizeOf, typeInfo, zeroValue, hi, hz, asInt, asIntOf, hw, hneg, h48i, hn0, h63', h48', Question.forced, run_firstCells_none, newRow, grownCap]
  intro h
  exact absurd h (Nat.mul_ne_zero hn0 (by omega))

/-- the slice that is cut to no elements owns its row -/
theorem owns_made {base : Nat} {e : TypeId} {size n : Nat} (z : Array Value) (hzs : z.size = size) (hb : base ≤ w.heap.size) (hn : n ≤ 100000) :
    (w.drew.alloc (.cells (Builtin.zeroCells z n ++ Builtin.zeroCells z (grownCap w n 0 e - n)) e)).ownsRow base e size (.slice (some ⟨w.heap.size, 0, none⟩) 0 (grownCap w n 0 e)) 0 [] := by
  refine World.ownsRow_made w.drew _ _ hb (grownCap_le_maxLen w n 0 e (by unfold maxLen; omega)) ?_
  have hge := grownCap_ge w n 0 e
  rw [Array.size_append, size_zeroCells, size_zeroCells, hzs, ← Nat.add_mul]
  congr 1
  omega

theorem wpList_append_made {ops : Array Oper} {rest : List Oper} {o : Oper} {a : Act} {Q : Exit → Act → World → Prop} (hgd : o.guard = none) (s x : Operand) (t u : TypeId)
    (ho : o.op = .call { callee := .builtin .append, args := #[s, x], argTypes := #[t, u] })
    (e : TypeId) (i : TypeInfo) (z : Value) (ht : P.underlying t = some (.slice e)) (hu : P.underlying u = some (.int .i64)) (hi : P.info? e = some i) (hz : i.zero = some z) (hsz : 0 < i.size)
    (n : Nat) (hs : a.eval s = .slice none 0 0) (hx : a.eval x = .int .i64 (n : Int)) (h0 : 0 < n) (hn : n ≤ 100000) (h48 : n * i.bytes ≤ 281474976710656)
    (h : wpList P ops Q rest (a.put o.dst (.slice (some ⟨w.heap.size, 0, none⟩) n (grownCap w n 0 e))) (w.drew.alloc (.cells (Builtin.zeroCells z.cells n ++ Builtin.zeroCells z.cells (grownCap w n 0 e - n)) e))) : wpList P ops Q (o :: rest) a w := by
  refine wpList_plain hgd fun _ hK => ?_
  have hr := run_append_made (P := P) w t u o.type e i z ht hu hi hz hsz n h0 hn h48
  unfold Oper.wp execOp
  simp only [ho, resolve, invoke, builtin, Sem.run_bind, Sem.run_pure, Result.andThen_ok, List.map_toArray, List.map_cons, List.map_nil, hs, hx, hr]
  exact hK _ _ h
end

set_option maxRecDepth 100000 in
set_option maxHeartbeats 4000000 in
theorem grow_any (n : Nat) (w : World) (hn : n ≤ 1000) :
    Calls Try.prog 69 #[.slice none 0 0, .int .i64 (n : Int)] w fun e w' => ∃ (A : Option Addr) (cap : Nat), e = .returned (.slice A 0 cap) ∧ w'.ownsRow w.heap.size 29 3 (.slice A 0 cap) 0 [] ∧ Below w.heap.size w w' := by
  obtain ⟨i0, hi, hz0, hz1, hz2⟩ := info_parts Try.infoGate
  by_cases h0 : 0 < n
  · have hsz : 0 < i0.size := by omega
    have hn1 : n ≤ 100000 := by omega
    have h48 : n * i0.bytes ≤ 281474976710656 := by rw [hz2]; omega
    go_enter Try.func69, Try.ntmps69
    go_wp2_with (at_builtin; refine wpList_append_made _ rfl _ _ 36 3 rfl 29 i0 (tv 0 0 0) Try.underlying36 Try.underlying3 hi hz0 hsz n rfl rfl h0 hn1 h48 ?_)
    have Hown := Lib.hid (owns_made w (n := n) (base := w.heap.size) (e := 29) (size := 3) (tv 0 0 0).cells rfl (Nat.le_refl _) hn1)
    go_wp2
    go_ret
    refine ⟨_, _, rfl, Hown.out, ?_⟩
    go_grown
  · obtain rfl : n = 0 := by omega
    go_enter Try.func69, Try.ntmps69
    go_wp2
    go_ret
    exact ⟨none, 0, rfl, World.ownsRow_nil _ _ _ _, Below.refl _ _⟩
end Go.Proofs.Ytlihnipbdckmkaa
