/- impl.matrixOf: a matrix whose cells a function gives. -/
import Derived.Test.YtlihnipbdckmkaaGoodM
import Derived.Test.YtlihnipbdckmkaaOwnB
import Derived.Deep.AppendLies
import Derived.Deep.LoopGhost
namespace Go.Proofs.Ytlihnipbdckmkaa
open Go.RowKit

/-- the first n cells of a matrix, row by row -/
def cellsM (C n : Nat) (cell : Nat → Nat → D5) : List D5 := (List.range n).map fun t => cell (t / C) (t % C)
def okM (C n : Nat) (ok : Nat → Nat → Bool) : Bool := (List.range n).all fun t => ok (t / C) (t % C)
theorem cellsM_len (C n : Nat) (cell : Nat → Nat → D5) : (cellsM C n cell).length = n := by simp [cellsM]
theorem idx_div {i j C : Nat} (hj : j < C) : (i * C + j) / C = i ∧ (i * C + j) % C = j := by
  have hC : 0 < C := by omega
  rw [Nat.mul_comm]
  exact ⟨by rw [Nat.mul_add_div hC, Nat.div_eq_of_lt hj, Nat.add_zero], by rw [Nat.mul_add_mod, Nat.mod_eq_of_lt hj]⟩
theorem cellsM_step {C i j : Nat} (cell : Nat → Nat → D5) (hj : j < C) : cellsM C (i * C + j + 1) cell = cellsM C (i * C + j) cell ++ [cell i j] := by
  unfold cellsM
  rw [List.range_succ, List.map_append, List.map_singleton, (idx_div hj).1, (idx_div hj).2]
theorem okM_step {C i j : Nat} (ok : Nat → Nat → Bool) (hj : j < C) : okM C (i * C + j + 1) ok = (okM C (i * C + j) ok && ok i j) := by
  unfold okM
  rw [List.range_succ, List.all_append, List.all_cons, List.all_nil, Bool.and_true, (idx_div hj).1, (idx_div hj).2]
theorem okM_bad {C R i j : Nat} {ok : Nat → Nat → Bool} (hi : i < R) (hj : j < C) (h : ok i j = false) : okM C (R * C) ok = false := by
  unfold okM
  rw [List.all_eq_false]
  refine ⟨i * C + j, ?_, by rw [(idx_div hj).1, (idx_div hj).2, h]; simp⟩
  rw [List.mem_range]
  calc i * C + j < i * C + C := by omega
    _ = (i + 1) * C := (Nat.succ_mul i C).symm
    _ ≤ R * C := Nat.mul_le_mul_right C hi
theorem cellsM_congr {C n : Nat} {f g : Nat → Nat → D5} (h : ∀ i j, f i j = g i j) : cellsM C n f = cellsM C n g := by
  unfold cellsM
  simp [h]

/-- a matrix in new memory, or nothing -/
def MRes (e : Ending) (w w' : World) (ok : Bool) (R C : Int) (xs : List D5) : Prop :=
  ∃ (A : Option Addr) (cap : Nat), e = .returned (.tuple #[mv (rI ok R) (rI ok C) A (if ok then xs else []).length cap, .bool ok]) ∧ FlatIn w' A (flatD (if ok then xs else [])) w.heap.size w'.heap.size ∧ Below w.heap.size w w'
theorem MRes.no {w w' : World} {ok : Bool} {R C : Int} {xs : List D5} (h : ok = false) (hb : Below w.heap.size w w') : MRes (.returned (.tuple #[mv 0 0 none 0 0, .bool false])) w w' ok R C xs := by
  subst h
  exact ⟨none, 0, rfl, FlatIn.nil _ _ _ (Nat.le_refl _), hb⟩
theorem MRes.yes {w w' : World} {ok : Bool} {R C : Int} {xs : List D5} {A : Option Addr} {cap : Nat} (h : ok = true) (hf : FlatIn w' A (flatD xs) w.heap.size w'.heap.size) (hb : Below w.heap.size w w') :
    MRes (.returned (.tuple #[mv R C A xs.length cap, .bool true])) w w' ok R C xs := by
  subst h
  exact ⟨A, cap, rfl, hf, hb⟩


/-- block b holds the matrix that is being made: its sizes, and a slice of the call's own -/
def Made (w : World) (b base : Nat) (r c : Int) (xs : List D5) : Prop :=
  ∃ (A : Option Addr) (cap : Nat), w.heap[b]? = some (.cells #[.int .i64 r, .int .i64 c, .slice A xs.length cap] 26 (0, 0)) ∧ w.ownsRow base 60 5 (.slice A xs.length cap) xs.length ((flatD xs).map (Value.int .i64))
/-- block b is a matrix of zeros -/
def Zero3 (w : World) (b : Nat) : Prop := w.heap[b]? = some (.cells #[.int .i64 0, .int .i64 0, .slice none 0 0] 26 (0, 0))

set_option maxRecDepth 100000 in
set_option maxHeartbeats 8000000 in
theorem matrixOf_any (rows cols : Int) (K : FuncId) (caps : Array Value) (cell : Nat → Nat → D5) (ok : Nat → Nat → Bool) (w : World)
    (hrun : ∀ (args : Array Value) (W : World), (callFunc K args).run Try.prog W = .ok (.enter K args) W)
    (hcell : Hid (∀ (i j : Nat) (W : World), (i : Int) < rows → (j : Int) < cols → Below w.heap.size w W → Calls Try.prog K (#[.int .i64 i, .int .i64 j] ++ caps) W fun e W' => e = .returned (dyRes (ok i j) (cell i j)) ∧ Below W.heap.size W W')) :
    Calls Try.prog 28 #[.int .i64 rows, .int .i64 cols, .func (Fn.func K) #[] caps] w fun e w' => MRes e w w' (dimB rows && dimB cols && okM cols.toNat (rows.toNat * cols.toNat) ok) rows cols (cellsM cols.toNat (rows.toNat * cols.toNat) cell) := by
  rcases hr : dimB rows with _ | _
  · go_enter Try.func28, Try.ntmps28
    go_wp2_with fail
    refine (isDim_any _ _).mono ?_
    rintro e w' ⟨rfl, rfl⟩
    go_wp2
    refine bodyPost_ret (by simp [results, Try.results28, go_sem]) rfl (MRes.no (by simp) ?_)
    go_grown
  rcases hc : dimB cols with _ | _
  · go_enter Try.func28, Try.ntmps28
    go_wp2_with fail
    refine (isDim_any _ _).mono ?_
    rintro e w' ⟨rfl, rfl⟩
    go_wp2_with fail
    refine (isDim_any _ _).mono ?_
    rintro e w' ⟨rfl, rfl⟩
    go_wp2
    refine bodyPost_ret (by simp [results, Try.results28, go_sem]) rfl (MRes.no (by simp) ?_)
    go_grown
  obtain ⟨R, rfl, hR⟩ : ∃ R : Nat, rows = (R : Int) ∧ R ≤ 32 := ⟨rows.toNat, by have := dimB_iff.1 hr; omega, by have := dimB_iff.1 hr; omega⟩
  obtain ⟨C, rfl, hC⟩ : ∃ C : Nat, cols = (C : Int) ∧ C ≤ 32 := ⟨cols.toNat, by have := dimB_iff.1 hc; omega, by have := dimB_iff.1 hc; omega⟩
  simp only [Int.toNat_natCast, Bool.true_and]
  obtain ⟨i0, hi, hz0, hz1, hz2⟩ := info_parts Try.infoDyadic
  go_enter Try.func28, Try.ntmps28
  go_wp2_with fail
  refine (isDim_any _ _).mono ?_
  rintro e w' ⟨rfl, rfl⟩
  go_wp2_with fail
  refine (isDim_any _ _).mono ?_
  rintro e w' ⟨rfl, rfl⟩
  rw [hc]
  clear hr hc
  go_wp2_with fail
  go_loopg [26] R (fun gk s wr => ∃ i : Nat, s = .int .i64 i ∧ i + gk = R ∧ okM C (i * C) ok = true ∧ Made wr (w.heap.size + 1) (w.heap.size + 2) R C (cellsM C (i * C) cell) ∧ Zero3 wr w.heap.size ∧ Below w.heap.size w wr)
  case atStart =>
    refine ⟨0, rfl, by omega, by simp [okM], ?_, ?_, ?_⟩
    · rw [show cellsM C (0 * C) cell = [] from by simp [cellsM]]
      exact ⟨none, 0, heap_top _ _ (by simp), World.ownsRow_nil _ _ _ _⟩
    · exact (Below.heap_alloc _ _ _ (by go_size)).trans (heap_top _ _ rfl)
    · go_grown
  case round =>
    obtain ⟨i, rfl, hig, hoki, hmi, hzi, hbi⟩ := hrel
    have Hoki := Lib.hid hoki
    have Hmi := Lib.hid hmi
    have Hzi := Lib.hid hzi
    clear hoki hmi hzi
    by_cases hlt : i < R
    · go_wp2_with fail
      go_loopg [30] C (fun gk s wr => ∃ j : Nat, s = .int .i64 j ∧ j + gk = C ∧ okM C (i * C + j) ok = true ∧ Made wr (w.heap.size + 1) (w.heap.size + 2) R C (cellsM C (i * C + j) cell) ∧ Zero3 wr w.heap.size ∧ Below w.heap.size w wr)
      case atStart => exact ⟨0, rfl, by omega, Hoki.out, Hmi.out, Hzi.out, hbi⟩
      case round =>
        obtain ⟨j, rfl, hjg, hokj, hmj, hzj, hbj⟩ := hrel
        have Hokj := Lib.hid hokj
        have Hmj := Lib.hid hmj
        have Hzj := Lib.hid hzj
        clear hokj hmj hzj
        have zj := hbj.size
        have zj1 : w.heap.size + 1 < wr.heap.size := by
          obtain ⟨A, cap, hb, _⟩ := Hmj.out
          exact (Array.getElem?_eq_some_iff.1 hb).1
        have zj0 : w.heap.size < wr.heap.size := by omega
        by_cases hlj : j < C
        · have Hc := Lib.hid (hcell.out i j)
          rcases hok : ok i j with _ | _
          · have Hbad := Lib.hid (okM_bad hlt hlj hok)
            have Hd : Hid (dyRes (ok i j) (cell i j) = .tuple #[dv 0 0 0 0 0, .bool false]) := by show dyRes _ _ = _; simp [hok, dyRes, rI_f]
            have q0 := cell_of_row wr w.heap.size 0 _ _ _ Hzj.out
            have q1 := cell_of_row wr w.heap.size 1 _ _ _ Hzj.out
            have q2 := cell_of_row wr w.heap.size 2 _ _ _ Hzj.out
            have qf := fun o => frozen_of_row wr w.heap.size o _ _ Hzj.out
            go_wp2_with fail
            refine (Hc.out _ (by omega) (by omega) hbj).mono ?_
            rintro e w2 ⟨rfl, b2⟩
            obtain ⟨b2c, b2f⟩ := bcell b2
            have B2 : Below w.heap.size w w2 := hbj.trans (b2.mono hbj.size)
            have z2 := b2.size
            rw [Hd.out]
            have y20 : w.heap.size < w2.heap.size := by omega
            have y21 : w.heap.size + 1 < w2.heap.size := by omega
            go_wp2
            refine bodyPost_ret (by simp [results, Try.results28, go_sem, b2c, zj0, y20, q0, q1, q2]) rfl (MRes.no Hbad.out ?_)
            go_grown
          · have Hd : Hid (dyRes (ok i j) (cell i j) = .tuple #[dvD (cell i j), .bool true]) := by show dyRes _ _ = _; simp [hok, dyRes, rI_t]
            have Hok := Lib.hid hok
            clear hok
            obtain ⟨A, cap, hb, hown⟩ := Hmj.out
            have k2 := cell_of_row wr (w.heap.size + 1) 2 _ _ _ hb
            have k2f := frozen_of_row wr (w.heap.size + 1) 2 _ _ hb
            have Hb := Lib.hid hb
            have Hown := Lib.hid hown
            clear hb hown
            have hlen : (cellsM C (i * C + j) cell).length ≤ 1024 := by
              rw [cellsM_len]
              have : i * C ≤ 31 * 32 := Nat.mul_le_mul (by omega) hC
              omega
            go_wp2_with fail
            refine (Hc.out _ (by omega) (by omega) hbj).mono ?_
            rintro e w2 ⟨rfl, b2⟩
            obtain ⟨b2c, b2f⟩ := bcell b2
            have B2 : Below w.heap.size w w2 := hbj.trans (b2.mono hbj.size)
            have z2 := b2.size
            have hb2 := Lib.hid ((b2.block _ zj1).trans Hb.out)
            have hz2' := Lib.hid ((b2.block _ (by omega)).trans Hzj.out)
            have how := Lib.hid (owns_below Hown.out b2)
            rw [Hd.out]
            have y20 : w.heap.size < w2.heap.size := by omega
            have y21 : w.heap.size + 1 < w2.heap.size := by omega
            go_wp2_with (at_builtin; refine wpList_append_own _ rfl _ _ 24 rfl (w.heap.size + 2) 60 i0 (dv 0 0 0 0 0) 5 40 Try.underlying24 hi hz0 hz1 hz2 rfl (by decide) _ (cellsM C (i * C + j) cell).length _ rfl ((how.out.alloc _).alloc _) ⟨w2.heap.size + 1, 0, none⟩ 1 1 [.int .i64 (cell i j).1.1, .int .i64 (cell i j).1.2.1, .int .i64 (cell i j).1.2.2.1, .int .i64 (cell i j).1.2.2.2, .int .i64 (cell i j).2] rfl rfl ?c1 ?c2 ?c3 ?c4 ?c5 ?_)
            case c1 => exact cells_at _ (heap_top _ _ (by simp))
            case c2 => intro u hu; simp at hu; rcases hu with rfl | rfl | rfl | rfl | rfl <;> rfl
            case c3 => unfold maxLen; omega
            case c4 => omega
            case c5 => simp; omega
            intro v' w3 hown' hgrow _
            obtain ⟨g, cap', rfl, hg1, hg2⟩ := hown'.form (by omega)
            have hne : ∀ b, b < w.heap.size + 2 → some b ≠ (Value.slice A (cellsM C (i * C + j) cell).length cap).ownBlock := fun b hb e => by
              have := (how.out.lt b e.symm).1
              omega
            have hb3 := Lib.hid ((hgrow.block (w.heap.size + 1) (by simp; omega) (hne _ (by omega))).trans ((Below.heap_alloc _ _ _ (by simp; omega)).trans ((Below.heap_alloc _ _ _ (by omega)).trans hb2.out)))
            have hz3 := Lib.hid ((hgrow.block w.heap.size (by simp; omega) (hne _ (by omega))).trans ((Below.heap_alloc _ _ _ (by simp; omega)).trans ((Below.heap_alloc _ _ _ (by omega)).trans hz2'.out)))
            have k3 := cell_of_row w3 (w.heap.size + 1) 2 _ _ _ hb3.out
            have k3f := frozen_of_row w3 (w.heap.size + 1) 2 _ _ hb3.out
            have B3 : Below w.heap.size w w3 := Below.grown (by go_grown) hgrow (by simp; omega) (fun k hk => by have := (how.out.lt k hk).1; omega)
            have Hown' := Lib.hid hown'
            have z3 := hgrow.size
            simp only [World.size_alloc] at z3
            clear hown' hgrow
            go_wp2
            go_roundg (C - (j + 1))
            case measure => omega
            case rel =>
              refine ⟨j + 1, by go_num, by omega, ?_, ?_, ?_, ?_⟩
              · rw [← Nat.add_assoc, okM_step ok hlj, Hokj.out, Hok.out]; rfl
              · have e1 : cellsM C (i * C + (j + 1)) cell = cellsM C (i * C + j) cell ++ [cell i j] := by rw [← Nat.add_assoc]; exact cellsM_step cell hlj
                have e2 : (cellsM C (i * C + j) cell ++ [cell i j]).length = (cellsM C (i * C + j) cell).length + 1 := by simp
                rw [e1]
                refine ⟨some ⟨g, 0, none⟩, cap', ?_, ?_⟩
                · rw [e2]
                  exact heap_setCell_same w3 (w.heap.size + 1) 2 _ _ _ hb3.out
                · rw [e2, flatD_append, List.map_append]
                  exact ownsRow_setCell_below Hown'.out (by dsimp only; omega) _
              · exact (Below.heap_setCell _ _ _ _ (by dsimp only; omega)).trans hz3.out
              · go_grown
        · have hj' : j = C := by omega
          subst hj'
          go_wp2
          go_roundg (R - (i + 1))
          case measure => omega
          case rel => exact ⟨i + 1, by go_num, by omega, by rw [Nat.succ_mul]; exact Hokj.out, by rw [Nat.succ_mul]; exact Hmj.out, Hzj.out, hbj⟩
    · obtain ⟨A, cap, hb, hown⟩ := Hmi.out
      have k0 := cell_of_row wr (w.heap.size + 1) 0 _ _ _ hb
      have k1 := cell_of_row wr (w.heap.size + 1) 1 _ _ _ hb
      have k2 := cell_of_row wr (w.heap.size + 1) 2 _ _ _ hb
      have q0 := cell_of_row wr w.heap.size 0 _ _ _ Hzi.out
      have q1 := cell_of_row wr w.heap.size 1 _ _ _ Hzi.out
      have q2 := cell_of_row wr w.heap.size 2 _ _ _ Hzi.out
      have qf := fun o => frozen_of_row wr w.heap.size o _ _ Hzi.out
      have Hown := Lib.hid hown
      clear hb hown
      have hi' : i = R := by omega
      subst hi'
      go_wp2
      refine bodyPost_ret (by simp [results, Try.results28, go_sem, q0, q1, q2]) rfl (MRes.yes (A := A) (cap := cap) Hoki.out ?_ ?_)
      · refine FlatIn.mono (lo := w.heap.size + 2) (hi := wr.heap.size) ?_ (by omega) (by go_size) (Nat.le_refl _)
        repeat (refine FlatIn.setFar ?_ (by dsimp only; omega) _)
        exact FlatIn.of_owns Hown.out rfl
      · go_grown
end Go.Proofs.Ytlihnipbdckmkaa
