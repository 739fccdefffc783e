/- FormatRing, of the program: joinInts. -/
import Derived.Test.YtgpocbhlcmohmaaGreatDoorNumI
import Derived.Test.YtgpocbhlcmohmaaGreatDoorRingOps
import Derived.Test.YtgpocbhlcmohmaaGreatDoorOwnB
import Derived.Test.YtgpocbhlcmohmaaGreatDoorGs
import Derived.Test.YtgpocbhlcmohmaaGreatDoorRow
import Derived.Test.YtgpocbhlcmohmaaGreatDoorShi
import Derived.Test.YtgpocbhlcmohmaaGreatDoorShj
import Derived.Deep.AppendLies
import Derived.Deep.LoopGhost
import Derived.Lib.AppendIntMem
import Derived.Lib.ItoaMem
namespace Go.Proofs.YtgpocbhlcmohmaaGreatDoor
open Go.RowKit

theorem Tryz.infoStr : (Tryz.prog.info? 9).map (fun i => (i.zero, i.size, i.bytes)) = some (some (.string ByteArray.empty), 1, 16) := by kernel_rfl
/-- the library's table of powers of ten lies in memory -/
def TabP (w : World) : Prop := Lib.TabIs Tryz.prog w "internal/strconv.uint64pow10" .u64 Lib.pow10Tab
theorem TabP.below {w w' : World} (h : TabP w) (hb : Below w.heap.size w w') : TabP w' := Lib.tabBelow_of_tabIs h w' hb

theorem itoaT_any (n : Int) (w : World) (h0 : -1000000000 ≤ n) (h1 : n ≤ 1000000000) (ht : TabP w) :
    Calls Tryz.prog 21 #[.int .i64 n] w fun e w' => e = .returned (.string (itB n)) ∧ Below w.heap.size w w' :=
  (Tryz.strconv_Itoa n (by omega) (by omega) w ht).mono fun _ _ ⟨e1, k, os, e2⟩ => ⟨e1, by rw [e2]; exact Lib.below_grow _ w (Nat.le_refl _) k os⟩

/-- v is a slice of the call's own over these strings -/
def OwnT (w : World) (base : Nat) (v : Value) (xs : List ByteArray) : Prop := ∃ (A : Option Addr) (cap : Nat), v = .slice A xs.length cap ∧ w.ownsRow base 9 1 v xs.length (xs.map Value.string)
theorem OwnT.below {w w' : World} {base : Nat} {v : Value} {xs : List ByteArray} (h : OwnT w base v xs) (hb : Below w.heap.size w w') : OwnT w' base v xs :=
  let ⟨A, cap, h1, h2⟩ := h; ⟨A, cap, h1, owns_below h2 hb⟩
theorem OwnT.start {w : World} {g base : Nat} (h : w.heap[g]? = some (.cells #[] 9 (0, 0))) (hb : base ≤ g) : OwnT w base (.slice (some ⟨g, 0, none⟩) 0 0) [] :=
  ⟨some ⟨g, 0, none⟩, 0, rfl, ownsRow_empty _ hb h⟩

/-- the k-th of four numbers -/
def four (a b c d : Int) (k : Nat) : Int := if k = 0 then a else if k = 1 then b else if k = 2 then c else d

set_option maxRecDepth 100000 in
set_option maxHeartbeats 4000000 in
theorem joinInts_any (a b c d : Int) (b0 : Nat) (w : World) (ha : -1000000000 ≤ a ∧ a ≤ 1000000000) (hb : -1000000000 ≤ b ∧ b ≤ 1000000000) (hc : -1000000000 ≤ c ∧ c ≤ 1000000000) (hd : -1000000000 ≤ d ∧ d ≤ 1000000000)
    (ht : Hid (TabP w)) (h0 : Hid (w.heap[b0]? = some (.cells #[.int .i64 a, .int .i64 b, .int .i64 c, .int .i64 d] 3 (0, 0)))) :
    Calls Tryz.prog 34 #[.slice (some ⟨b0, 0, none⟩) 4 4, .string ⟨#[32]⟩] w fun e w' => e = .returned (.string (txt4 a b c d)) ∧ Below w.heap.size w w' := by
  obtain ⟨i0, hi, hz0, hz1, hz2⟩ := info_parts Tryz.infoStr
  have hb0 : b0 < w.heap.size := (Array.getElem?_eq_some_iff.1 h0.out).1
  have HI : Hid (∀ k W, k < 4 → TabP W → Calls Tryz.prog 21 #[.int .i64 (four a b c d k)] W fun e w' => e = .returned (.string (itB (four a b c d k))) ∧ Below W.heap.size W w') := by
    intro k W hk hT
    refine itoaT_any _ W ?_ ?_ hT <;> (unfold four; split; omega; split; omega; split <;> omega)
  obtain ⟨ws, hws⟩ : ∃ ws : List ByteArray, ws = [itB a, itB b, itB c, itB d] := ⟨_, rfl⟩
  have Hw : Hid (∀ k, k < 4 → ws.take (k + 1) = ws.take k ++ [itB (four a b c d k)]) := by
    intro k hk
    rw [hws]
    obtain rfl | rfl | rfl | rfl : k = 0 ∨ k = 1 ∨ k = 2 ∨ k = 3 := by omega
    all_goals rfl
  have Hl : Hid (ws.length = 4) := by show _ = _; rw [hws]; rfl
  have Hlen : Hid ((Lib.join (ws.map (·.data.toList)) [32]).length ≤ 140737488355328 ∧ (⟨(Lib.join (ws.map (·.data.toList)) [32]).toArray⟩ : ByteArray) = txt4 a b c d) := by
    have e : ws.map (·.data.toList) = [Lib.itoa a, Lib.itoa b, Lib.itoa c, Lib.itoa d] := by rw [hws]; rfl
    rw [e, ← txt4_list]
    refine ⟨?_, rfl⟩
    have hz : (txt4 a b c d).size ≤ 100 := by
      have z1 := itB_size (n := a) (by omega) (by omega)
      have z2 := itB_size (n := b) (by omega) (by omega)
      have z3 := itB_size (n := c) (by omega) (by omega)
      have z4 := itB_size (n := d) (by omega) (by omega)
      have hbl : blk.size = 1 := rfl
      simp only [txt4, ByteArray.size_append]
      omega
    have : (txt4 a b c d).data.toList.length = (txt4 a b c d).size := Array.length_toList
    omega
  clear hws ha hb hc hd
  go_enter Tryz.func34, Tryz.ntmps34
  go_wp2_with fail
  generalize hW0 : w.alloc (.cells #[] 9) = W0
  have B0 : Below w.heap.size w W0 := by rw [← hW0]; clear hW0; go_grown
  have H0 : Hid (W0.heap[b0]? = some (.cells #[.int .i64 a, .int .i64 b, .int .i64 c, .int .i64 d] 3 (0, 0))) := by rw [← hW0]; exact (Below.heap_alloc _ _ _ hb0).trans h0.out
  have HO : Hid (OwnT W0 w.heap.size (.slice (some ⟨w.heap.size, 0, none⟩) 0 0) []) := OwnT.start (by rw [← hW0]; exact heap_top _ _ rfl) (Nat.le_refl _)
  clear hW0
  go_loopg [5, 11] 4 (fun gk v s wr => ∃ k : Nat, s = .int .i64 k ∧ k + gk = 4 ∧ (∃ ps, ps = ws.take k ∧ OwnT wr w.heap.size v ps) ∧ Below w.heap.size w wr)
  case atStart => exact ⟨0, rfl, rfl, ⟨_, rfl, HO.out⟩, B0⟩
  case round =>
    obtain ⟨k, rfl, hkg, ⟨ps, hps, ho⟩, hbw⟩ := hrel
    have hbr := (hbw.block b0 hb0).trans h0.out
    have hb1 : b0 < wr.heap.size := Nat.lt_of_lt_of_le hb0 hbw.size
    by_cases hk : k < 4
    · have hcell : wr.cell? ⟨b0, k, none⟩ = some (.int .i64 (four a b c d k)) := by
        obtain rfl | rfl | rfl | rfl : k = 0 ∨ k = 1 ∨ k = 2 ∨ k = 3 := by omega
        all_goals exact cell_of_row wr b0 _ _ _ _ hbr
      obtain ⟨A', cap', rfl, hown⟩ := ho
      have Hown := Lib.hid hown
      have Hk := Lib.hid (HI.out k)
      have Hw1 := Lib.hid (Hw.out k hk)
      have HT := Lib.hid (ht.out.below hbw)
      have hll : ps.length ≤ 4 := by rw [hps, List.length_take]; omega
      have Hps := Lib.hid hps
      clear hps
      generalize hz : four a b c d k = z at hcell Hk Hw1
      clear hz hown
      have hzb := hbw.size
      go_wp2_with fail
      refine (Hk.out wr hk HT.out).mono ?_
      rintro e w1 ⟨rfl, b1⟩
      have HownA := Lib.hid (owns_below Hown.out b1)
      have B1 := Lib.hid (hbw.trans (b1.mono hbw.size))
      have hz1b := b1.size
      clear b1 hbw hcell hbr
      go_wp2_with (at_builtin; refine wpList_append_lies _ rfl _ _ 62 rfl w.heap.size 9 i0 (.string ByteArray.empty) 1 16 Tryz.underlying62 hi hz0 hz1 hz2 rfl (by decide) (.slice A' ps.length cap') ps.length (ps.map Value.string) rfl (HownA.out.alloc _) _ 1 1 [.string (itB z)] rfl rfl (World.news_of_block (heap_top _ _ (by simp))) (by intro u hu; simp at hu; subst hu; rfl) (by decide) (by unfold maxLen; omega) (by omega) (by simp; omega) _ rfl ?_; refine Hid.out ?_)
      refine Lib.hid ?_
      intro g cap2 w3 hown' hgrow hat hlt
      have Hown3 := Lib.hid hown'
      have B3 := Lib.hid (Below.grown ((Below.refl _ _).alloc (Nat.le_refl _) (.cells #[.string (itB z)] 9) |> fun h => B1.out.trans (h.mono B1.out.size)) hgrow (by simp; have := B1.out.size; omega) (fun q hq => (Hown.out.lt q hq).1))
      clear hown' hgrow hat
      go_wp2
      go_roundg (4 - (k + 1))
      case measure => omega
      case rel =>
        have hlk : (ps ++ [itB z]).length = ps.length + 1 := by simp
        refine ⟨k + 1, by go_num, by omega, ⟨ps ++ [itB z], by rw [Hw1.out, Hps.out], some ⟨g, 0, none⟩, cap2, by rw [hlk], ?_⟩, B3.out⟩
        rw [hlk, List.map_append]
        exact Hown3.out
    · have hk4 : k = 4 := by omega
      subst hk4
      have ht4 : ws.take 4 = ws := List.take_of_length_le (by rw [Hl.out]; omega)
      rw [hps, ht4] at ho
      clear hps
      obtain ⟨A', cap', rfl, hown⟩ := ho
      obtain ⟨g, cap2, hv, _, _⟩ := hown.form (by rw [Hl.out]; omega)
      obtain ⟨rfl, rfl⟩ : A' = some ⟨g, 0, none⟩ ∧ cap' = cap2 := by injection hv with h1 h2 h3; exact ⟨h1, h3⟩
      have hcs := fun (j : Nat) x (hj : ws[j]? = some x) => (hown.cells (g := g) rfl j (.string x) (by simp [hj]))
      have hgl := (hown.lt g rfl).2
      have hcp : ws.length ≤ cap' := by
        rcases hown.2 with ⟨h, _⟩ | ⟨g', cap3, cur, h, _, _, h4, _⟩
        · cases h
        · injection h with _ _ h6; omega
      have HJ : Hid (Calls Tryz.prog 48 #[.slice (some ⟨g, 0, none⟩) ws.length cap', .string ⟨#[32]⟩] wr fun e w' => e = .returned (.string (txt4 a b c d)) ∧ Below wr.heap.size wr w') := by
        have h := Tryz.strings_Join g 0 cap' ws ⟨#[32]⟩ wr (fun j x hj => by have := hcs j x hj; rwa [Lib.add_plain] at this) hgl (by rw [Hl.out]; omega) hcp Hlen.out.1
        exact h.mono fun e w' ⟨h1, h2⟩ => ⟨h1.trans (congrArg (fun x => Ending.returned (.string x)) Hlen.out.2), h2⟩
      clear hv hcs hown hcp hgl ht4
      go_wp2_with fail
      refine HJ.out.mono ?_
      rintro e w1 ⟨rfl, b1⟩
      go_wp2
      go_ret
      exact ⟨rfl, hbw.trans (b1.mono hbw.size)⟩
end Go.Proofs.YtgpocbhlcmohmaaGreatDoor
