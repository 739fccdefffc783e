/- FormatCircuit, of the program and of the reference. -/
import Derived.Test.YtgpocbhlcmohmaaDoorCountC
import Derived.Test.YtgpocbhlcmohmaaDoorFmtS
namespace Go.Proofs.YtgpocbhlcmohmaaDoor
open Go.RowKit

/-- the line of a gate -/
def gLine (x : G3) : ByteArray := gtxt x.1.toNat x.2.1.toNat x.2.2.toNat ++ ⟨#[10]⟩
/-- the lines of gates -/
def linesB : List G3 → ByteArray
  | [] => ⟨#[]⟩
  | x :: xs => gLine x ++ linesB xs
/-- the first line of a circuit's text -/
def headB (q : Nat) : ByteArray := (⟨#[113, 117, 98, 105, 116, 115, 32]⟩ ++ ⟨(Lib.decDigits q).toArray⟩) ++ ⟨#[10]⟩
theorem emptyB_app (s : ByteArray) : (⟨#[]⟩ : ByteArray) ++ s = s := ByteArray.empty_append
theorem app_emptyB (s : ByteArray) : s ++ (⟨#[]⟩ : ByteArray) = s := ByteArray.append_empty
theorem linesB_append (xs ys : List G3) : linesB (xs ++ ys) = linesB xs ++ linesB ys := by
  induction xs with
  | nil => exact (emptyB_app _).symm
  | cons x xs ih => show gLine x ++ linesB (xs ++ ys) = (gLine x ++ linesB xs) ++ linesB ys; rw [ih, ByteArray.append_assoc]
theorem linesB_step {xs : List G3} {k : Nat} {x : G3} (h : xs[k]? = some x) : linesB (xs.take (k + 1)) = linesB (xs.take k) ++ gLine x := by
  obtain ⟨hk, rfl⟩ := List.getElem?_eq_some_iff.1 h
  rw [List.take_succ_eq_append_getElem hk, linesB_append]
  congr 1
  exact app_emptyB _
theorem gOkG_5 {q : Int} {x : G3} (hq : q ≤ 5) (h : gOkG q x = true) : gOkG 5 x = true := by
  obtain ⟨k, a, b⟩ := x
  unfold gOkG gateB at h ⊢
  simp only at h ⊢
  rcases h8 : inB k 1 8 with _ | _
  · rcases h11 : inB k 9 11 with _ | _
    · rw [h8, h11] at h
      simpa using h
    · rw [h8, h11] at h
      obtain ⟨⟨h1, h2⟩, h3⟩ : (inB a 0 (q - 1) = true ∧ inB b 0 (q - 1) = true) ∧ ¬ a = b := by simpa using h
      have h1 := inB_t.1 h1
      have h2 := inB_t.1 h2
      have e1 : inB a 0 (5 - 1) = true := inB_t.2 (by omega)
      have e2 : inB b 0 (5 - 1) = true := inB_t.2 (by omega)
      have e3 : (a != b) = true := by simpa using h3
      show (inB a 0 (5 - 1) && inB b 0 (5 - 1) && a != b) = true
      rw [e1, e2, e3]
      rfl
  · rw [h8] at h
    obtain ⟨h1, h2⟩ : inB a 0 (q - 1) = true ∧ b = 0 := by simpa using h
    have h1 := inB_t.1 h1
    have e1 : inB a 0 (5 - 1) = true := inB_t.2 (by omega)
    show (inB a 0 (5 - 1) && b == 0) = true
    rw [e1, h2]
    rfl
theorem gtxt_size {k a b : Int} (h : gateB 5 k a b = true) : (gtxt k.toNat a.toNat b.toNat).size ≤ 8 := by
  obtain ⟨K, P, Q, rfl, rfl, rfl, _, _, hP, hQ⟩ := gate5_parts h
  have h1 := nameB_size K
  have h2 := digit_size (a := P) (by omega)
  have h3 := digit_size (a := Q) (by omega)
  have h4 : (blankB P).size = 2 := by rw [blankB, ByteArray.size_append, h2]; rfl
  have h5 : (blankB Q).size = 2 := by rw [blankB, ByteArray.size_append, h3]; rfl
  simp only [gtxt, Int.toNat_natCast]
  split
  · omega
  · split <;> simp only [ByteArray.size_append] <;> omega
theorem gLine_size {x : G3} (h : gOkG 5 x = true) : (gLine x).size ≤ 9 := by
  have h1 := gtxt_size (k := x.1) (a := x.2.1) (b := x.2.2) h
  rw [gLine, ByteArray.size_append]
  show _ + 1 ≤ 9
  omega
theorem linesB_size : ∀ {xs : List G3}, xs.all (gOkG 5) = true → (linesB xs).size ≤ 9 * xs.length
  | [], _ => Nat.le_refl _
  | x :: xs, h => by
    rw [List.all_cons, Bool.and_eq_true] at h
    have h1 := gLine_size h.1
    have h2 := linesB_size h.2
    show (gLine x ++ linesB xs).size ≤ _
    rw [ByteArray.size_append, List.length_cons]
    omega
theorem headB_size {q : Nat} (h : q < 10) : (headB q).size = 9 := by
  rw [headB, ByteArray.size_append, ByteArray.size_append, digit_size h]
  rfl
theorem allG_at {p : G3 → Bool} {xs : List G3} {k : Nat} {x : G3} (h : xs.all p = true) (hk : xs[k]? = some x) : p x = true := List.all_eq_true.1 h x (List.mem_of_getElem? hk)
theorem allG_take {p : G3 → Bool} {xs : List G3} (h : xs.all p = true) (k : Nat) : (xs.take k).all p = true := by
  rw [List.all_eq_true] at h ⊢
  exact fun x hx => h x (List.mem_of_mem_take hx)
theorem cOk_all {q : Int} {xs : List G3} (h : cOk q xs = true) : xs.all (gOkG 5) = true := by
  have hq := cOk_q h
  simp only [cOk, Bool.and_eq_true, decide_eq_true_eq] at h
  rw [List.all_eq_true]
  exact fun x hx => gOkG_5 hq.2 (List.all_eq_true.1 h.2 x hx)
theorem NamesAt.call {w w' : World} (h : NamesAt w) (hb : Below w.heap.size w w') : NamesAt w' := h.below hb
def fcRes (q : Int) (xs : List G3) : Value := .tuple #[.string (if cOk q xs then headB q.toNat ++ linesB xs else ⟨#[]⟩), .bool (cOk q xs)]
end Go.Proofs.YtgpocbhlcmohmaaDoor
