/- Texts of numbers and their pieces, in plain lists of bytes: what parsing and formatting give. -/
import Derived.Lib.ItoaNum
import Derived.Lib.AtoiTie
import Derived.Lib.SplitLaws
import Derived.Lib.Join
namespace Go.Proofs.YtgpocbhlcmohmaaGreatDoor
open Go.Lib

/-- the pieces between the bytes c; what is read of the present piece comes first -/
def pcs (c : UInt8) : List UInt8 → List UInt8 → List (List UInt8)
  | cur, [] => [cur]
  | cur, b :: r => if b = c then cur :: pcs c [] r else pcs c (cur ++ [b]) r
theorem pcs_none {c : UInt8} : ∀ (l cur : List UInt8), c ∉ l → pcs c cur l = [cur ++ l]
  | [], cur, _ => by simp [pcs]
  | b :: r, cur, h => by
    have hb : ¬ b = c := fun e => h (by simp [e])
    rw [pcs, if_neg hb, pcs_none r (cur ++ [b]) (fun hm => h (List.mem_cons_of_mem _ hm))]
    simp
theorem pcs_app {c : UInt8} : ∀ (l cur r : List UInt8), c ∉ l → pcs c cur (l ++ c :: r) = (cur ++ l) :: pcs c [] r
  | [], cur, r, _ => by simp [pcs]
  | b :: t, cur, r, h => by
    have hb : ¬ b = c := fun e => h (by simp [e])
    rw [List.cons_append, pcs, if_neg hb, pcs_app t (cur ++ [b]) r (fun hm => h (List.mem_cons_of_mem _ hm))]
    simp
theorem pcs_ne {c : UInt8} : ∀ (l cur : List UInt8), pcs c cur l ≠ []
  | [], cur => by simp [pcs]
  | b :: r, cur => by
    rw [pcs]
    split
    · simp
    · exact pcs_ne r _
theorem join_two (x y : List UInt8) (r : List (List UInt8)) (sep : List UInt8) : join (x :: y :: r) sep = x ++ sep ++ join (y :: r) sep := by
  rw [join_cons, join_cons]
  simp [joinTail]
theorem join_pcs {c : UInt8} : ∀ (l cur : List UInt8), join (pcs c cur l) [c] = cur ++ l
  | [], cur => by simp [pcs, join_one]
  | b :: r, cur => by
    rw [pcs]
    split
    · rename_i h
      rcases hp : pcs c [] r with _ | ⟨y, t⟩
      · exact absurd hp (pcs_ne r [])
      · rw [join_two, ← hp, join_pcs r []]
        simp [h]
    · rw [join_pcs r (cur ++ [b])]
      simp
theorem pcs_join {c : UInt8} : ∀ (ws : List (List UInt8)), ws ≠ [] → (∀ w, w ∈ ws → c ∉ w) → pcs c [] (join ws [c]) = ws
  | [], h, _ => absurd rfl h
  | [x], _, h => by rw [join_one, pcs_none x [] (h x (by simp))]; rfl
  | x :: y :: r, _, h => by
    rw [join_two, List.append_assoc, List.singleton_append, pcs_app x [] _ (h x (by simp)), pcs_join (y :: r) (by simp) (fun w hw => h w (List.mem_cons_of_mem _ hw))]
    rfl
theorem pcs_free {c : UInt8} : ∀ (l cur : List UInt8), c ∉ cur → ∀ w, w ∈ pcs c cur l → c ∉ w
  | [], cur, h, w, hw => by
    simp only [pcs, List.mem_singleton] at hw
    subst hw; exact h
  | b :: r, cur, h, w, hw => by
    rw [pcs] at hw
    split at hw
    · rcases List.mem_cons.1 hw with e | hm
      · subst e; exact h
      · exact pcs_free r [] (by simp) w hm
    · rename_i hb
      exact pcs_free r (cur ++ [b]) (fun hm => by
        rcases List.mem_append.1 hm with hm | hm
        · exact h hm
        · exact hb (List.mem_singleton.1 hm).symm) w hw
theorem splitK_eq (c : UInt8) : ∀ (k : Nat) (s : List UInt8), count s [c] = k → splitK [c] 0 k s = pcs c [] s
  | k, s, hk => by
    have e1 := index_one s c
    by_cases hm : index s [c] = -1
    · have h0 := count_miss hm
      have hno : c ∉ s := fun hin => by
        obtain ⟨i, hi⟩ := List.mem_iff_getElem?.1 hin
        exact indexByte_none (e1.symm.trans hm) i hi
      rw [pcs_none s [] hno]
      have : k = 0 := by omega
      subst this
      rfl
    · have hge := index_ge s [c]
      obtain ⟨i, hi⟩ : ∃ i : Nat, index s [c] = i := ⟨(index s [c]).toNat, by omega⟩
      have hc := count_hit (sub := [c]) (by simp) hi
      obtain ⟨hat, hbef⟩ := indexByte_some (e1.symm.trans hi)
      obtain ⟨k', rfl⟩ : ∃ k', k = k' + 1 := ⟨k - 1, by omega⟩
      have hlt : i < s.length := (List.getElem?_eq_some_iff.1 hat).1
      have hs : s = s.take i ++ c :: s.drop (i + 1) := by
        have h1 := (List.getElem?_eq_some_iff.1 hat).2
        rw [← h1, List.getElem_cons_drop, List.take_append_drop]
      have hno : c ∉ s.take i := fun hin => by
        obtain ⟨j, hj⟩ := List.mem_iff_getElem?.1 hin
        have hji : j < i := by
          have := (List.getElem?_eq_some_iff.1 hj).1
          rw [List.length_take] at this
          omega
        rw [List.getElem?_take_of_lt hji] at hj
        exact hbef j hji hj
      have hbe : ¬ (index s [c] == -1) = true := fun e => hm (beq_iff_eq.1 e)
      have hl1 : ([c] : List UInt8).length = 1 := rfl
      rw [splitK, if_neg hbe, hi, Int.toNat_natCast, Nat.add_zero, hl1]
      have ih := splitK_eq c k' (s.drop (i + 1)) (by rw [hl1] at hc; omega)
      rw [ih]
      conv => rhs; rw [hs]
      rw [pcs_app _ [] _ hno]
      rfl
  termination_by k => k

/-! ### numerals -/
theorem dec_small {u : Nat} (h : u < 10) : decDigits u = [UInt8.ofNat (48 + u)] := by rw [decDigits, dif_pos h]
theorem dec_big {u : Nat} (h : ¬ u < 10) : decDigits u = decDigits (u / 10) ++ [UInt8.ofNat (48 + u % 10)] := by rw [decDigits, dif_neg h]
theorem dgt_nat {d : Nat} (h : d < 10) : (UInt8.ofNat (48 + d)).toNat = 48 + d := by
  rw [UInt8.toNat_ofNat']
  omega
theorem dgt_val {d : Nat} (h : d < 10) : digitVal (UInt8.ofNat (48 + d)) = some d := by
  rw [digitVal, dgt_nat h, if_pos (by omega)]
  congr 1
  omega
theorem dec_ne (u : Nat) : decDigits u ≠ [] := by
  intro h
  have := decDigits_length u
  rw [h] at this
  have := nDigits_pos u
  simp at *
  omega
theorem dec_range (u : Nat) : ∀ b, b ∈ decDigits u → 48 ≤ b.toNat ∧ b.toNat ≤ 57 := by
  induction u using Nat.strongRecOn with
  | _ u ih =>
    intro b hb
    by_cases h : u < 10
    · rw [dec_small h, List.mem_singleton] at hb
      subst hb
      rw [dgt_nat h]; omega
    · rw [dec_big h, List.mem_append, List.mem_singleton] at hb
      rcases hb with hb | hb
      · exact ih (u / 10) (by omega) b hb
      · subst hb
        rw [dgt_nat (by omega)]; omega
theorem itoa_range (n : Int) : ∀ b, b ∈ itoa n → b.toNat = 45 ∨ (48 ≤ b.toNat ∧ b.toNat ≤ 57) := by
  intro b hb
  unfold itoa at hb
  split at hb
  · rcases List.mem_cons.1 hb with e | hm
    · subst e; exact Or.inl rfl
    · exact Or.inr (dec_range _ b hm)
  · exact Or.inr (dec_range _ b hb)
theorem itoa_free {c : UInt8} (h : c.toNat = 32 ∨ c.toNat = 47) (n : Int) : c ∉ itoa n := fun hm => by
  have := itoa_range n c hm
  omega
theorem decFrom_app : ∀ (l : List UInt8) (acc m d : Nat) (b : UInt8), decFrom acc l = some m → digitVal b = some d → decFrom acc (l ++ [b]) = some (m * 10 + d)
  | [], acc, m, d, b, h, hd => by
    simp only [decFrom, Option.some.injEq] at h
    subst h
    simp [decFrom, hd]
  | a :: t, acc, m, d, b, h, hd => by
    rw [decFrom] at h
    rw [List.cons_append, decFrom]
    rcases ha : digitVal a with _ | x
    · simp [ha] at h
    · simp only [ha] at h ⊢
      exact decFrom_app t _ m d b h hd
theorem decFrom_dec (u : Nat) : decFrom 0 (decDigits u) = some u := by
  induction u using Nat.strongRecOn with
  | _ u ih =>
    by_cases h : u < 10
    · rw [dec_small h, decFrom, dgt_val h]
      simp [decFrom]
    · rw [dec_big h, decFrom_app _ _ _ _ _ (ih (u / 10) (by omega)) (dgt_val (d := u % 10) (by omega))]
      congr 1
      omega
theorem decNat_dec (u : Nat) : decNat (decDigits u) = some u := by
  rw [decNat, if_neg (by simp [dec_ne u]), decFrom_dec]
theorem nd_le {u k : Nat} (h : u < 10 ^ k) (hk : 1 ≤ k) : nDigits u ≤ k := by
  induction k generalizing u with
  | zero => omega
  | succ k ih =>
    by_cases h1 : u < 10
    · rw [nDigits_small h1]; omega
    · rw [nDigits_big h1]
      rw [Nat.pow_succ] at h
      by_cases hk0 : k = 0
      · subst hk0; omega
      · have := ih (u := u / 10) (by omega) (by omega)
        omega
theorem itoa_pos {u : Nat} : itoa (u : Int) = decDigits u := by unfold itoa; rw [if_neg (by omega)]; simp
theorem itoa_neg' {u : Nat} (h : 1 ≤ u) : itoa (-(u : Int)) = 45 :: decDigits u := by unfold itoa; rw [if_pos (by omega)]; simp
theorem int_cases (n : Int) : (∃ u : Nat, n = (u : Int)) ∨ (∃ u : Nat, 1 ≤ u ∧ n = -(u : Int)) := by
  by_cases h : 0 ≤ n
  · exact Or.inl ⟨n.toNat, by omega⟩
  · exact Or.inr ⟨(-n).toNat, by omega, by omega⟩
theorem dec_head (u : Nat) : ∃ b r, decDigits u = b :: r ∧ 48 ≤ b.toNat ∧ b.toNat ≤ 57 := by
  rcases h : decDigits u with _ | ⟨b, r⟩
  · exact absurd h (dec_ne u)
  · exact ⟨b, r, rfl, dec_range u b (by rw [h]; simp)⟩
theorem atoi_itoa (n : Int) : atoi (itoa n) = some n := by
  rcases int_cases n with ⟨u, rfl⟩ | ⟨u, hu, rfl⟩
  · rw [itoa_pos]
    obtain ⟨b, r, hb, h1, h2⟩ := dec_head u
    have e1 : ¬ (b == 45) = true := fun e => by rw [beq_iff_eq] at e; subst e; simp at h1
    have e2 : ¬ (b == 43) = true := fun e => by rw [beq_iff_eq] at e; subst e; simp at h1
    rw [hb, atoi, if_neg e1, if_neg e2, ← hb, decNat_dec]
    rfl
  · rw [itoa_neg' hu, atoi, if_pos (by rfl), decNat_dec]
    rfl
/-- a text read back, as numbers are formatted -/
def parN (l : List UInt8) : Option Int := match atoiAll l with
  | .ok n => if itoa n = l then some n else none
  | _ => none
theorem itoa_len {n : Int} (h0 : -100000000000000000 < n) (h1 : n < 100000000000000000) : (itoa n).length ≤ 18 := by
  rcases int_cases n with ⟨u, rfl⟩ | ⟨u, hu, rfl⟩
  · rw [itoa_pos, decDigits_length]
    exact Nat.le_trans (nd_le (k := 17) (by omega) (by omega)) (by omega)
  · rw [itoa_neg' hu, List.length_cons, decDigits_length]
    have := nd_le (u := u) (k := 17) (by omega) (by omega)
    omega
theorem parN_itoa {n : Int} (h0 : -100000000000000000 < n) (h1 : n < 100000000000000000) : parN (itoa n) = some n := by
  rw [parN, atoiAll_short _ (itoa_len h0 h1), atoi_itoa]
  simp [NumEnd.ofOption]
theorem parN_some {l : List UInt8} {n : Int} (h : parN l = some n) : l = itoa n := by
  unfold parN at h
  split at h
  · split at h
    · rename_i h2
      simp only [Option.some.injEq] at h
      subst h
      exact h2.symm
    · cases h
  · cases h

/-! ### the reference's readings -/
def isD (b : UInt8) : Bool := decide (48 ≤ b.toNat ∧ b.toNat ≤ 57)
/-- the reference's loop over digits: what is no digit is passed by -/
def sgF (acc : Nat) (l : List UInt8) : Nat := l.foldl (fun n b => if isD b then 10 * n + (b.toNat - 48) else n) acc
theorem sgF_snoc (acc : Nat) (l : List UInt8) (b : UInt8) : sgF acc (l ++ [b]) = if isD b then 10 * sgF acc l + (b.toNat - 48) else sgF acc l := by
  simp [sgF]
theorem sgF_dec (u : Nat) : sgF 0 (decDigits u) = u := by
  induction u using Nat.strongRecOn with
  | _ u ih =>
    by_cases h : u < 10
    · rw [dec_small h, ← List.nil_append [_], sgF_snoc, isD, dgt_nat h]
      simp [sgF]
      omega
    · rw [dec_big h, sgF_snoc, ih (u / 10) (by omega), isD, dgt_nat (d := u % 10) (by omega)]
      rw [if_pos (by simp; omega)]
      omega
/-- the reference's signed number: a sign only ahead of something; the first twelve bytes alone -/
def signB (l : List UInt8) : Int := match l with
  | b :: c :: r => if b.toNat = 45 then -(sgF 0 ((c :: r).take 11) : Int) else (sgF 0 ((b :: c :: r).take 12) : Int)
  | _ => (sgF 0 l : Int)
theorem sgF_one (b : UInt8) : sgF 0 [b] = sgF 0 ([b].take 12) := rfl
theorem signB_itoa {n : Int} (h0 : -10000000000 < n) (h1 : n < 10000000000) : signB (itoa n) = n := by
  rcases int_cases n with ⟨u, rfl⟩ | ⟨u, hu, rfl⟩
  · rw [itoa_pos]
    have hl : (decDigits u).length ≤ 12 := by rw [decDigits_length]; exact Nat.le_trans (nd_le (k := 10) (by omega) (by omega)) (by omega)
    have hs := sgF_dec u
    obtain ⟨b, r, hb, h2, h3⟩ := dec_head u
    rw [hb] at hl hs ⊢
    cases r with
    | nil => rw [signB]; rw [hs]; intro _ _ _ h; cases h
    | cons c r =>
      rw [signB, if_neg (by omega), List.take_of_length_le hl, hs]
  · rw [itoa_neg' hu]
    have hl : (decDigits u).length ≤ 11 := by rw [decDigits_length]; exact Nat.le_trans (nd_le (k := 10) (by omega) (by omega)) (by omega)
    have hs := sgF_dec u
    obtain ⟨b, r, hb, h2, h3⟩ := dec_head u
    rw [hb] at hl hs ⊢
    rw [signB, if_pos (by rfl), List.take_of_length_le hl, hs]

/-- the reference's number below a million, in canonical form; -1: no such number -/
def readB (l : List UInt8) : Int :=
  if l.length = 0 ∨ 6 < l.length ∨ (l.head? = some 48 ∧ 1 < l.length) then -1
  else if l.all isD then (sgF 0 l : Int) else -1
theorem head_app {a b : List UInt8} (h : a ≠ []) : (a ++ b).head? = a.head? := by
  cases a with
  | nil => exact absurd rfl h
  | cons x t => rfl
theorem dec_hd (u : Nat) (h : 1 < (decDigits u).length) : (decDigits u).head? ≠ some 48 := by
  induction u using Nat.strongRecOn with
  | _ u ih =>
    by_cases h1 : u < 10
    · rw [dec_small h1] at h; simp at h
    · rw [dec_big h1]
      have hne := dec_ne (u / 10)
      rw [head_app hne]
      by_cases h2 : u / 10 < 10
      · rw [dec_small h2]
        simp only [List.head?_cons, ne_eq, Option.some.injEq]
        intro e
        have := congrArg UInt8.toNat e
        rw [dgt_nat h2] at this
        simp at this
        omega
      · exact ih (u / 10) (by omega) (by rw [decDigits_length, nDigits_big h2]; have := nDigits_pos (u / 10 / 10); omega)
theorem readB_dec {u : Nat} (h : u < 1000000) : readB (decDigits u) = (u : Int) := by
  have hl : (decDigits u).length ≤ 6 := by rw [decDigits_length]; exact nd_le (by omega) (by omega)
  have hp : 0 < (decDigits u).length := List.length_pos_iff.2 (dec_ne u)
  rw [readB, if_neg, if_pos, sgF_dec]
  · rw [List.all_eq_true]
    intro b hb
    simpa [isD] using dec_range u b hb
  · rintro (h1 | h1 | ⟨h1, h2⟩)
    · omega
    · omega
    · exact dec_hd u h2 h1
theorem sgF_lead : ∀ (l : List UInt8), l ≠ [] → l.all isD = true → (l.head? = some 48 → l.length = 1) → decDigits (sgF 0 l) = l := by
  intro l
  induction hn : l.length using Nat.strongRecOn generalizing l with
  | _ n ih =>
    intro hne hall hhd
    obtain ⟨t, b, rfl⟩ : ∃ t b, l = t ++ [b] := ⟨l.dropLast, l.getLast hne, (List.dropLast_concat_getLast hne).symm⟩
    have hb : 48 ≤ b.toNat ∧ b.toNat ≤ 57 := by
      have := (List.all_eq_true.1 hall) b (by simp)
      simpa [isD] using this
    have hd : isD b = true := by simpa [isD] using hb
    have e48 : UInt8.ofNat (48 + (b.toNat - 48)) = b := by
      have : 48 + (b.toNat - 48) = b.toNat := by omega
      rw [this]
      simp
    rw [sgF_snoc, if_pos hd]
    by_cases ht : t = []
    · subst ht
      rw [show 10 * sgF 0 [] + (b.toNat - 48) = b.toNat - 48 from by simp [sgF], dec_small (by omega), e48]
      rfl
    · have hall' : t.all isD = true := by
        rw [List.all_append] at hall
        exact (Bool.and_eq_true _ _ ▸ hall).1
      have hhead : t.head? ≠ some 48 := fun e => by
        have := hhd (by rw [head_app ht]; exact e)
        have := List.length_pos_iff.2 ht
        simp at *
        omega
      have ih' := ih t.length (by subst hn; simp) t rfl ht hall' (fun e => absurd e hhead)
      have hpos : ¬ 10 * sgF 0 t + (b.toNat - 48) < 10 := by
        intro hlt
        have hz : sgF 0 t = 0 := by omega
        rw [hz, dec_small (by omega)] at ih'
        apply hhead
        rw [← ih']
        rfl
      rw [dec_big hpos, show (10 * sgF 0 t + (b.toNat - 48)) / 10 = sgF 0 t from by omega, ih', show (10 * sgF 0 t + (b.toNat - 48)) % 10 = b.toNat - 48 from by omega, e48]
theorem readB_nonneg {l : List UInt8} (h : 0 ≤ readB l) : itoa (readB l) = l := by
  unfold readB at h ⊢
  split at h
  · omega
  · rename_i h1
    split at h
    · rename_i h2
      rw [if_neg h1, if_pos h2, itoa_pos]
      exact sgF_lead l (fun e => h1 (Or.inl (by simp [e]))) h2 (fun e => by
        by_cases hl : 1 < l.length
        · exact absurd (Or.inr (Or.inr ⟨e, hl⟩)) h1
        · have : l ≠ [] := fun e' => h1 (Or.inl (by simp [e']))
          have := List.length_pos_iff.2 this
          omega)
    · omega

end Go.Proofs.YtgpocbhlcmohmaaGreatDoor
