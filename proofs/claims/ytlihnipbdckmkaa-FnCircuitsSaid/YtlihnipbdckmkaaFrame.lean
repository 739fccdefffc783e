/- The frame of every law of this seat: a law whose call returns true and turns nothing that was there before meets its row. No program in sight but for the seat's name. -/
import Derived.Test.YtlihnipbdckmkaaRows
import Derived.WalkKit
import Derived.ProofKit
import Derived.HandedShaped
import Derived.Carry
namespace Go.Proofs.Ytlihnipbdckmkaa
open Go.RowKit Go.WideShapes Go.ChangeShapes

section
variable {H : Type} {enc : TypeId × Value → H} {P : Program}

theorem trodAll_below {W W' : World} (hl : laidOutB P = true) (hb : Below W.heap.size W W') {sp : Nat → Bool} :
    ∀ (ts : List TypeId) (vs : List Value) (ds : List (DataW H)) (ps : List MemPlace), (ts.all fun t => P.readableRec t && decide (t < P.types.size)) = true →
      DataW.TrodAll enc P W 0 (fun _ => true) true ts vs ds ps → (∀ p ∈ ps, p.block < W.heap.size) → (∀ p ∈ ps, sp p.block = true) →
      DataW.TrodAll enc P W' 0 sp true ts vs ds ps
  | [], [], [], _, _, h, _, _ => h
  | t :: ts, v :: vs, d :: ds, ps, ht, ⟨p, q, h1, h2, he⟩, hlt, hs => by
    simp only [List.all_cons, Bool.and_eq_true, decide_eq_true_eq] at ht
    subst he
    exact ⟨p, q, WideElems.Trod_stays hl ht.1.1 ht.1.2 h1 (fun x hx => hb.same (hlt x (List.mem_append.2 (.inl hx)))) (fun x hx => hs x (List.mem_append.2 (.inl hx))),
      trodAll_below hl hb ts vs ds q ht.2 h2 (fun x hx => hlt x (List.mem_append.2 (.inr hx))) (fun x hx => hs x (List.mem_append.2 (.inr hx))), rfl⟩
  | [], [], _ :: _, _, _, h, _, _ => h.elim
  | [], _ :: _, _, _, _, h, _, _ => h.elim
  | _ :: _, [], _, _, _, h, _, _ => h.elim
  | _ :: _, _ :: _, [], _, _, h, _, _ => h.elim

theorem trodAll_len {W : World} {base : Nat} {sp : Nat → Bool} {hd : Bool} :
    ∀ (ts : List TypeId) (vs : List Value) (ds : List (DataW H)) (ps : List MemPlace), DataW.TrodAll enc P W base sp hd ts vs ds ps → ds.length = ts.length
  | [], [], [], _, _ => rfl
  | t :: ts, v :: vs, d :: ds, ps, ⟨_, q, _, h2, _⟩ => by simp [trodAll_len ts vs ds q h2]
  | [], [], _ :: _, _, h => h.elim
  | [], _ :: _, _, _, h => h.elim
  | _ :: _, [], _, _, h => h.elim
  | _ :: _, _ :: _, [], _, h => h.elim

theorem post_law {f : Func} {s : ChangeSpec} {fresh handsOn : Bool} {W W' : World} {args : Array Value} {ds gs : List (DataW H)} {before : List MemPlace} {tb : TypeId}
    (hl : laidOutB P = true) (hps : (f.params.toList.all fun t => P.readableRec t && decide (t < P.types.size)) = true)
    (hvars : s.vars = []) (hrt : f.resultTypes = #[tb]) (htb : P.underlying tb = some .bool)
    (hspec : ∀ es : List (DataW H), es.length = f.params.size → s.fn H (es ++ []) = { results := [.lit (.bool true)], args := es })
    (hW : DataW.Whole enc P f.params.toList s.vars false W args.toList ds gs before) (hb : Below W.heap.size W W') :
    s.post enc P f false fresh handsOn false W args (.bool true) W' := by
  have hlt : ∀ p ∈ before, p.block < W.heap.size := fun p hp => hW.lt p hp
  have hold : ∀ p ∈ before, (fun b => decide (b < W.heap.size)) p.block = true := fun p hp => by simpa using hlt p hp
  have hW' := hW
  obtain ⟨p, q, hA, hV, he, _, _⟩ := hW
  rw [hvars] at hV
  obtain ⟨rfl, rfl⟩ : gs = [] ∧ q = [] := by
    match gs, hV with
    | [], h => exact ⟨rfl, h⟩
    | _ :: _, h => exact h.elim
  have hlen := trodAll_len _ _ _ _ hA
  have hs := hspec ds (by simpa using hlen)
  subst he
  refine ⟨ds, [], _, [], p, [], hW', ?_, ?_, ?_, World.keptBut_mono (fun x hx => ⟨hx, ?_⟩) (hb.frame (· ∈ p ++ [])), fun h => by cases h⟩
  · rw [hs, hrt]
    exact trodAll_mk1 (shut_bool htb true)
  · rw [hs]
    exact trodAll_below hl hb _ _ _ _ hps hA (fun x hx => hlt x (by simpa using hx)) (fun x hx => hold x (by simpa using hx))
  · rw [hs, hvars]
    rfl
  · exact Or.inr (Or.inl (by simpa using hx))

theorem law_lifted {C : Checked} {os : Os} {K : FuncId} {fn : Func} {s : ChangeSpec} {conds : List PathCond} {tb : TypeId}
    (own : ownKnob C.prog.godebug = none) (started : os.Started) (noInit : C.prog.inits.idxOf? K = none) (hfn : C.prog.funcs[K]? = some fn)
    (witness : ∃ (w : World) (tape : Tape) (i : Input), w.os = os ∧ (w.forCall tape i).Shaped C.prog ∧ i.vars = [] ∧ Input.okWide C.prog (w.forCall tape i) .any w.heap.size K i ∧
      s.pre6 enc C.prog fn conds false (w.forCall tape i).memory i.args ∧ ({} : Assume).holds C.prog (lone (Frame.enter C.prog K i.args .normal) [] (w.forCall tape i)))
    (hl : laidOutB C.prog = true) (hps : (fn.params.toList.all fun t => C.prog.readableRec t && decide (t < C.prog.types.size)) = true)
    (hvars : s.vars = []) (hrt : fn.resultTypes = #[tb]) (htb : C.prog.underlying tb = some .bool)
    (hspec : ∀ es : List (DataW H), es.length = fn.params.size → s.fn H (es ++ []) = { results := [.lit (.bool true)], args := es })
    (contract : ∀ (W : World) (base : Nat) (args : Array Value) (ds : List (DataW H)) (p : List MemPlace),
      (∀ (j : Nat) t v, fn.params[j]? = some t → args[j]? = some v → Value.okWide C.prog W .any base t v) →
      DataW.TrodAll enc C.prog W 0 (fun _ => true) true fn.params.toList args.toList ds p →
      (DataW.weightsEach C.prog (fn.params.toList) ds).all (· ≤ reachBytes) = true → W.ShapedOpen C.prog → (∀ x ∈ p, x.block < W.heap.size) →
      Calls C.prog K args W fun e W' => e = .returned (.bool true) ∧ Below W.heap.size W W') :
    ReturnsInHanded {} C os K .any (s.pre6 enc C.prog fn conds false) (s.post enc C.prog fn false true false false) := by
  refine returnsInHanded_of_change_shaped own started noInit hfn witness ?_
  intro W base args ds gs before hval hW _ hz hsh _
  have hW' := hW
  have hlt : ∀ p ∈ before, p.block < W.heap.size := fun p hp => hW.lt p hp
  obtain ⟨p, q, hA, hV, he, _, _⟩ := hW
  have hV' := hV
  rw [hvars] at hV'
  obtain ⟨rfl, rfl⟩ : gs = [] ∧ q = [] := by
    match gs, hV' with
    | [], h => exact ⟨rfl, h⟩
    | _ :: _, h => exact h.elim
  have hvt : s.plain.varTypes C.prog = [] := by
    unfold DataSpec.varTypes ChangeSpec.plain
    rw [hvars]; rfl
  rw [hvt, List.append_nil, List.append_nil] at hz
  refine (contract W base args ds p hval hA hz hsh (fun x hx => hlt x (by rw [he]; simpa using hx))).mono fun e W' ⟨h1, hb⟩ => ⟨_, h1, post_law hl hps hvars hrt htb hspec hW' hb⟩
end

theorem Try.own : ownKnob Try.prog.godebug = none := by kernel_rfl
theorem Try.laidOut : laidOutB Try.prog = true := by kernel_rfl

end Go.Proofs.Ytlihnipbdckmkaa
