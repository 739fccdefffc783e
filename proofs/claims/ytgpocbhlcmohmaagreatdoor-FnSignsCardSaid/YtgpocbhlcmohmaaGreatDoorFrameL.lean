/- The frame of a law whose row lists package-level variables with what they hold. -/
import Derived.Test.YtgpocbhlcmohmaaGreatDoorFrame
import Derived.ChangeVars
import Derived.LaidMore
import Derived.Handed
import Derived.Stop.Joined
import Derived.MakeChecks
import Derived.Lib.LaidTab
namespace Go.Proofs.YtgpocbhlcmohmaaGreatDoor
open Go.RowKit Go.WideShapes Go.ChangeShapes

section
variable {H : Type} {enc : TypeId × Value → H} {P : Program}

/-- the type of a named variable can be read -/
def varReads (P : Program) (n : String) : Bool := match (P.globalNamed n).bind fun g => (P.globals[g]?).map (·.type) with
  | some t => P.readableRec t && decide (t < P.types.size)
  | none => true

theorem trodVars_below {W W' : World} (hl : laidOutB P = true) (hb : Below W.heap.size W W') {sp : Nat → Bool} :
    ∀ (ns : List String) (gs : List (DataW H)) (ps : List MemPlace), ns.all (varReads P) = true →
      DataW.TrodVars enc P W (fun _ => true) ns gs ps → (∀ p ∈ ps, p.block < W.heap.size) → (∀ p ∈ ps, sp p.block = true) → DataW.TrodVars enc P W' sp ns gs ps
  | [], [], _, _, h, _, _ => h
  | n :: ns, d :: ds, ps, hr, ⟨g, t, cs, fuel, p, q, h1, h2, h3, h4, h5, he⟩, hlt, hs => by
    simp only [List.all_cons, Bool.and_eq_true] at hr
    have hr1 := hr.1
    simp only [varReads, h1, Option.bind_some, h2, Bool.and_eq_true, decide_eq_true_eq] at hr1
    subst he
    have hg : g < W.heap.size := by
      have h3' := h3
      simp only [World.var?, h1, Option.bind_some] at h3'
      rcases hx : W.heap[g]? with _ | x
      · rw [hx] at h3'; cases h3'
      · exact (Array.getElem?_eq_some_iff.1 hx).1
    refine ⟨g, t, cs, fuel, p, q, h1, h2, ?_, ?_, ?_, rfl⟩
    · simp only [World.var?, h1, Option.bind_some] at h3 ⊢
      rw [hb.block g hg]
      exact h3
    · exact DataW.trod_stays (kids_book hl hr1.1) (book_sized hr1.1) (fun h => by cases h) ⟨hr1.2, book_self t⟩ h4
        (fun x hx => hb.same (hlt x (List.mem_append.2 (.inl (List.mem_append.2 (.inr hx)))))) (fun x hx => hs x (List.mem_append.2 (.inl (List.mem_append.2 (.inr hx)))))
    · exact trodVars_below hl hb ns ds q hr.2 h5 (fun x hx => hlt x (List.mem_append.2 (.inr hx))) (fun x hx => hs x (List.mem_append.2 (.inr hx)))
  | [], _ :: _, _, _, h, _, _ => h.elim
  | _ :: _, [], _, _, h, _, _ => h.elim

theorem trodVars_len {W : World} {sp : Nat → Bool} : ∀ (ns : List String) (gs : List (DataW H)) (ps : List MemPlace), DataW.TrodVars enc P W sp ns gs ps → gs.length = ns.length
  | [], [], _, _ => rfl
  | n :: ns, d :: ds, ps, ⟨_, _, _, _, _, q, _, _, _, _, h5, _⟩ => by simp [trodVars_len ns ds q h5]
  | [], _ :: _, _, h => h.elim
  | _ :: _, [], _, h => h.elim

theorem post_lawL {f : Func} {s : ChangeSpec} {fresh handsOn : Bool} {W W' : World} {args : Array Value} {ds gs : List (DataW H)} {before : List MemPlace} {tb : TypeId}
    (hl : laidOutB P = true) (hps : (f.params.toList.all fun t => P.readableRec t && decide (t < P.types.size)) = true) (hvs : s.vars.all (varReads P) = true)
    (hrt : f.resultTypes = #[tb]) (htb : P.underlying tb = some .bool)
    (hspec : ∀ es gs : List (DataW H), es.length = f.params.size → gs.length = s.vars.length → s.fn H (es ++ gs) = { results := [.lit (.bool true)], args := es, vars := gs })
    (hW : DataW.Whole enc P f.params.toList s.vars false W args.toList ds gs before) (hb : Below W.heap.size W W') :
    s.post enc P f false fresh handsOn false W args (.bool true) W' := by
  have hlt : ∀ p ∈ before, p.block < W.heap.size := fun p hp => hW.lt p hp
  have hold : ∀ p ∈ before, (fun b => decide (b < W.heap.size)) p.block = true := fun p hp => by simpa using hlt p hp
  have hW' := hW
  obtain ⟨p, q, hA, hV, he, _, _⟩ := hW
  have hlen := trodAll_len _ _ _ _ hA
  have hlenV := trodVars_len _ _ _ hV
  have hs := hspec ds gs (by simpa using hlen) hlenV
  subst he
  refine ⟨ds, gs, _, [], p, q, hW', ?_, ?_, ?_, hb.frame _, fun h => by cases h⟩
  · rw [hs, hrt]
    exact trodAll_mk1 (shut_bool htb true)
  · rw [hs]
    exact trodAll_below hl hb _ _ _ _ hps hA (fun x hx => hlt x (List.mem_append.2 (.inl hx))) (fun x hx => hold x (List.mem_append.2 (.inl hx)))
  · rw [hs]
    exact trodVars_below hl hb _ _ _ hvs hV (fun x hx => hlt x (List.mem_append.2 (.inr hx))) (fun x hx => hold x (List.mem_append.2 (.inr hx)))

theorem law_laid {C : Checked} {os : Os} {K : FuncId} {fn : Func} {s : ChangeSpec} {conds : List PathCond} {tb : TypeId} {L : List (String × DataW Unit)}
    (own : ownKnob C.prog.godebug = none) (started : os.Started) (noInit : C.prog.inits.idxOf? K = none) (hfn : C.prog.funcs[K]? = some fn)
    (witness : ∃ (w : World) (tape : Tape) (i : Input), w.os = os ∧ (w.forCall tape i).Shaped C.prog ∧ i.vars = [] ∧ Input.okWide C.prog (w.forCall tape i) .any w.heap.size K i ∧
      ((s.pre enc C.prog fn conds false (w.forCall tape i).memory i.args ∧ laidMetH C.prog L (w.forCall tape i).memory) ∧ sizedMet enc C.prog fn (OpenSpec.ofChange s) false (w.forCall tape i).memory i.args) ∧ ({} : Assume).holds C.prog (lone (Frame.enter C.prog K i.args .normal) [] (w.forCall tape i)))
    (hl : laidOutB C.prog = true) (hps : (fn.params.toList.all fun t => C.prog.readableRec t && decide (t < C.prog.types.size)) = true) (hvs : s.vars.all (varReads C.prog) = true)
    (hrt : fn.resultTypes = #[tb]) (htb : C.prog.underlying tb = some .bool)
    (hspec : ∀ es gs : List (DataW H), es.length = fn.params.size → gs.length = s.vars.length → s.fn H (es ++ gs) = { results := [.lit (.bool true)], args := es, vars := gs })
    (contract : ∀ (W : World) (base : Nat) (args : Array Value) (ds gs : List (DataW H)) (p : List MemPlace),
      (∀ (j : Nat) t v, fn.params[j]? = some t → args[j]? = some v → Value.okWide C.prog W .any base t v) →
      DataW.TrodAll enc C.prog W 0 (fun _ => true) true fn.params.toList args.toList ds p →
      (DataW.weightsEach C.prog (fn.params.toList ++ s.plain.varTypes C.prog) (ds ++ gs)).all (· ≤ reachBytes) = true → W.ShapedOpen C.prog → laidMetH C.prog L W → (∀ x ∈ p, x.block < W.heap.size) →
      Calls C.prog K args W fun e W' => e = .returned (.bool true) ∧ Below W.heap.size W W') :
    ReturnsInHanded {} C os K .any (fun w args => (s.pre enc C.prog fn conds false w args ∧ laidMetH C.prog L w) ∧ sizedMet enc C.prog fn (OpenSpec.ofChange s) false w args) (s.post enc C.prog fn false true false false) := by
  refine returnsInHanded_of_calls own started noInit witness ?_
  intro w tape i _ hsh _ hok hpre hholds
  obtain ⟨_, _, _, fn', hfn', _, _, _, _, hval⟩ := hok
  have e : fn' = fn := Option.some.inj (hfn'.symm.trans hfn)
  subst e
  obtain ⟨⟨⟨ds, gs, before, hw, hc⟩, hx⟩, hz⟩ := hpre
  have hw' := DataW.Whole.of_heap (w' := w.forCall tape i) (by rfl) hw
  have hx' : laidMetH C.prog L (w.forCall tape i) := laidMetH.of_heap (by rfl) hx
  have hlt : ∀ p ∈ before, p.block < (w.forCall tape i).heap.size := fun p hp => hw'.lt p hp
  have hwW := hw'
  obtain ⟨p, q, hA, hV, he, _, _⟩ := hw'
  refine (contract (w.forCall tape i) w.heap.size i.args ds gs p hval hA (hz.weights hw) hsh hx' (fun x hx => hlt x (by rw [he]; exact List.mem_append.2 (.inl hx)))).mono fun e W' ⟨he, hp⟩ => ?_
  subst he
  exact ChangeSpec.post_blind (post_lawL hl hps hvs hrt htb hspec hwW hp)
end

end Go.Proofs.YtgpocbhlcmohmaaGreatDoor
