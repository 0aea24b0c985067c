/- A row that says 'leaving' and 'time passes', of a call that starts no goroutine, from its contract. No program. -/
import Derived.Test.YtlfodhejpbjfcaaLoneTrace2
import Derived.Conc.HoldsTime
namespace Go.Proofs.Ytlfodhejpbjfcaa
open Go Go.Conc Go.ConcM
section
variable {H : Type} {enc : TypeId × Value → H}
theorem leaving_of_calls {a : Assume} {C : Checked} {os : Os} {f : FuncId} {fn : Func} {s : ChangeSpec} {F : Stop.Interp} {conds : List PathCond} {apart fresh handsOn : Bool}
    (own : ownKnob C.prog.godebug = none) (started : os.Started) (noInit : C.prog.inits.idxOf? f = none) (hfn : C.prog.funcs[f]? = some fn)
    (witness : ∃ (w : World) (tape : Tape) (i : Input), w.os = os ∧ (w.forCall tape i).Shaped C.prog ∧ i.vars = [] ∧ Input.okWide C.prog (w.forCall tape i) .any w.heap.size f i ∧
      s.pre6 enc C.prog fn conds apart (w.forCall tape i).memory i.args ∧ a.holds C.prog (lone (Frame.enter C.prog f i.args .normal) [] (w.forCall tape i)))
    (contract : ∀ (W : World) (base : Nat) (args : Array Value) (ds gs : List (DataW H)) (before : List MemPlace),
      (∀ (j : Nat) t v, fn.params[j]? = some t → args[j]? = some v → Value.okWide C.prog W .any base t v) →
      DataW.Whole enc C.prog fn.params.toList s.vars apart W args.toList ds gs before →
      conds.all (PathCond.test C.prog ⟨fn.params.toList, ds, s.plain.varTypes C.prog, gs⟩) = true →
      (DataW.weightsEach C.prog (fn.params.toList ++ s.plain.varTypes C.prog) (ds ++ gs)).all (· ≤ reachBytes) = true →
      Calls C.prog f args W fun e W' => ∃ v, e = .returned v ∧ s.post enc C.prog fn apart fresh handsOn false W args v W' ∧ W'.os = W.os) :
    ReturnsInLeavingWide a C os f .any (s.pre6 enc C.prog fn conds apart) ((OpenSpec.ofChange s).postWith enc C.prog fn F (outsideKept [.timePasses]) apart fresh handsOn) := by
  refine returnsInLeavingWide_of_change_time own started hfn witness ?_
  intro W base args ds gs before hval hW hc hz _
  refine good_of_calls ?_ noInit
  refine (contract W base args ds gs before hval hW hc hz).mono fun e W' h => ?_
  obtain ⟨v, rfl, hp, hos⟩ := h
  refine ⟨?_, ⟨0, ?_⟩⟩
  · have e : ({ W' with os := W.os } : World) = W' := by rw [← hos]
    rw [e]; exact hp
  · rw [hos]; rfl
end
end Go.Proofs.Ytlfodhejpbjfcaa
