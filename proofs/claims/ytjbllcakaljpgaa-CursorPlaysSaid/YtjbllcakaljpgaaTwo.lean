/- Two operations of a drawn region may come up next. No program. -/
import Derived.Test.YtjbllcakaljpgaaOrdHeld
namespace Go.Proofs.Ytjbllcakaljpgaa
section
variable {F : Fence} {n : Nat} {P : Program} {ops : Array Oper} {Q : Exit → Act → World → Prop} {S : World → Prop}
theorem AnyH.two {i j : Nat} {oi oj : Oper} {k : Nat} {listed : Array Bool} {a : Act} {w : World} (hr : (Region.ready .any ops listed == [i, j]) = true) (hd : noDefer ops = true) (hi : ops[i]? = some oi) (hj : ops[j]? = some oj) (hF : ∀ f, F.fn f) (hwi : Region.wanted oi (yielded ops a.tmps) = true) (hwj : Region.wanted oj (yielded ops a.tmps) = true)
    (h1 : ∀ K : Act → World → Prop, (∀ a w, S w → AnyH F n P ops Q S k (listed.setIfInBounds i true) a w → K a w) → oi.uponIn F n P a K Q ((execOp a.eval oi).run P w))
    (h2 : ∀ K : Act → World → Prop, (∀ a w, S w → AnyH F n P ops Q S k (listed.setIfInBounds j true) a w → K a w) → oj.uponIn F n P a K Q ((execOp a.eval oj).run P w)) :
    AnyH F n P ops Q S (k + 1) listed a w := by
  have hr : Region.ready .any ops listed = [i, j] := by simpa using hr
  refine ⟨fun h0 => (by rw [hr] at h0; cases h0), fun x hx => ?_⟩
  rw [hr] at hx
  simp only [List.mem_cons, List.not_mem_nil, or_false] at hx
  rcases hx with rfl | rfl
  · refine wpOpIn_step hi fun K hK => ?_
    rw [if_pos hwi]
    refine ⟨fun f _ => hF f, ?_⟩
    rw [Oper.semAt_eq _ _ _ (noDefer_spec hd _ _ hi)]
    exact h1 K fun a w hS hA => hK a w (.inl ⟨hS, hA⟩)
  · refine wpOpIn_step hj fun K hK => ?_
    rw [if_pos hwj]
    refine ⟨fun f _ => hF f, ?_⟩
    rw [Oper.semAt_eq _ _ _ (noDefer_spec hd _ _ hj)]
    exact h2 K fun a w hS hA => hK a w (.inl ⟨hS, hA⟩)
end
end Go.Proofs.Ytjbllcakaljpgaa
