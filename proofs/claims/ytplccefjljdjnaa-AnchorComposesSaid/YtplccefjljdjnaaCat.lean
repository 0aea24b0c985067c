/- append of a list that lies in a block to a list of the call's own. No program. -/
import Derived.Test.YtplccefjljdjnaaCom
set_option linter.unusedVariables false
set_option linter.unusedSimpArgs false
namespace Go.Proofs.Ytplccefjljdjnaa
open Go.RowKit
/-- append of a list that lies in a block to a list of the call's own. -/
theorem wp_catP {α : Type} {P : Program} {w : World} {ops : Array Oper} {rest : List Oper} {o : Oper} {a : Act} {Q : Exit → Act → World → Prop} {t e : TypeId} {size bytes : Nat} (hE : Elem P t e size bytes) {enc : α → List Value} (he : ∀ a, (enc a).length = size) (h1 : ∀ y, ∀ u ∈ enc y, u.oneCell' = true)
    (hgd : o.guard = none) (s x : Operand) (ho : o.op = .call { callee := .builtin .append, args := #[s, x], argTypes := #[t, t] })
    {B₀ B₁ g cap : Nat} {v : Value} {l l2 : List α} {m : Nat} (hs : a.eval s = v) (hS : SlA B₀ w e size enc v l) (hx : a.eval x = .slice (some ⟨g, 0, none⟩) m cap) (hm : m = l2.length) (hS2 : SlA B₁ w e size enc (.slice (some ⟨g, 0, none⟩) m cap) l2)
    (hbytes : (l.length + l2.length) * bytes ≤ 140737488355328) (hbase : B₀ ≤ w.heap.size)
    (h : ∀ v' w', SlA B₀ w' e size enc v' (l ++ l2) → w.grownBy w' v.ownBlock → Below B₀ w w' → wpList P ops Q rest (a.put o.dst v') w') : wpList P ops Q (o :: rest) a w := by
  obtain ⟨ht, i, z, hi, hz, hsz, hby, hzs, h0, hb0⟩ := hE
  subst hm
  refine wpList_append_own _ hgd s x t ho B₀ e i z size bytes ht hi hz hsz hby hzs h0 v l.length (l.flatMap enc) hs hS ⟨g, 0, none⟩ l2.length cap (l2.flatMap enc) hx (flatMap_len he l2) ?_ ?_ ?_ hbytes hbase ?_
  · intro j u hu
    exact World.ownsRow.cells hS2 (g := g) rfl j u hu
  · intro u hu
    obtain ⟨y, -, hy⟩ := List.mem_flatMap.1 hu
    exact h1 y u hy
  · have : (l.length + l2.length) * 1 ≤ (l.length + l2.length) * bytes := Nat.mul_le_mul_left _ hb0
    simp only [maxLen]; omega
  · intro v' w' hown hg _
    exact h v' w' (SlA.append (l2 := l2) hown rfl rfl rfl) hg (below_own hS hg hbase)
end Go.Proofs.Ytplccefjljdjnaa
