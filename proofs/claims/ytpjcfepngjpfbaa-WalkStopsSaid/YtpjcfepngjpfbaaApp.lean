/- append of one element that has just been laid in a block of its own: the run. No program. -/
import Derived.Test.YtpjcfepngjpfbaaOwn
namespace Go.Proofs.Ytpjcfepngjpfbaa
open Go.RowKit
theorem run_app1 {α : Type} {P : Program} {t e : TypeId} {size bytes : Nat} (hE : Elem P t e size bytes) {enc : α → List Value} (he : ∀ a, (enc a).length = size) (ty : TypeId)
    {B₀ : Nat} {w0 : World} {v : Value} {l : List α} (hS : SlA B₀ w0 e size enc v l) (y : α) (c : Nat) {cs : Array Value} (hcs : cs.toList = enc y) (h1 : ∀ u ∈ enc y, u.oneCell' = true)
    (hbytes : (l.length + 1) * bytes ≤ 140737488355328) (hbase : B₀ ≤ w0.heap.size) :
    ∃ v' w', (Builtin.append_ #[t, t] ty #[v, .slice (some ⟨w0.heap.size, 0, none⟩) 1 c]).run P (w0.alloc (.cells cs e)) = .ok v' w' ∧ SlA B₀ w' e size enc v' (l ++ [y]) ∧ (w0.alloc (.cells cs e)).grownBy w' v.ownBlock ∧ Below B₀ w0 w' := by
  obtain ⟨ht, i, z, hi, hz, hsz, hby, hzs, h0, hb0⟩ := hE
  have hnew : (w0.alloc (.cells cs e)).heap[w0.heap.size]? = some (.cells cs e) := by show (w0.heap.push _)[w0.heap.size]? = _; simp
  obtain ⟨v', w', hrun, hown, hg, -⟩ := run_append_own (P := P) (w0.alloc (.cells cs e)) B₀ t ty e i z size bytes ht hi hz hsz hby hzs h0 v l.length (l.flatMap enc) (World.ownsRow.alloc hS _) ⟨w0.heap.size, 0, none⟩ 1 c (enc y) (by rw [he, Nat.one_mul]) (by
    intro j u hu
    have e1 : (⟨w0.heap.size, 0, none⟩ : Addr).add j = ⟨w0.heap.size, j, none⟩ := by unfold Addr.add; split <;> simp_all
    rw [e1]
    rw [← hcs] at hu
    simp only [World.cell?, hnew]
    simpa using hu) h1 (by
    have : (l.length + 1) * 1 ≤ (l.length + 1) * bytes := Nat.mul_le_mul_left _ hb0
    simp only [maxLen]; omega) hbytes (by simp; omega)
  refine ⟨v', w', hrun, SlA.append (l2 := [y]) hown rfl rfl (by simp), hg, ?_⟩
  refine ((Below.refl B₀ w0).alloc hbase _).grown hg (by simp; omega) ?_
  intro k hk
  rcases hS.2 with ⟨rfl, _⟩ | ⟨g, cap, cur, rfl, hb, _⟩
  · simp [Value.ownBlock] at hk
  · simp [Value.ownBlock] at hk; omega
end Go.Proofs.Ytpjcfepngjpfbaa
