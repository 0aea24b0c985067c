/- append of one element that has just been laid in a block of its own: the run, and where the new list lies. No program. -/
import Derived.Test.YtplccefjljdjnaaCom
import Derived.ArgAppend
import Derived.Deep.DeepAppendRoom
set_option linter.unusedVariables false
set_option linter.unusedSimpArgs false
namespace Go.Proofs.Ytplccefjljdjnaa
open Go.RowKit
/-- The own block is as before, or a new one. -/
def OwnOr (n : Nat) (v v' : Value) : Prop := v'.ownBlock = v.ownBlock ∨ ∃ b, v'.ownBlock = some b ∧ n ≤ b
theorem ownBlock_ge {α : Type} {B₀ : Nat} {W : World} {e : TypeId} {size : Nat} {enc : α → List Value} {v : Value} {l : List α} (h : SlA B₀ W e size enc v l) (hl : l ≠ []) : ∃ b, v.ownBlock = some b ∧ B₀ ≤ b := by
  rcases h.2 with ⟨rfl, hn⟩ | ⟨g, cap, cur, rfl, hg, rest⟩
  · exact absurd (List.eq_nil_of_length_eq_zero hn) hl
  · exact ⟨g, rfl, hg⟩
theorem run_app1F {α : Type} {P : Program} {t e : TypeId} {size bytes : Nat} (hE : Elem P t e size bytes) {enc : α → List Value} (he : ∀ a, (enc a).length = size) (ty : TypeId)
    {B₀ : Nat} {w0 : World} {v : Value} {l : List α} (hS : SlA B₀ w0 e size enc v l) (y : α) (c : Nat) {cs : Array Value} (hcs : cs.toList = enc y) (h1 : ∀ u ∈ enc y, u.oneCell' = true)
    (hbytes : (l.length + 1) * bytes ≤ 140737488355328) (hbase : B₀ ≤ w0.heap.size) :
    ∃ v' w', (Builtin.append_ #[t, t] ty #[v, .slice (some ⟨w0.heap.size, 0, none⟩) 1 c]).run P (w0.alloc (.cells cs e)) = .ok v' w' ∧ SlA B₀ w' e size enc v' (l ++ [y]) ∧ (w0.alloc (.cells cs e)).grownBy w' v.ownBlock ∧ Below B₀ w0 w' ∧ OwnOr w0.heap.size v v' := by
  have hE' := hE
  obtain ⟨ht, i, z, hi, hz, hsz, hby, hzs, h0, hb0⟩ := hE
  have hnew : (w0.alloc (.cells cs e)).heap[w0.heap.size]? = some (.cells cs e) := by show (w0.heap.push _)[w0.heap.size]? = _; simp
  have hcells : ∀ j u, (enc y)[j]? = some u → (w0.alloc (.cells cs e)).cell? ((⟨w0.heap.size, 0, none⟩ : Addr).add j) = some u := by
    intro j u hu
    have e1 : (⟨w0.heap.size, 0, none⟩ : Addr).add j = ⟨w0.heap.size, j, none⟩ := by unfold Addr.add; split <;> simp_all
    rw [e1]
    rw [← hcs] at hu
    simp only [World.cell?, hnew]
    simpa using hu
  have hmax : l.length + 1 ≤ maxLen := by
    have : (l.length + 1) * 1 ≤ (l.length + 1) * bytes := Nat.mul_le_mul_left _ hb0
    simp only [maxLen]; omega
  have hsize : (w0.alloc (.cells cs e)).heap.size = w0.heap.size + 1 := by simp
  have hbel : ∀ {w' : World}, (w0.alloc (.cells cs e)).grownBy w' v.ownBlock → Below B₀ w0 w' := fun hg => by
    refine ((Below.refl B₀ w0).alloc hbase _).grown hg (by simp; omega) ?_
    intro k hk
    rcases hS.2 with ⟨rfl, _⟩ | ⟨g, cap, cur, rfl, hb, _⟩
    · simp [Value.ownBlock] at hk
    · simp [Value.ownBlock] at hk; omega
  have hS1 := World.ownsRow.alloc hS (.cells cs e)
  rcases hS.shape with ⟨rfl, rfl⟩ | ⟨g0, c0, rfl, hc1, hc2⟩
  · have hS0 : SlA w0.heap.size w0 e size enc (.slice none 0 0) ([] : List α) := SlA.nil _ _ _ _ _
    obtain ⟨v', w', hrun, hown, hg, -⟩ := run_append_own (P := P) (w0.alloc (.cells cs e)) w0.heap.size t ty e i z size bytes ht hi hz hsz hby hzs h0 (.slice none 0 0) 0 [] (World.ownsRow.alloc hS0 _) ⟨w0.heap.size, 0, none⟩ 1 c (enc y) (by rw [he, Nat.one_mul]) hcells h1 (by simpa using hmax) (by simpa using hbytes) (by omega)
    have hs2 : SlA w0.heap.size w' e size enc v' ([] ++ [y]) := SlA.append (l := []) (l2 := [y]) hown rfl rfl (by simp)
    exact ⟨v', w', hrun, hs2.mono hbase, hg, hbel hg, .inr (ownBlock_ge hs2 (by simp))⟩
  · by_cases hroom : l.length + 1 ≤ c0
    · obtain ⟨w', hrun, hown, hg⟩ := run_append_own_spare (P := P) (w0.alloc (.cells cs e)) B₀ t ty e i size ht hi hsz g0 l.length c0 (l.flatMap enc) hS1 ⟨w0.heap.size, 0, none⟩ 1 c (enc y) (by rw [he, Nat.one_mul]) hcells h1 hroom
      exact ⟨_, w', hrun, SlA.append (l2 := [y]) hown rfl rfl (by simp), hg, hbel hg, .inl rfl⟩
    · obtain ⟨v', w', hrun, hown, hg⟩ := run_append_arg_grows (P := P) (w0.alloc (.cells cs e)) t ty e i z size bytes ht hi hz hsz hby hzs h0 ⟨g0, 0, none⟩ l.length c0 (l.flatMap enc) (flatMap_len he l) (fun j u hu => World.ownsRow.cells hS1 (g := g0) rfl j u hu) ⟨w0.heap.size, 0, none⟩ 1 c (enc y) (by rw [he, Nat.one_mul]) hcells (by omega) hmax hbytes
      have hs2 : SlA (w0.alloc (.cells cs e)).heap.size w' e size enc v' (l ++ [y]) := SlA.append (l2 := [y]) hown rfl rfl (by simp)
      have hg' : (w0.alloc (.cells cs e)).grownBy w' (Value.ownBlock (.slice (some ⟨g0, 0, none⟩) l.length c0)) := ⟨hg.1, hg.2, hg.3, hg.size, fun k hk _ => hg.block k hk (by simp)⟩
      obtain ⟨b, hb1, hb2⟩ := ownBlock_ge hs2 (by simp)
      exact ⟨v', w', hrun, SlA.mono hs2 (by omega), hg', hbel hg', .inr ⟨b, hb1, by omega⟩⟩
end Go.Proofs.Ytplccefjljdjnaa
