/- make with a length that the walk computed; append with the whole frame. No program. -/
import Derived.Test.YtpjcfepngjpfbaaSlices
import Derived.Deep.OwnRows
import Derived.OwnWalk
namespace Go.Proofs.Ytpjcfepngjpfbaa
open Go.RowKit

theorem mk_run {P : Program} {t e : TypeId} {z : Value} {size bytes : Nat} (ht : P.underlying t = some (.slice e)) (hinfo : (P.info? e).map (fun i => (i.zero, i.size, i.bytes)) = some (some z, size, bytes)) (l c : Nat) (hlc : l ≤ c) (hb : bytes * c ≤ 281474976710656) (h63 : c ≤ 9223372036854775807) (w : World) :
    (Instr.makeSlice t (.int .i64 (l : Int)) (.int .i64 (c : Int))).run P w = .ok (.slice (some ⟨w.heap.size, 0, none⟩) l c) (w.alloc (.cells (madeCells z.cells (c * size)) e)) := by
  obtain ⟨i, hi, hzz⟩ := Option.map_eq_some_iff.1 hinfo
  simp only [Prod.mk.injEq] at hzz
  obtain ⟨hz, hs, hby⟩ := hzz
  have h := run_make (P := P) w t e i z ht hi hz .i64 .i64 (l : Int) (c : Int) (by omega) (by omega) (by rw [hby]; have : ((bytes * c : Nat) : Int) ≤ 281474976710656 := by omega
                                                                                                         rwa [Int.natCast_mul] at this) (by omega)
  simpa [hs] using h

/-- A row of one-cell elements that make has laid. -/
theorem madeCells_get {z : Value} {n i : Nat} (h : i < n) : (madeCells #[z] n)[i]? = some z := by simp [madeCells, h, Nat.mod_one]

/-- append of one element that has just been laid in a block of its own, with the whole frame. -/
theorem wp_app1G {α : Type} {P : Program} {ops : Array Oper} {rest : List Oper} {o : Oper} {a : Act} {Q : Exit → Act → World → Prop} {t e : TypeId} {size bytes : Nat} (hE : Elem P t e size bytes) {enc : α → List Value} (he : ∀ a, (enc a).length = size)
    (hgd : o.guard = none) (s x : Operand) (ho : o.op = .call { callee := .builtin .append, args := #[s, x], argTypes := #[t, t] })
    {B₀ : Nat} {w0 : World} {v : Value} {l : List α} (hs : a.eval s = v) (hS : SlA B₀ w0 e size enc v l) (y : α) {c : Nat} (hx : a.eval x = .slice (some ⟨w0.heap.size, 0, none⟩) 1 c) {cs : Array Value} (hcs : cs.toList = enc y) (h1 : ∀ u ∈ enc y, u.oneCell' = true)
    (hbytes : (l.length + 1) * bytes ≤ 140737488355328) (hbase : B₀ ≤ w0.heap.size)
    (h : ∀ v' w', SlA B₀ w' e size enc v' (l ++ [y]) → (w0.alloc (.cells cs e)).grownBy w' v.ownBlock → Below B₀ w0 w' → wpList P ops Q rest (a.put o.dst v') w') : wpList P ops Q (o :: rest) a (w0.alloc (.cells cs e)) := by
  obtain ⟨ht, i, z, hi, hz, hsz, hby, hzs, h0, hb0⟩ := hE
  have hnew : (w0.alloc (.cells cs e)).heap[w0.heap.size]? = some (.cells cs e) := by show (w0.heap.push _)[w0.heap.size]? = _; simp
  refine wpList_append_own _ hgd s x t ho B₀ e i z size bytes ht hi hz hsz hby hzs h0 v l.length (l.flatMap enc) hs (World.ownsRow.alloc hS _) ⟨w0.heap.size, 0, none⟩ 1 c (enc y) hx (by rw [he, Nat.one_mul]) ?_ h1 ?_ hbytes (by simp; omega) ?_
  · intro j u hu
    have e1 : (⟨w0.heap.size, 0, none⟩ : Addr).add j = ⟨w0.heap.size, j, none⟩ := by unfold Addr.add; split <;> simp_all
    rw [e1]
    rw [← hcs] at hu
    simp only [World.cell?, hnew]
    simpa using hu
  · have : (l.length + 1) * 1 ≤ (l.length + 1) * bytes := Nat.mul_le_mul_left _ hb0
    simp only [maxLen]; omega
  · intro v' w' hown hg _
    refine h v' w' (SlA.append (l2 := [y]) hown rfl rfl (by simp)) hg ?_
    refine ((Below.refl B₀ w0).alloc hbase _).grown hg (by simp; omega) ?_
    intro k hk
    rcases hS.2 with ⟨rfl, _⟩ | ⟨g, cap, cur, rfl, hb, _⟩
    · simp [Value.ownBlock] at hk
    · simp [Value.ownBlock] at hk; omega
end Go.Proofs.Ytpjcfepngjpfbaa
