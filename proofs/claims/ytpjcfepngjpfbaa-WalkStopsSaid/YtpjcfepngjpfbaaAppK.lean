/- append to a list of the call's own, where the old list stands, too; what stands where blocks of some types turn. No program. -/
import Derived.Test.YtpjcfepngjpfbaaApp
import Derived.Test.YtpjcfepngjpfbaaParts0
import Derived.Deep.DeepAppendRoom
import Derived.Test.YtpjcfepngjpfbaaAccW
namespace Go.Proofs.Ytpjcfepngjpfbaa
open Go.RowKit
theorem wp_run_app {P : Program} {w w' : World} {ops : Array Oper} {rest : List Oper} {o : Oper} {a : Act} {Q : Exit → Act → World → Prop} {t : TypeId} {v v1 v2 : Value} (hgd : o.guard = none) (s x : Operand) (ho : o.op = .call { callee := .builtin .append, args := #[s, x], argTypes := #[t, t] })
    (h1 : a.eval s = v1) (h2 : a.eval x = v2) (hrun : (Builtin.append_ #[t, t] o.type #[v1, v2]).run P w = .ok v w') (hK : wpList P ops Q rest (a.put o.dst v) w') : wpList P ops Q (o :: rest) a w :=
  wpList_plain hgd fun _ hK' => by
    unfold Oper.wp execOp
    simp only [ho, resolve, invoke, builtin, Sem.run_bind, Sem.run_pure, Result.andThen_ok, List.map_toArray, List.map_cons, List.map_nil, h1, h2, hrun]
    exact hK' _ _ hK
end Go.Proofs.Ytpjcfepngjpfbaa
namespace Go.Proofs.Ytpjcfepngjpfbaa
open Go.RowKit Go.Lib
/-- The first elements of a slice. -/
theorem SlA.prefix {α : Type} {B₀ : Nat} {W : World} {e : TypeId} {size : Nat} {enc : α → List Value} (he : ∀ a, (enc a).length = size) {a : Option Addr} {n cap : Nat} {l : List α} (h : SlA B₀ W e size enc (.slice a n cap) l) {k : Nat} (hk : k ≤ l.length) : SlA B₀ W e size enc (.slice a k cap) (l.take k) := by
  have hl : (l.take k).length = k := by rw [List.length_take]; omega
  have hf : (l.take k).flatMap enc = (l.flatMap enc).take (k * size) := by
    have e1 : l.flatMap enc = (l.take k).flatMap enc ++ (l.drop k).flatMap enc := by rw [← List.flatMap_append, List.take_append_drop]
    rw [e1]
    exact (List.take_left' (by rw [flatMap_len he, hl])).symm
  refine ⟨flatMap_len he _, ?_⟩
  rcases h.2 with ⟨hv, hz⟩ | ⟨g, c, cur, hv, hb, hg, h1, h2, h3, h4⟩
  · cases hv
    left
    have : k = 0 := by omega
    subst this
    exact ⟨rfl, by simp⟩
  · simp only [Value.slice.injEq] at hv
    obtain ⟨rfl, rfl, rfl⟩ := hv
    refine .inr ⟨g, cap, cur, by rw [hl], hb, hg, by rw [hl]; omega, h2, h3, ?_⟩
    rw [hl, hf, ← h4, List.take_take, Nat.min_eq_left (Nat.mul_le_mul_right _ hk)]
/-- append of a list that is not nil to a list of the call's own: the block is the same, or a new one. -/
theorem run_catN {α : Type} {P : Program} {t e : TypeId} {size bytes : Nat} (hE : Elem P t e size bytes) {enc : α → List Value} (he : ∀ a, (enc a).length = size) (h1 : ∀ y, ∀ u ∈ enc y, u.oneCell' = true) (ty : TypeId)
    {B₀ B₁ g0 c0 g cap n0 m : Nat} {w : World} {l l2 : List α} (hS : SlA B₀ w e size enc (.slice (some ⟨g0, 0, none⟩) n0 c0) l) (hn0 : l.length = n0) (hS2 : SlA B₁ w e size enc (.slice (some ⟨g, 0, none⟩) m cap) l2) (hm : l2.length = m) (hbytes : (l.length + l2.length) * bytes ≤ 140737488355328) (hbase : B₀ ≤ w.heap.size) :
    ∃ g' c' w', (Builtin.append_ #[t, t] ty #[.slice (some ⟨g0, 0, none⟩) n0 c0, .slice (some ⟨g, 0, none⟩) m cap]).run P w = .ok (.slice (some ⟨g', 0, none⟩) (n0 + m) c') w' ∧ SlA B₀ w' e size enc (.slice (some ⟨g', 0, none⟩) (n0 + m) c') (l ++ l2) ∧ w.grownBy w' (some g0) ∧ (g' = g0 ∨ w.heap.size ≤ g') := by
  subst hn0 hm
  obtain ⟨ht, i, z, hi, hz, hsz, hby, hzs, h0, hb0⟩ := hE
  have hcells : ∀ j u, (l2.flatMap enc)[j]? = some u → w.cell? ((⟨g, 0, none⟩ : Addr).add j) = some u := fun j u hu => World.ownsRow.cells hS2 (g := g) rfl j u hu
  have hone : ∀ u ∈ l2.flatMap enc, u.oneCell' = true := by
    intro u hu
    obtain ⟨y, -, hy⟩ := List.mem_flatMap.1 hu
    exact h1 y u hy
  by_cases hroom : l.length + l2.length ≤ c0
  · obtain ⟨w', hrun, hown, hg⟩ := run_append_own_spare (P := P) w B₀ t ty e i size ht hi hsz g0 l.length c0 (l.flatMap enc) hS ⟨g, 0, none⟩ l2.length cap (l2.flatMap enc) (flatMap_len he l2) hcells hone hroom
    exact ⟨g0, c0, w', hrun, SlA.append (l2 := l2) hown rfl rfl rfl, hg, .inl rfl⟩
  · obtain ⟨v', w', hrun, hown, hg⟩ := run_append_arg_grows (P := P) w t ty e i z size bytes ht hi hz hsz hby hzs h0 ⟨g0, 0, none⟩ l.length c0 (l.flatMap enc) (flatMap_len he l) (fun j u hu => World.ownsRow.cells hS (g := g0) rfl j u hu) ⟨g, 0, none⟩ l2.length cap (l2.flatMap enc) (flatMap_len he l2) hcells (by omega) (by
      have : (l.length + l2.length) * 1 ≤ (l.length + l2.length) * bytes := Nat.mul_le_mul_left _ hb0
      simp only [maxLen]; omega) hbytes
    have hs2 : SlA w.heap.size w' e size enc v' (l ++ l2) := SlA.append (l2 := l2) hown rfl rfl rfl
    rcases hown.2 with ⟨hv, hz0⟩ | ⟨g', c', cur, rfl, hb', hrest⟩
    · exfalso
      rcases hS.shape with ⟨hv, -⟩ | ⟨g2, c2, hv, h2, -⟩
      · cases hv
      · cases hv; omega
    · exact ⟨g', c', w', hrun, SlA.mono hs2 hbase, ⟨hg.1, hg.2, hg.3, hg.size, fun k hk _ => hg.block k hk (by simp)⟩, .inr hb'⟩
end Go.Proofs.Ytpjcfepngjpfbaa
namespace Go.Proofs.Ytpjcfepngjpfbaa
open Go.RowKit Go.Lib
theorem run_catK {α : Type} {P : Program} {t e : TypeId} {size bytes : Nat} (hE : Elem P t e size bytes) {enc : α → List Value} (he : ∀ a, (enc a).length = size) (h1 : ∀ y, ∀ u ∈ enc y, u.oneCell' = true) (ty : TypeId)
    {B₀ B₁ g cap m : Nat} {w : World} {v : Value} {l l2 : List α} (hS : SlA B₀ w e size enc v l) (hS2 : SlA B₁ w e size enc (.slice (some ⟨g, 0, none⟩) m cap) l2) (hm : l2.length = m) (hbytes : (l.length + l2.length) * bytes ≤ 140737488355328) (hbase : B₀ ≤ w.heap.size) :
    ∃ v' w', (Builtin.append_ #[t, t] ty #[v, .slice (some ⟨g, 0, none⟩) m cap]).run P w = .ok v' w' ∧ SlA B₀ w' e size enc v' (l ++ l2) ∧ w.grownBy w' v.ownBlock ∧ Below B₀ w w' ∧ SlA B₀ w' e size enc v l := by
  subst hm
  rcases hS.shape with ⟨rfl, rfl⟩ | ⟨g0, c0, rfl, hc1, hc2⟩
  · obtain ⟨v', w', hr, ho, hg, hb⟩ := run_catO hE he h1 ty hS hS2 hbytes hbase
    exact ⟨v', w', hr, ho, hg, hb, SlA.nil _ _ _ _ _⟩
  · have hE' := hE
    obtain ⟨ht, i, z, hi, hz, hsz, hby, hzs, h0, hb0⟩ := hE
    have hcells : ∀ j u, (l2.flatMap enc)[j]? = some u → w.cell? ((⟨g, 0, none⟩ : Addr).add j) = some u := fun j u hu => World.ownsRow.cells hS2 (g := g) rfl j u hu
    have hone : ∀ u ∈ l2.flatMap enc, u.oneCell' = true := by
      intro u hu
      obtain ⟨y, -, hy⟩ := List.mem_flatMap.1 hu
      exact h1 y u hy
    by_cases hroom : l.length + l2.length ≤ c0
    · obtain ⟨w', hrun, hown, hg⟩ := run_append_own_spare (P := P) w B₀ t ty e i size ht hi hsz g0 l.length c0 (l.flatMap enc) hS ⟨g, 0, none⟩ l2.length cap (l2.flatMap enc) (flatMap_len he l2) hcells hone hroom
      have hs2 : SlA B₀ w' e size enc (.slice (some ⟨g0, 0, none⟩) (l.length + l2.length) c0) (l ++ l2) := SlA.append (l2 := l2) hown rfl rfl rfl
      have hp := SlA.prefix he hs2 (k := l.length) (by simp)
      rw [List.take_left' rfl] at hp
      exact ⟨_, w', hrun, hs2, hg, below_own hS hg hbase, hp⟩
    · obtain ⟨v', w', hrun, hown, hg⟩ := run_append_arg_grows (P := P) w t ty e i z size bytes ht hi hz hsz hby hzs h0 ⟨g0, 0, none⟩ l.length c0 (l.flatMap enc) (flatMap_len he l) (fun j u hu => World.ownsRow.cells hS (g := g0) rfl j u hu) ⟨g, 0, none⟩ l2.length cap (l2.flatMap enc) (flatMap_len he l2) hcells (by omega) (by
        have : (l.length + l2.length) * 1 ≤ (l.length + l2.length) * bytes := Nat.mul_le_mul_left _ hb0
        simp only [maxLen]; omega) hbytes
      have hs2 : SlA w.heap.size w' e size enc v' (l ++ l2) := SlA.append (l2 := l2) hown rfl rfl rfl
      exact ⟨v', w', hrun, SlA.mono hs2 hbase, ⟨hg.1, hg.2, hg.3, hg.size, fun k hk _ => hg.block k hk (by simp)⟩, (below_none hg).mono hbase, hS.below (below_none hg)⟩
/-- Nothing but blocks of some types has turned, and none of these below n. -/
structure KpL (ts : List TypeId) (n : Nat) (A B : World) : Prop where
  below : Below n A B
  cells : ∀ t, t ∉ ts → KeepT t A B
  others : KeepsOthers A B
theorem KpL.of {ts : List TypeId} {n : Nat} {A B : World} (h : Below A.heap.size A B) (hn : n ≤ A.heap.size) : KpL ts n A B := ⟨h.mono hn, fun _ _ => KeepT.below h, keepsOthers_below h⟩
theorem KpL.trans {ts : List TypeId} {n : Nat} {A B C : World} (h : KpL ts n A B) (k : KpL ts n B C) : KpL ts n A C := ⟨h.below.trans k.below, fun t ht => (h.cells t ht).trans (k.cells t ht), h.others.trans k.others⟩
theorem KpL.own {α : Type} {ts : List TypeId} {n size : Nat} {e : TypeId} {enc : α → List Value} {A B : World} {v : Value} {l : List α} (hS : SlA n A e size enc v l) (hg : A.grownBy B v.ownBlock) (hn : n ≤ A.heap.size) (he : e ∈ ts) : KpL ts n A B := by
  refine ⟨below_own hS hg hn, fun t ht => keep_own hS hg (fun h => ht (h ▸ he)), ⟨hg.size, fun k o hk ho => ?_⟩⟩
  rw [hg.block k (Array.getElem?_eq_some_iff.1 hk).1 ?_]
  · exact hk
  · rcases hS.2 with ⟨rfl, _⟩ | ⟨g, cap, cur, rfl, _, hgb, _⟩
    · simp [Value.ownBlock]
    · intro e'
      obtain rfl : k = g := by simpa [Value.ownBlock] using e'
      rw [hk] at hgb; cases hgb; cases ho
theorem KpL.sub {ts us : List TypeId} {n m : Nat} {A B : World} (h : KpL ts n A B) (hs : ∀ t ∈ ts, t ∈ us) (hm : m ≤ n) : KpL us m A B := ⟨h.below.mono hm, fun t ht => h.cells t (fun k => ht (hs t k)), h.others⟩
namespace M
theorem StAt.kpl {ts : List TypeId} {n n0 B most : Nat} {A C : World} {E : List En} (hs : StAt n0 A B most E) (h : KpL ts n A C) (h1 : 116 ∉ ts) (h2 : 122 ∉ ts) : StAt n0 C B most E := by
  obtain ⟨lv, mb, k1, k2, k3, k4⟩ := hs
  refine ⟨lv, mb, h.cells _ h1 _ _ _ k1, SlA.keep k2 (h.cells _ h2), ?_, k4⟩
  obtain ⟨es, c, h5, h6⟩ := k3
  exact ⟨es, c, h.others.same _ _ h5 rfl, h6⟩
end M
end Go.Proofs.Ytpjcfepngjpfbaa
