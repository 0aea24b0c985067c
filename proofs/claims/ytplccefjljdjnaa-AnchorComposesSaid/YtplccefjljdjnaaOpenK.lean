/- The arguments of the anchor's laws, opened: changes with letters, cases. No walk. -/
import Derived.Test.YtplccefjljdjnaaMade
import Derived.Test.YtplccefjljdjnaaCom
import Derived.Test.YtplccefjljdjnaaOpn
set_option linter.unusedVariables false
set_option linter.unusedSimpArgs false
namespace Go.Proofs.Ytplccefjljdjnaa
open Go.ChangeShapes Go.WideShapes Go.ChangeAt Go.RowKit Go.OpenShut Go.ChangeMaps Go.Deep
namespace M
theorem cellsSpec : Try.prog.cellsOf 86 = 3 := by kernel_rfl
theorem spec_struct : ∃ f0 f1 f2 : Field, Try.prog.underlying 86 = some (.struct #[f0, f1, f2]) ∧ (f0.type = 3 ∧ f0.offset = 0) ∧ (f1.type = 3 ∧ f1.offset = 1) ∧ (f2.type = 9 ∧ f2.offset = 2) := ⟨_, _, _, Try.underlying86, ⟨rfl, rfl⟩, ⟨rfl, rfl⟩, ⟨rfl, rfl⟩⟩
theorem cells3 {l : List Value} (h : l.length = 3) : ∃ a b c, l = [a, b, c] := by
  match l, h with
  | [a, b, c], _ => exact ⟨a, b, c, rfl⟩
theorem cells5 {l : List Value} (h : l.length = 5) : ∃ a b c d e, l = [a, b, c, d, e] := by
  match l, h with
  | [a, b, c, d, e], _ => exact ⟨a, b, c, d, e, rfl⟩
theorem add_succ' (b : Addr) (j : Nat) : b.add (j + 1) = ⟨b.block, b.off + (j + 1), none⟩ := by unfold Addr.add; simp
theorem add_zero' (b : Addr) : b.add 0 = b := by unfold Addr.add; simp
theorem spec_open {H : Type} {enc : TypeId × Value → H} {W : World} {base : Nat} {sp : Nat → Bool} {hd : Bool} {n : Nat} {cs : List Value} {x : DataW H × List MemPlace} (h : DataW.trod enc Try.prog W base sp hd n 86 cs = some x) (hl : cs.length = 3) :
    ∃ s : Spc, cs = [.int .i64 s.pos, .int .i64 s.n, .string s.text] := by
  obtain ⟨f0, f1, f2, hs, ⟨t0, o0⟩, ⟨t1, o1⟩, ⟨t2, o2⟩⟩ := spec_struct
  obtain ⟨a, b, c, rfl⟩ := cells3 hl
  obtain ⟨xs, m, -, -, -, hx, hf⟩ := DataW.trod_struct hs h
  have hx2 : xs.length = 3 := hx
  have h0 := hf 0 f0 rfl; have h1 := hf 1 f1 rfl; have h2 := hf 2 f2 rfl
  have eS : Try.prog.cellsOf 9 = 1 := by kernel_rfl
  have eI : Try.prog.cellsOf 3 = 1 := by kernel_rfl
  rw [t0, o0, eI] at h0; rw [t1, o1, eI] at h1; rw [t2, o2, eS] at h2
  simp only [List.drop_zero, List.drop_succ_cons, List.take_succ_cons, List.take_zero] at h0 h1 h2
  rw [List.getElem?_eq_getElem (by omega)] at h0 h1 h2
  obtain ⟨y0, g0, -, -⟩ := DataW.trod_int Try.underlying3 h0
  obtain ⟨y1, g1, -, -⟩ := DataW.trod_int Try.underlying3 h1
  obtain ⟨y2, g2, -, -⟩ := DataW.trod_string Try.underlying9 h2
  simp only [List.cons.injEq, and_true] at g0 g1 g2
  subst g0 g1 g2
  exact ⟨⟨y0, y1, y2⟩, rfl⟩
instance : Inhabited Spc := ⟨⟨0, 0, ⟨#[]⟩⟩⟩
theorem cell_block {W : World} {a : Addr} {v : Value} (h : W.cell? a = some v) : a.block < W.heap.size := by
  unfold World.cell? at h
  cases hh : W.heap[a.block]? with
  | none => rw [hh] at h; cases h
  | some o => exact (Array.getElem?_eq_some_iff.1 hh).1
/-- A slice of changes with letters; where it lies. -/
theorem specs_cell {H : Type} {enc : TypeId × Value → H} {W : World} {base : Nat} {sp : Nat → Bool} {hd : Bool} {fuel : Nat} {c0 : Value} {x : DataW H × List MemPlace} (hf : DataW.trod enc Try.prog W base sp hd fuel 22 [c0] = some x) :
    ∃ S, RowSp W c0 S ∧ ∀ (a : Addr) n c, c0 = .slice (some a) n c → 0 < n → a.block < W.heap.size := by
  rcases open_slice Try.underlying22 hf with ⟨e, -⟩ | ⟨a, len, cap, m, n, D, Pl, e, -, hl, hm, hmm, -, hi⟩
  · simp only [List.cons.injEq, and_true] at e
    subst e
    exact ⟨[], ⟨none, 0, rfl, by simp, by unfold maxLen; omega, fun i h => by cases h⟩, fun a n c h => by cases h⟩
  · simp only [List.cons.injEq, and_true] at e
    subst e
    have hlm : len ≤ m := by rw [hmm]; split <;> omega
    have hall : ∀ i, i < len → ∃ x : Spc, SpAt W (a.add (i * 3)) x := by
      intro i hil
      obtain ⟨cs, hc, ht⟩ := hi i (by omega)
      rw [cellsSpec] at hc
      obtain ⟨-, hcl, hat⟩ := World.cells?_some hc
      obtain ⟨x, rfl⟩ := spec_open ht hcl
      have q0 := hat 0 (by omega); have q1 := hat 1 (by omega); have q2 := hat 2 (by omega)
      rw [add_succ'] at q1 q2
      rw [add_zero'] at q0
      exact ⟨x, q0, q1, q2⟩
    have hbl : 0 < len → a.block < W.heap.size := fun h0 => by
      obtain ⟨x, q, -⟩ := hall 0 h0
      have := cell_block q
      rwa [add_block] at this
    obtain ⟨f, hf⟩ := choose_lt hall
    refine ⟨(List.range len).map f, ⟨some a, cap, by simp, by simpa using hl, hm, fun i hil => ?_⟩, fun b n c h h0 => ?_⟩
    · have hil' : i < len := by simpa using hil
      refine ⟨a, rfl, hbl (by omega), ?_⟩
      simp only [List.getElem_map, List.getElem_range]
      exact hf i hil'
    · simp only [Value.slice.injEq, Option.some.injEq] at h
      obtain ⟨h1, h2, -⟩ := h
      rw [← h1]
      exact hbl (by omega)
theorem specs_open {H : Type} {enc : TypeId × Value → H} {W : World} {base : Nat} {sp : Nat → Bool} {hd : Bool} {v : Value} {d : DataW H} {p : List MemPlace} (hv : ∃ a0 len cap, v = .slice a0 len cap) (h : DataW.Trod enc Try.prog W base sp hd 22 v d p) :
    ∃ S, RowSp W v S ∧ ∀ (a : Addr) n c, v = .slice (some a) n c → 0 < n → a.block < W.heap.size := by
  obtain ⟨a0, len, cap, rfl⟩ := hv
  obtain ⟨fuel, hf⟩ := h
  exact specs_cell hf
/-- A length, changes, an offset, a number of letters, a gravity. -/
theorem case_struct : ∃ f0 f1 f2 f3 f4 : Field, Try.prog.underlying 24 = some (.struct #[f0, f1, f2, f3, f4]) ∧ (f0.type = 3 ∧ f0.offset = 0) ∧ (f1.type = 22 ∧ f1.offset = 1) ∧ (f2.type = 3 ∧ f2.offset = 2) ∧ (f3.type = 3 ∧ f3.offset = 3) ∧ (f4.type = 4 ∧ f4.offset = 4) := ⟨_, _, _, _, _, Try.underlying24, ⟨rfl, rfl⟩, ⟨rfl, rfl⟩, ⟨rfl, rfl⟩, ⟨rfl, rfl⟩, ⟨rfl, rfl⟩⟩
set_option maxRecDepth 100000 in
theorem case_open {H : Type} {enc : TypeId × Value → H} {W : World} {r : Reach} {b0 base : Nat} {sp : Nat → Bool} {hd : Bool} {v : Value} {d : DataW H} {p : List MemPlace} (hv : Value.okWide Try.prog W r b0 24 v) (h : DataW.Trod enc Try.prog W base sp hd 24 v d p) :
    ∃ (c : Value) (len a n : Int) (g : Bool) (S : List Spc), v = .agg #[.int .i64 len, c, .int .i64 a, .int .i64 n, .bool g] ∧ RowSp W c S ∧ ∀ (a : Addr) n k, c = .slice (some a) n k → 0 < n → a.block < W.heap.size := by
  obtain ⟨f0, f1, f2, f3, f4, hs, ⟨t0, o0⟩, ⟨t1, o1⟩, ⟨t2, o2⟩, ⟨t3, o3⟩, ⟨t4, o4⟩⟩ := case_struct
  obtain ⟨cs, rfl, hsz⟩ := okWide_struct hs hv
  have e5 : Try.prog.cellsOf 24 = 5 := by kernel_rfl
  have eI : Try.prog.cellsOf 3 = 1 := by kernel_rfl
  have eS : Try.prog.cellsOf 22 = 1 := by kernel_rfl
  have eB : Try.prog.cellsOf 4 = 1 := by kernel_rfl
  rw [e5] at hsz
  obtain ⟨l⟩ := cs
  obtain ⟨a, b, c, e, g, rfl⟩ := cells5 hsz
  obtain ⟨fuel, hf⟩ := h
  obtain ⟨xs, m, -, -, -, hx, hf⟩ := DataW.trod_struct hs hf
  have hx2 : xs.length = 5 := hx
  have h0 := hf 0 f0 rfl; have h1 := hf 1 f1 rfl; have h2 := hf 2 f2 rfl; have h3 := hf 3 f3 rfl; have h4 := hf 4 f4 rfl
  rw [t0, o0, eI] at h0; rw [t1, o1, eS] at h1; rw [t2, o2, eI] at h2; rw [t3, o3, eI] at h3; rw [t4, o4, eB] at h4
  simp only [Value.cells, List.drop_zero, List.drop_succ_cons, List.take_succ_cons, List.take_zero] at h0 h1 h2 h3 h4
  rw [List.getElem?_eq_getElem (by omega)] at h0 h1 h2 h3 h4
  obtain ⟨y0, g0, -, w0⟩ := DataW.trod_int Try.underlying3 h0
  obtain ⟨y2, g2, -, w2⟩ := DataW.trod_int Try.underlying3 h2
  obtain ⟨y3, g3, -, w3⟩ := DataW.trod_int Try.underlying3 h3
  obtain ⟨y4, g4, -⟩ := DataW.trod_bool Try.underlying4 h4
  simp only [List.cons.injEq, and_true] at g0 g2 g3 g4
  subst g0 g2 g3 g4
  obtain ⟨S, hS, hS2⟩ := specs_cell h1
  exact ⟨b, y0, y2, y3, y4, S, rfl, hS, hS2⟩
end M
end Go.Proofs.Ytplccefjljdjnaa
