/- The arguments of the session's laws, opened: named texts, acts. No walk. -/
import Derived.Test.YtlfodhejpbjfcaaCom2
import Derived.Test.YtlfodhejpbjfcaaLon
import Derived.Test.YtlfodhejpbjfcaaCom
import Derived.Deep.Slices
import Derived.OpenShut
import Derived.ChangeMaps5
import Derived.Carry
set_option linter.unusedVariables false
set_option linter.unusedSimpArgs false
namespace Go.Proofs.Ytlfodhejpbjfcaa
open Go.ChangeShapes Go.WideShapes Go.ChangeAt Go.RowKit Go.OpenShut Go.ChangeMaps Go.Deep
namespace S
theorem cellsNamed : Try.prog.cellsOf 49 = 2 := by kernel_rfl
theorem cellsAct : Try.prog.cellsOf 29 = 4 := by kernel_rfl
theorem named_struct : ∃ f0 f1 : Field, Try.prog.underlying 49 = some (.struct #[f0, f1]) ∧ (f0.type = 9 ∧ f0.offset = 0) ∧ (f1.type = 47 ∧ f1.offset = 1) := ⟨_, _, Try.underlying49, ⟨rfl, rfl⟩, ⟨rfl, rfl⟩⟩
theorem act_struct : ∃ f0 f1 f2 f3 : Field, Try.prog.underlying 29 = some (.struct #[f0, f1, f2, f3]) ∧ (f0.type = 5 ∧ f0.offset = 0) ∧ (f1.type = 5 ∧ f1.offset = 1) ∧ (f2.type = 9 ∧ f2.offset = 2) ∧ (f3.type = 3 ∧ f3.offset = 3) := ⟨_, _, _, _, Try.underlying29, ⟨rfl, rfl⟩, ⟨rfl, rfl⟩, ⟨rfl, rfl⟩, ⟨rfl, rfl⟩⟩
theorem cells2 {l : List Value} (h : l.length = 2) : ∃ a b, l = [a, b] := by
  match l, h with
  | [a, b], _ => exact ⟨a, b, rfl⟩
theorem cells4 {l : List Value} (h : l.length = 4) : ∃ a b c d, l = [a, b, c, d] := by
  match l, h with
  | [a, b, c, d], _ => exact ⟨a, b, c, d, rfl⟩
theorem add_succ' (b : Addr) (j : Nat) : b.add (j + 1) = ⟨b.block, b.off + (j + 1), none⟩ := by unfold Addr.add; simp
theorem add_zero' (b : Addr) : b.add 0 = b := by unfold Addr.add; simp

theorem named_open {H : Type} {enc : TypeId × Value → H} {W : World} {base : Nat} {sp : Nat → Bool} {hd : Bool} {n : Nat} {cs : List Value} {x : DataW H × List MemPlace} (h : DataW.trod enc Try.prog W base sp hd n 49 cs = some x) (hl : cs.length = 2) :
    ∃ a : ByteArray × Int, a.1.size ≤ maxLen ∧ cs = [.string a.1, .int .i64 a.2] := by
  obtain ⟨f0, f1, hs, ⟨t0, o0⟩, ⟨t1, o1⟩⟩ := named_struct
  obtain ⟨a, b, rfl⟩ := cells2 hl
  obtain ⟨xs, m, -, -, -, hx, hf⟩ := DataW.trod_struct hs h
  have hx2 : xs.length = 2 := hx
  have h0 := hf 0 f0 rfl; have h1 := hf 1 f1 rfl
  have eS : Try.prog.cellsOf 9 = 1 := by kernel_rfl
  have eI : Try.prog.cellsOf 47 = 1 := by kernel_rfl
  rw [t0, o0, eS] at h0; rw [t1, o1, eI] at h1
  simp only [List.drop_zero, List.drop_succ_cons, List.take_succ_cons, List.take_zero] at h0 h1
  rw [List.getElem?_eq_getElem (by omega)] at h0 h1
  obtain ⟨y, g0, -, hy⟩ := DataW.trod_string Try.underlying9 h0
  obtain ⟨z, g1, -, -⟩ := DataW.trod_int Try.underlying47 h1
  simp only [List.cons.injEq, and_true] at g0 g1
  subst g0 g1
  exact ⟨(y, z), hy, rfl⟩
theorem act_open {H : Type} {enc : TypeId × Value → H} {W : World} {base : Nat} {sp : Nat → Bool} {hd : Bool} {n : Nat} {cs : List Value} {x : DataW H × List MemPlace} (h : DataW.trod enc Try.prog W base sp hd n 29 cs = some x) (hl : cs.length = 4) :
    ∃ a : ActL, (a.1 < 256 ∧ a.2.1 < 256 ∧ a.2.2.1.size ≤ maxLen) ∧ cs = [.int .u8 (a.1 : Int), .int .u8 (a.2.1 : Int), .string a.2.2.1, .int .i64 a.2.2.2] := by
  obtain ⟨f0, f1, f2, f3, hs, ⟨t0, o0⟩, ⟨t1, o1⟩, ⟨t2, o2⟩, ⟨t3, o3⟩⟩ := act_struct
  obtain ⟨a, b, c, d, rfl⟩ := cells4 hl
  obtain ⟨xs, m, -, -, -, hx, hf⟩ := DataW.trod_struct hs h
  have hx2 : xs.length = 4 := hx
  have h0 := hf 0 f0 rfl; have h1 := hf 1 f1 rfl; have h2 := hf 2 f2 rfl; have h3 := hf 3 f3 rfl
  have eS : Try.prog.cellsOf 9 = 1 := by kernel_rfl
  have eI : Try.prog.cellsOf 3 = 1 := by kernel_rfl
  have eU : Try.prog.cellsOf 5 = 1 := by kernel_rfl
  rw [t0, o0, eU] at h0; rw [t1, o1, eU] at h1; rw [t2, o2, eS] at h2; rw [t3, o3, eI] at h3
  simp only [List.drop_zero, List.drop_succ_cons, List.take_succ_cons, List.take_zero] at h0 h1 h2 h3
  rw [List.getElem?_eq_getElem (by omega)] at h0 h1 h2 h3
  obtain ⟨y0, g0, -, w0⟩ := DataW.trod_int Try.underlying5 h0
  obtain ⟨y1, g1, -, w1⟩ := DataW.trod_int Try.underlying5 h1
  obtain ⟨y2, g2, -, hy⟩ := DataW.trod_string Try.underlying9 h2
  obtain ⟨y3, g3, -, -⟩ := DataW.trod_int Try.underlying3 h3
  simp only [List.cons.injEq, and_true] at g0 g1 g2 g3
  subst g0 g1 g2 g3
  have b0 := bounds_u8 w0; have b1 := bounds_u8 w1
  refine ⟨(y0.toNat, y1.toNat, y2, y3), ⟨by dsimp only; omega, by dsimp only; omega, hy⟩, ?_⟩
  have e0 : ((y0.toNat : Nat) : Int) = y0 := by omega
  have e1 : ((y1.toNat : Nat) : Int) = y1 := by omega
  dsimp only
  rw [e0, e1]
theorem nameds_open {H : Type} {enc : TypeId × Value → H} {W : World} {base : Nat} {sp : Nat → Bool} {hd : Bool} {a0 : Option Addr} {len cap : Nat} {d : DataW H} {p : List MemPlace} (h : DataW.Trod enc Try.prog W base sp hd 22 (.slice a0 len cap) d p) :
    ∃ L, RowNm W (.slice a0 len cap) L := by
  obtain ⟨fuel, hf⟩ := h
  rcases open_slice Try.underlying22 hf with ⟨e, -⟩ | ⟨a, len', cap', m, n, D, Pl, e, -, hl, hm, hmm, -, hi⟩
  · simp [Value.cells] at e
    obtain ⟨rfl, rfl, rfl⟩ := e
    exact ⟨[], ⟨none, 0, rfl, by simp, by unfold maxLen; omega, by simp, fun i h => by cases h⟩⟩
  · simp [Value.cells] at e
    obtain ⟨rfl, rfl, rfl⟩ := e
    have hlm : len ≤ m := by rw [hmm]; split <;> omega
    have hall : ∀ i, i < len → ∃ x : ByteArray × Int, x.1.size ≤ maxLen ∧ W.cell? (a.add (i * 2)) = some (.string x.1) ∧ W.cell? ⟨(a.add (i * 2)).block, (a.add (i * 2)).off + 1, none⟩ = some (.int .i64 x.2) := by
      intro i hil
      obtain ⟨cs, hc, ht⟩ := hi i (by omega)
      rw [cellsNamed] at hc
      obtain ⟨-, hcl, hat⟩ := World.cells?_some hc
      obtain ⟨x, hx, rfl⟩ := named_open ht hcl
      have q0 := hat 0 (by omega); have q1 := hat 1 (by omega)
      rw [add_succ'] at q1
      rw [add_zero'] at q0
      exact ⟨x, hx, q0, q1⟩
    obtain ⟨f, hf⟩ := choose_lt hall
    refine ⟨(List.range len).map f, ⟨some a, cap, by simp, by simpa using hl, hm, fun q hq => ?_, fun i hil => ⟨a, rfl, ?_⟩⟩⟩
    · simp only [List.mem_map, List.mem_range] at hq
      obtain ⟨i, hi, rfl⟩ := hq
      exact (hf i hi).1
    · have hil' : i < len := by simpa using hil
      simp only [List.getElem_map, List.getElem_range]
      exact (hf i hil').2
theorem acts_open {H : Type} {enc : TypeId × Value → H} {W : World} {base : Nat} {sp : Nat → Bool} {hd : Bool} {a0 : Option Addr} {len cap : Nat} {d : DataW H} {p : List MemPlace} (h : DataW.Trod enc Try.prog W base sp hd 23 (.slice a0 len cap) d p) :
    ∃ L, RowAct W (.slice a0 len cap) L := by
  obtain ⟨fuel, hf⟩ := h
  rcases open_slice Try.underlying23 hf with ⟨e, -⟩ | ⟨a, len', cap', m, n, D, Pl, e, -, hl, hm, hmm, -, hi⟩
  · simp [Value.cells] at e
    obtain ⟨rfl, rfl, rfl⟩ := e
    exact ⟨[], ⟨none, 0, rfl, by simp, by unfold maxLen; omega, by simp, fun i h => by cases h⟩⟩
  · simp [Value.cells] at e
    obtain ⟨rfl, rfl, rfl⟩ := e
    have hlm : len ≤ m := by rw [hmm]; split <;> omega
    have hall : ∀ i, i < len → ∃ x : ActL, (x.1 < 256 ∧ x.2.1 < 256 ∧ x.2.2.1.size ≤ maxLen) ∧ W.cell? (a.add (i * 4)) = some (.int .u8 (x.1 : Int)) ∧ W.cell? ⟨(a.add (i * 4)).block, (a.add (i * 4)).off + 1, none⟩ = some (.int .u8 (x.2.1 : Int)) ∧
        W.cell? ⟨(a.add (i * 4)).block, (a.add (i * 4)).off + 2, none⟩ = some (.string x.2.2.1) ∧ W.cell? ⟨(a.add (i * 4)).block, (a.add (i * 4)).off + 3, none⟩ = some (.int .i64 x.2.2.2) := by
      intro i hil
      obtain ⟨cs, hc, ht⟩ := hi i (by omega)
      rw [cellsAct] at hc
      obtain ⟨-, hcl, hat⟩ := World.cells?_some hc
      obtain ⟨x, hx, rfl⟩ := act_open ht hcl
      have q0 := hat 0 (by omega); have q1 := hat 1 (by omega); have q2 := hat 2 (by omega); have q3 := hat 3 (by omega)
      rw [add_succ'] at q1 q2 q3
      rw [add_zero'] at q0
      exact ⟨x, hx, q0, q1, q2, q3⟩
    obtain ⟨f, hf⟩ := choose_lt hall
    refine ⟨(List.range len).map f, ⟨some a, cap, by simp, by simpa using hl, hm, fun q hq => ?_, fun i hil => ⟨a, rfl, ?_⟩⟩⟩
    · simp only [List.mem_map, List.mem_range] at hq
      obtain ⟨i, hi, rfl⟩ := hq
      exact (hf i hi).1
    · have hil' : i < len := by simpa using hil
      simp only [List.getElem_map, List.getElem_range]
      exact (hf i hil').2
end S
end Go.Proofs.Ytlfodhejpbjfcaa
