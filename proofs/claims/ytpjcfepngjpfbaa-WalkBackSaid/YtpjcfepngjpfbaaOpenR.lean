/- The argument []api.Rule, opened. No walk. -/
import Derived.Test.YtpjcfepngjpfbaaR11
import Derived.Test.YtpjcfepngjpfbaaCom
import Derived.Deep.Slices
import Derived.OpenShut
import Derived.ChangeMaps5
import Derived.Carry
set_option linter.unusedVariables false
set_option linter.unusedSimpArgs false
namespace Go.Proofs.Ytpjcfepngjpfbaa
open Go.ChangeShapes Go.WideShapes Go.ChangeAt Go.RowKit Go.OpenShut Go.ChangeMaps Go.Deep
namespace M
theorem cellsRule : Try.prog.cellsOf 59 = 5 := by kernel_rfl
theorem rule_struct : ∃ f0 f1 f2 f3 f4 : Field, Try.prog.underlying 59 = some (.struct #[f0, f1, f2, f3, f4]) ∧ (f0.type = 3 ∧ f0.offset = 0) ∧ (f1.type = 5 ∧ f1.offset = 1) ∧ (f2.type = 31 ∧ f2.offset = 2) ∧ (f3.type = 31 ∧ f3.offset = 3) ∧ (f4.type = 3 ∧ f4.offset = 4) := ⟨_, _, _, _, _, Try.underlying59, ⟨rfl, rfl⟩, ⟨rfl, rfl⟩, ⟨rfl, rfl⟩, ⟨rfl, rfl⟩, ⟨rfl, rfl⟩⟩
theorem cells5r {l : List Value} (h : l.length = 5) : ∃ a b c d e, l = [a, b, c, d, e] := by
  match l, h with
  | [a, b, c, d, e], _ => exact ⟨a, b, c, d, e, rfl⟩
theorem add_succ5r (b : Addr) (j : Nat) : b.add (j + 1) = ⟨b.block, b.off + (j + 1), none⟩ := by unfold Addr.add; simp
theorem add_zero5r (b : Addr) : b.add 0 = b := by unfold Addr.add; simp
theorem rule_open {H : Type} {enc : TypeId × Value → H} {W : World} {base : Nat} {sp : Nat → Bool} {hd : Bool} {n : Nat} {cs : List Value} {x : DataW H × List MemPlace} (h : DataW.trod enc Try.prog W base sp hd n 59 cs = some x) (hl : cs.length = 5) :
    ∃ m : RuI, m.Wd ∧ cs = [.int .i64 m.kind, .int .u8 m.letter, .int .i64 m.left, .int .i64 m.right, .int .i64 m.times] := by
  obtain ⟨f0, f1, f2, f3, f4, hs, ⟨t0, o0⟩, ⟨t1, o1⟩, ⟨t2, o2⟩, ⟨t3, o3⟩, ⟨t4, o4⟩⟩ := rule_struct
  obtain ⟨a, b, c, d, e, rfl⟩ := cells5r hl
  obtain ⟨xs, m, -, -, -, hx, hf⟩ := DataW.trod_struct hs h
  have hx2 : xs.length = 5 := hx
  have h0 := hf 0 f0 rfl; have h1 := hf 1 f1 rfl; have h2 := hf 2 f2 rfl; have h3 := hf 3 f3 rfl; have h4 := hf 4 f4 rfl
  have eI : Try.prog.cellsOf 3 = 1 := by kernel_rfl
  have eD : Try.prog.cellsOf 31 = 1 := by kernel_rfl
  have eU : Try.prog.cellsOf 5 = 1 := by kernel_rfl
  rw [t0, o0, eI] at h0; rw [t1, o1, eU] at h1; rw [t2, o2, eD] at h2; rw [t3, o3, eD] at h3; rw [t4, o4, eI] at h4
  simp only [List.drop_zero, List.drop_succ_cons, List.take_succ_cons, List.take_zero] at h0 h1 h2 h3 h4
  rw [List.getElem?_eq_getElem (by omega)] at h0 h1 h2 h3 h4
  obtain ⟨y0, g0, -, w0⟩ := DataW.trod_int Try.underlying3 h0
  obtain ⟨y1, g1, -, w1⟩ := DataW.trod_int Try.underlying5 h1
  obtain ⟨y2, g2, -, w2⟩ := DataW.trod_int Try.underlying31 h2
  obtain ⟨y3, g3, -, w3⟩ := DataW.trod_int Try.underlying31 h3
  obtain ⟨y4, g4, -, w4⟩ := DataW.trod_int Try.underlying3 h4
  simp only [List.cons.injEq, and_true] at g0 g1 g2 g3 g4
  subst g0 g1 g2 g3 g4
  have b1 := bounds_u8 w1
  have b0 := bounds_i64 w0; have b2 := bounds_i64 w2; have b3 := bounds_i64 w3; have b4 := bounds_i64 w4
  refine ⟨⟨y0, y1.toNat, y2, y3, y4⟩, ⟨by dsimp only; omega, b0, b2, b3, b4⟩, ?_⟩
  have e1 : ((y1.toNat : Nat) : Int) = y1 := by omega
  dsimp only
  rw [e1]
instance : Inhabited RuI := ⟨⟨0, 0, 0, 0, 0⟩⟩
theorem rules_cell {H : Type} {enc : TypeId × Value → H} {W : World} {base : Nat} {sp : Nat → Bool} {hd : Bool} {fuel : Nat} {c0 : Value} {x : DataW H × List MemPlace} (hf : DataW.trod enc Try.prog W base sp hd fuel 42 [c0] = some x) :
    ∃ L, RowRu W c0 L := by
  rcases open_slice Try.underlying42 hf with ⟨e, -⟩ | ⟨a, len, cap, m, n, D, Pl, e, -, hl, hm, hmm, -, hi⟩
  · simp only [List.cons.injEq, and_true] at e
    subst e
    exact ⟨[], ⟨none, 0, rfl, by simp, by unfold maxLen; omega, by simp, fun i h => by cases h⟩⟩
  · simp only [List.cons.injEq, and_true] at e
    subst e
    have hlm : len ≤ m := by rw [hmm]; split <;> omega
    have hall : ∀ i, i < len → ∃ x : RuI, x.Wd ∧ RuIAt W (a.add (i * 5)) x := by
      intro i hil
      obtain ⟨cs, hc, ht⟩ := hi i (by omega)
      rw [cellsRule] at hc
      obtain ⟨-, hcl, hat⟩ := World.cells?_some hc
      obtain ⟨x, hx, rfl⟩ := rule_open ht hcl
      have q0 := hat 0 (by omega); have q1 := hat 1 (by omega); have q2 := hat 2 (by omega); have q3 := hat 3 (by omega); have q4 := hat 4 (by omega)
      rw [add_succ5r] at q1 q2 q3 q4
      rw [add_zero5r] at q0
      exact ⟨x, hx, q0, q1, q2, q3, q4⟩
    obtain ⟨f, hf⟩ := choose_lt hall
    refine ⟨(List.range len).map f, ⟨some a, cap, by simp, by simpa using hl, hm, fun q hq => ?_, fun i hil => ⟨a, rfl, ?_, ?_⟩⟩⟩
    · simp only [List.mem_map, List.mem_range] at hq
      obtain ⟨i, hi, rfl⟩ := hq
      exact (hf i hi).1
    · have hil' : i < len := by simpa using hil
      have h0 := (hf i hil').2.1
      rw [← adb a (i * 5)]
      unfold World.cell? at h0
      cases hh : W.heap[(a.add (i * 5)).block]? with
      | none => rw [hh] at h0; cases h0
      | some o => exact (Array.getElem?_eq_some_iff.1 hh).1
    · have hil' : i < len := by simpa using hil
      simp only [List.getElem_map, List.getElem_range]
      exact (hf i hil').2
theorem rules_open {H : Type} {enc : TypeId × Value → H} {W : World} {base : Nat} {sp : Nat → Bool} {hd : Bool} {a0 : Option Addr} {len cap : Nat} {d : DataW H} {p : List MemPlace} (h : DataW.Trod enc Try.prog W base sp hd 42 (.slice a0 len cap) d p) :
    ∃ L, RowRu W (.slice a0 len cap) L := by
  obtain ⟨fuel, hf⟩ := h
  exact rules_cell hf
end M
end Go.Proofs.Ytpjcfepngjpfbaa
