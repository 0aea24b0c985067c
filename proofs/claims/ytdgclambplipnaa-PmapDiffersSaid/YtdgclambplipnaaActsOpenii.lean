/- An argument that is a slice of changes, opened. -/
import Derived.Test.YtdgclambplipnaaPlaysii
import Derived.Deep.Slices
import Derived.OpenShut
import Derived.ChangeMaps5
namespace Go.Proofs.Ytdgclambplipnaa
open Go.RowKit Go.Shelf Go.ChangeShapes Go.WideShapes Go.Deep Go.OpenShut
namespace ii
theorem act_struct : ∃ f0 f1 f2 : Field, Try.prog.underlying 36 = some (.struct #[f0, f1, f2]) ∧ (f0.type = 4 ∧ f0.offset = 0) ∧ (f1.type = 3 ∧ f1.offset = 1) ∧ (f2.type = 3 ∧ f2.offset = 2) := ⟨_, _, _, Try.underlying36, ⟨rfl, rfl⟩, ⟨rfl, rfl⟩, ⟨rfl, rfl⟩⟩
theorem cells3 {l : List Value} (h : l.length = 3) : ∃ a b c, l = [a, b, c] := by
  match l, h with
  | [a, b, c], _ => exact ⟨a, b, c, rfl⟩
theorem add_succ' (b : Addr) (j : Nat) : b.add (j + 1) = ⟨b.block, b.off + (j + 1), none⟩ := by unfold Addr.add; simp

theorem act_open {H : Type} {enc : TypeId × Value → H} {W : World} {base : Nat} {sp : Nat → Bool} {hd : Bool} {n : Nat} {cs : List Value} {x : DataW H × List MemPlace} (h : DataW.trod enc Try.prog W base sp hd n 36 cs = some x) (hl : cs.length = 3) :
    ∃ a : Bool × Int × Int, ok a.2.1 ∧ cs = [.bool a.1, Value.int .i64 a.2.1, .int .i64 a.2.2] := by
  obtain ⟨f0, f1, f2, hs, ⟨t0, o0⟩, ⟨t1, o1⟩, ⟨t2, o2⟩⟩ := act_struct
  obtain ⟨a, b, c, rfl⟩ := cells3 hl
  obtain ⟨xs, m, -, -, -, hx, hf⟩ := DataW.trod_struct hs h
  have hx3 : xs.length = 3 := hx
  have h0 := hf 0 f0 rfl; have h1 := hf 1 f1 rfl; have h2 := hf 2 f2 rfl
  have e4 : Try.prog.cellsOf 4 = 1 := by kernel_rfl
  have eK : Try.prog.cellsOf 3 = 1 := by kernel_rfl
  have eI : Try.prog.cellsOf 3 = 1 := by kernel_rfl
  rw [t0, o0, e4] at h0; rw [t1, o1, eK] at h1; rw [t2, o2, eI] at h2
  simp only [List.drop_zero, List.drop_succ_cons, List.take_succ_cons, List.take_zero] at h0 h1 h2
  rw [List.getElem?_eq_getElem (by omega)] at h0 h1 h2
  obtain ⟨d, g0, -⟩ := DataW.trod_bool Try.underlying4 h0
  obtain ⟨k, g1, -, wf⟩ := DataW.trod_int Try.underlying3 h1
  obtain ⟨z, g2, -, -⟩ := DataW.trod_int Try.underlying3 h2
  simp only [List.cons.injEq, and_true] at g0 g1 g2
  subst g0 g1 g2
  exact ⟨(d, k, z), bounds_i64 wf, rfl⟩

theorem acts_open {H : Type} {enc : TypeId × Value → H} {W : World} {base : Nat} {sp : Nat → Bool} {hd : Bool} {a0 : Option Addr} {len cap : Nat} {d : DataW H} {p : List MemPlace} (h : DataW.Trod enc Try.prog W base sp hd 32 (.slice a0 len cap) d p) :
    ∃ L, ActsAt W (.slice a0 len cap) L ∧ ∀ a ∈ L, ok a.2.1 := by
  obtain ⟨fuel, hf⟩ := h
  have eA : Try.prog.cellsOf 36 = 3 := by kernel_rfl
  rcases open_slice Try.underlying32 hf with ⟨e, -⟩ | ⟨a, len', cap', m, n, D, Pl, e, -, hl, hm, hmm, -, hi⟩
  · simp [Value.cells] at e
    obtain ⟨rfl, rfl, rfl⟩ := e
    exact ⟨[], ⟨none, 0, rfl, fun i h => by cases h⟩, fun a h => by cases h⟩
  · simp [Value.cells] at e
    obtain ⟨rfl, rfl, rfl⟩ := e
    have hlm : len ≤ m := by rw [hmm]; split <;> omega
    have hall : ∀ i, i < len → ∃ x : Bool × Int × Int, ok x.2.1 ∧ W.cell? (a.add (i * 3)) = some (.bool x.1) ∧ W.cell? ⟨(a.add (i * 3)).block, (a.add (i * 3)).off + 1, none⟩ = some (Value.int .i64 x.2.1) ∧ W.cell? ⟨(a.add (i * 3)).block, (a.add (i * 3)).off + 2, none⟩ = some (.int .i64 x.2.2) := by
      intro i hil
      obtain ⟨cs, hc, ht⟩ := hi i (by omega)
      rw [eA] at hc
      obtain ⟨-, hcl, hat⟩ := World.cells?_some hc
      obtain ⟨x, hx, rfl⟩ := act_open ht hcl
      have q0 := hat 0 (by omega); have q1 := hat 1 (by omega); have q2 := hat 2 (by omega)
      rw [add_succ'] at q1 q2
      have z0 : (a.add (i * 3)).add 0 = a.add (i * 3) := by unfold Addr.add; simp
      rw [z0] at q0
      exact ⟨x, hx, q0, q1, q2⟩
    obtain ⟨f, hf⟩ := choose_lt hall
    refine ⟨(List.range len).map f, ⟨some a, cap, by simp, fun i hil => ⟨a, rfl, ?_⟩⟩, ?_⟩
    · have hil' : i < len := by simpa using hil
      obtain ⟨-, h0, h1, h2⟩ := hf i hil'
      simp only [List.getElem_map, List.getElem_range]
      exact ⟨h0, h1, h2⟩
    · intro x hx
      obtain ⟨i, hil, rfl⟩ := List.mem_map.1 hx
      exact (hf i (List.mem_range.1 hil)).1
end ii
end Go.Proofs.Ytdgclambplipnaa
