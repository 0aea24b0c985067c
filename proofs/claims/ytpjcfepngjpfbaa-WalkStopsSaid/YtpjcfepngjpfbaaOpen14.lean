/- The arguments of the walk's laws, opened: Steps. No walk. -/
import Derived.Below
import Derived.WalkKit
import Derived.Lib.Hide
import Derived.ProofKit
import Derived.Test.YtpjcfepngjpfbaaMd14
import Derived.Deep.Slices
import Derived.OpenShut
import Derived.ChangeMaps5
import Derived.Carry
namespace Go.Proofs.Ytpjcfepngjpfbaa
open Go.RowKit

theorem wrap_in {x : Int} (h : -9223372036854775808 ≤ x) (h2 : x ≤ 9223372036854775807) : IntKind.i64.wrap x = x := by rw [IntKind.wrap_i64]; omega
theorem heap_new (W : World) (o : Obj) : (W.alloc o).heap[W.heap.size]? = some o := by
  show (W.heap.push o)[W.heap.size]? = _
  simp
theorem heap_new1 (W : World) (o o' : Obj) : ((W.alloc o).alloc o').heap[W.heap.size + 1]? = some o' := by
  have := heap_new (W.alloc o) o'; rwa [World.size_alloc] at this
theorem Below.step {A B C : World} (h : Below A.heap.size A B) (k : Below B.heap.size B C) : Below A.heap.size A C := h.trans (k.mono h.size)
theorem box_cell {W : World} {B : Nat} {t : TypeId} {v : Value} (h : W.heap[B]? = some (.cells #[v] t (0, 0))) : W.cell? ⟨B, 0, none⟩ = some v := by simp [World.cell?, h]
theorem box_frozen {W : World} {B : Nat} {t : TypeId} {v : Value} (h : W.heap[B]? = some (.cells #[v] t (0, 0))) : W.frozen? ⟨B, 0, none⟩ = false := by simp [World.frozen?, h]
theorem box_set {W : World} {B : Nat} {t : TypeId} {v : Value} (v' : Value) (h : W.heap[B]? = some (.cells #[v] t (0, 0))) : (W.setCell ⟨B, 0, none⟩ v').heap[B]? = some (.cells #[v'] t (0, 0)) := by
  obtain ⟨hlt, hk⟩ := Array.getElem?_eq_some_iff.1 h
  show (W.heap.modify B _)[B]? = _
  rw [Array.getElem?_eq_getElem (by rw [Array.size_modify]; exact hlt), Array.getElem_modify_self, hk]
  rfl
theorem box_below {A B : World} {b : Nat} {o : Obj} (hB : Below A.heap.size A B) (h : A.heap[b]? = some o) : B.heap[b]? = some o := (hB.block b (Array.getElem?_eq_some_iff.1 h).1).trans h
theorem cell_below {A C : World} {a : Addr} {v : Value} (h : A.cell? a = some v) (hb : Below A.heap.size A C) : C.cell? a = some v := by
  have h2 := h
  unfold World.cell? at h ⊢
  cases hh : A.heap[a.block]? with
  | none => rw [hh] at h; cases h
  | some o =>
    rw [hb.block a.block (Array.getElem?_eq_some_iff.1 hh).1]
    exact h
theorem add_add' (b : Addr) (i j : Nat) : (b.add i).add j = b.add (i + j) := by
  unfold Addr.add
  by_cases hi : i = 0 <;> by_cases hj : j = 0 <;> simp [hi, hj, Nat.add_assoc]

/-- A slice of values of one cell, wherever it lies. -/
def RowAt {α : Type} (enc : α → Value) (W : World) (v : Value) (L : List α) : Prop :=
  ∃ a cap, v = .slice a L.length cap ∧ L.length ≤ cap ∧ cap ≤ maxLen ∧ ∀ (i : Nat) (h : i < L.length), ∃ b, a = some b ∧ W.cell? (b.add i) = some (enc L[i])
theorem RowAt.below {α : Type} {enc : α → Value} {A C : World} {v : Value} {L : List α} (h : RowAt enc A v L) (hb : Below A.heap.size A C) : RowAt enc C v L := by
  obtain ⟨a, cap, rfl, h1, h2, h⟩ := h
  exact ⟨a, cap, rfl, h1, h2, fun i hi => (h i hi).imp fun b hh => ⟨hh.1, cell_below hh.2 hb⟩⟩
end Go.Proofs.Ytpjcfepngjpfbaa
namespace Go.Proofs.Ytpjcfepngjpfbaa
open Go.ChangeShapes Go.WideShapes Go.ChangeAt Go.RowKit

theorem post_below {H : Type} {enc : TypeId × Value → H} {P : Program} {f : Func} {s : ChangeSpec} {apart fresh handsOn : Bool} {W W' : World} {args : Array Value} {v : Value} {ds gs : List (DataW H)} {before pa pv : List MemPlace}
    (hW : DataW.Whole enc P f.params.toList s.vars apart W args.toList ds gs before)
    (hres : ∀ (b : Nat) (sp : Nat → Bool) (hd : Bool), DataW.TrodAll enc P W' b sp hd f.resultTypes.toList (v.resultList f.resultTypes.size) (s.fn H (ds ++ gs)).results [])
    (hargs : DataW.TrodAll enc P W' 0 (fun b => decide (b < W.heap.size)) true f.params.toList args.toList (s.fn H (ds ++ gs)).args pa)
    (hvars : DataW.TrodVars enc P W' (fun b => decide (b < W.heap.size)) s.vars (s.fn H (ds ++ gs)).vars pv)
    (hps : before = pa ++ pv) (hb : Below W.heap.size W W') :
    s.post enc P f apart fresh handsOn false W args v W' := by
  refine ⟨ds, gs, before, [], pa, pv, hW, hres _ _ _, hargs, hvars, World.keptBut_mono (fun p hp => ⟨hp, ?_⟩) (hb.frame (· ∈ before)), fun h => by cases h⟩
  rw [hps, List.mem_append] at hp
  exact Or.inr hp
end Go.Proofs.Ytpjcfepngjpfbaa
namespace Go.Proofs.Ytpjcfepngjpfbaa
open Go.ChangeShapes Go.WideShapes Go.ChangeAt Go.RowKit Go.OpenShut Go.ChangeMaps Go.Deep
namespace M
theorem cellsStep : Try.prog.cellsOf 95 = 4 := by kernel_rfl
theorem step_struct : ∃ f0 f1 f2 f3 : Field, Try.prog.underlying 95 = some (.struct #[f0, f1, f2, f3]) ∧ (f0.type = 4 ∧ f0.offset = 0) ∧ (f1.type = 5 ∧ f1.offset = 1) ∧ (f2.type = 5 ∧ f2.offset = 2) ∧ (f3.type = 5 ∧ f3.offset = 3) := ⟨_, _, _, _, Try.underlying95, ⟨rfl, rfl⟩, ⟨rfl, rfl⟩, ⟨rfl, rfl⟩, ⟨rfl, rfl⟩⟩
theorem cells4 {l : List Value} (h : l.length = 4) : ∃ a b c d, l = [a, b, c, d] := by
  match l, h with
  | [a, b, c, d], _ => exact ⟨a, b, c, d, rfl⟩
theorem add_succ4 (b : Addr) (j : Nat) : b.add (j + 1) = ⟨b.block, b.off + (j + 1), none⟩ := by unfold Addr.add; simp
theorem add_zero4 (b : Addr) : b.add 0 = b := by unfold Addr.add; simp
theorem step_open {H : Type} {enc : TypeId × Value → H} {W : World} {base : Nat} {sp : Nat → Bool} {hd : Bool} {n : Nat} {cs : List Value} {x : DataW H × List MemPlace} (h : DataW.trod enc Try.prog W base sp hd n 95 cs = some x) (hl : cs.length = 4) :
    ∃ m : Stp, (m.letter < 256 ∧ m.a < 256 ∧ m.b < 256) ∧ cs = [.bool m.join, .int .u8 m.letter, .int .u8 m.a, .int .u8 m.b] := by
  obtain ⟨f0, f1, f2, f3, hs, ⟨t0, o0⟩, ⟨t1, o1⟩, ⟨t2, o2⟩, ⟨t3, o3⟩⟩ := step_struct
  obtain ⟨a, b, c, d, rfl⟩ := cells4 hl
  obtain ⟨xs, m, -, -, -, hx, hf⟩ := DataW.trod_struct hs h
  have hx2 : xs.length = 4 := hx
  have h0 := hf 0 f0 rfl; have h1 := hf 1 f1 rfl; have h2 := hf 2 f2 rfl; have h3 := hf 3 f3 rfl
  have eI : Try.prog.cellsOf 4 = 1 := by kernel_rfl
  have eU : Try.prog.cellsOf 5 = 1 := by kernel_rfl
  rw [t0, o0, eI] at h0; rw [t1, o1, eU] at h1; rw [t2, o2, eU] at h2; rw [t3, o3, eU] at h3
  simp only [List.drop_zero, List.drop_succ_cons, List.take_succ_cons, List.take_zero] at h0 h1 h2 h3
  rw [List.getElem?_eq_getElem (by omega)] at h0 h1 h2 h3
  obtain ⟨y0, g0, -⟩ := DataW.trod_bool Try.underlying4 h0
  obtain ⟨y1, g1, -, w1⟩ := DataW.trod_int Try.underlying5 h1
  obtain ⟨y2, g2, -, w2⟩ := DataW.trod_int Try.underlying5 h2
  obtain ⟨y3, g3, -, w3⟩ := DataW.trod_int Try.underlying5 h3
  simp only [List.cons.injEq, and_true] at g0 g1 g2 g3
  subst g0 g1 g2 g3
  have b1 := bounds_u8 w1
  have b2 := bounds_u8 w2
  have b3 := bounds_u8 w3
  refine ⟨⟨y0, y1.toNat, y2.toNat, y3.toNat⟩, ⟨by dsimp only; omega, by dsimp only; omega, by dsimp only; omega⟩, ?_⟩
  have e1 : ((y1.toNat : Nat) : Int) = y1 := by omega
  have e2 : ((y2.toNat : Nat) : Int) = y2 := by omega
  have e3 : ((y3.toNat : Nat) : Int) = y3 := by omega
  dsimp only
  rw [e1, e2, e3]
instance : Inhabited Stp := ⟨⟨false, 0, 0, 0⟩⟩
theorem steps_cell {H : Type} {enc : TypeId × Value → H} {W : World} {base : Nat} {sp : Nat → Bool} {hd : Bool} {fuel : Nat} {c0 : Value} {x : DataW H × List MemPlace} (hf : DataW.trod enc Try.prog W base sp hd fuel 22 [c0] = some x) :
    ∃ L, RowStp W c0 L := by
  rcases open_slice Try.underlying22 hf with ⟨e, -⟩ | ⟨a, len, cap, m, n, D, Pl, e, -, hl, hm, hmm, -, hi⟩
  · simp only [List.cons.injEq, and_true] at e
    subst e
    exact ⟨[], ⟨none, 0, rfl, by simp, by unfold maxLen; omega, by simp, fun i h => by cases h⟩⟩
  · simp only [List.cons.injEq, and_true] at e
    subst e
    have hlm : len ≤ m := by rw [hmm]; split <;> omega
    have hall : ∀ i, i < len → ∃ x : Stp, (x.letter < 256 ∧ x.a < 256 ∧ x.b < 256) ∧ StpAt W (a.add (i * 4)) x := by
      intro i hil
      obtain ⟨cs, hc, ht⟩ := hi i (by omega)
      rw [cellsStep] at hc
      obtain ⟨-, hcl, hat⟩ := World.cells?_some hc
      obtain ⟨x, hx, rfl⟩ := step_open ht hcl
      have q0 := hat 0 (by omega); have q1 := hat 1 (by omega); have q2 := hat 2 (by omega); have q3 := hat 3 (by omega)
      rw [add_succ4] at q1 q2 q3
      rw [add_zero4] at q0
      exact ⟨x, hx, q0, q1, q2, q3⟩
    obtain ⟨f, hf⟩ := choose_lt hall
    refine ⟨(List.range len).map f, ⟨some a, cap, by simp, by simpa using hl, hm, fun q hq => ?_, fun i hil => ⟨a, rfl, ?_, ?_⟩⟩⟩
    · simp only [List.mem_map, List.mem_range] at hq
      obtain ⟨i, hi, rfl⟩ := hq
      exact (hf i hi).1
    · have hil' : i < len := by simpa using hil
      have h0 := (hf i hil').2.1
      rw [← adb a (i * 4)]
      unfold World.cell? at h0
      cases hh : W.heap[(a.add (i * 4)).block]? with
      | none => rw [hh] at h0; cases h0
      | some o => exact (Array.getElem?_eq_some_iff.1 hh).1
    · have hil' : i < len := by simpa using hil
      simp only [List.getElem_map, List.getElem_range]
      exact (hf i hil').2
theorem steps_open {H : Type} {enc : TypeId × Value → H} {W : World} {base : Nat} {sp : Nat → Bool} {hd : Bool} {a0 : Option Addr} {len cap : Nat} {d : DataW H} {p : List MemPlace} (h : DataW.Trod enc Try.prog W base sp hd 22 (.slice a0 len cap) d p) :
    ∃ L, RowStp W (.slice a0 len cap) L := by
  obtain ⟨fuel, hf⟩ := h
  exact steps_cell hf
end M
end Go.Proofs.Ytpjcfepngjpfbaa
