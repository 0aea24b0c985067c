/- The arguments of the cursor's laws, opened: scripts of calls, two scripts. No walk. -/
import Derived.ProofKit
import Derived.Below
import Derived.Test.YtjbllcakaljpgaaRefBuild
import Derived.Test.YtjbllcakaljpgaaBase
import Derived.Deep.Slices
import Derived.OpenShut
import Derived.ChangeMaps5
import Derived.Carry
import Derived.SizedLaws
import Derived.Test.YtjbllcakaljpgaaAct18
namespace Go.Proofs.Ytjbllcakaljpgaa
open Go.ChangeShapes Go.WideShapes Go.ChangeAt Go.RowKit

theorem post_below {H : Type} {enc : TypeId × Value → H} {P : Program} {f : Func} {s : ChangeSpec} {apart fresh handsOn : Bool} {W W' : World} {args : Array Value} {v : Value} {ds gs : List (DataW H)} {before pa pv : List MemPlace}
    (hW : DataW.Whole enc P f.params.toList s.vars apart W args.toList ds gs before)
    (hres : ∀ (b : Nat) (sp : Nat → Bool) (hd : Bool), DataW.TrodAll enc P W' b sp hd f.resultTypes.toList (v.resultList f.resultTypes.size) (s.fn H (ds ++ gs)).results [])
    (hargs : DataW.TrodAll enc P W' 0 (fun b => decide (b < W.heap.size)) true f.params.toList args.toList (s.fn H (ds ++ gs)).args pa)
    (hvars : DataW.TrodVars enc P W' (fun b => decide (b < W.heap.size)) s.vars (s.fn H (ds ++ gs)).vars pv)
    (hps : before = pa ++ pv) (hb : Below W.heap.size W W') :
    s.post enc P f apart fresh handsOn false W args v W' := by
  refine ⟨ds, gs, before, [], pa, pv, hW, hres _ _ _, hargs, hvars, World.keptBut_mono (fun p hp => ⟨hp, ?_⟩) (hb.frame (· ∈ before)), fun h => by cases h⟩
  rw [hps, List.mem_append] at hp
  exact Or.inr hp
end Go.Proofs.Ytjbllcakaljpgaa
namespace Go.Proofs.Ytjbllcakaljpgaa
open Go.ChangeShapes Go.WideShapes Go.ChangeAt Go.RowKit Go.OpenShut Go.ChangeMaps Go.Deep
namespace M
theorem cellsMake : Try.prog.cellsOf 105 = 5 := by kernel_rfl
theorem make_struct : ∃ f0 f1 f2 f3 f4 : Field, Try.prog.underlying 105 = some (.struct #[f0, f1, f2, f3, f4]) ∧ (f0.type = 3 ∧ f0.offset = 0) ∧ (f1.type = 5 ∧ f1.offset = 1) ∧ (f2.type = 3 ∧ f2.offset = 2) ∧ (f3.type = 3 ∧ f3.offset = 3) ∧ (f4.type = 3 ∧ f4.offset = 4) := ⟨_, _, _, _, _, Try.underlying105, ⟨rfl, rfl⟩, ⟨rfl, rfl⟩, ⟨rfl, rfl⟩, ⟨rfl, rfl⟩, ⟨rfl, rfl⟩⟩
theorem cells5 {l : List Value} (h : l.length = 5) : ∃ a b c d e, l = [a, b, c, d, e] := by
  match l, h with
  | [a, b, c, d, e], _ => exact ⟨a, b, c, d, e, rfl⟩
theorem cells2 {l : List Value} (h : l.length = 2) : ∃ a b, l = [a, b] := by
  match l, h with
  | [a, b], _ => exact ⟨a, b, rfl⟩
theorem add_succ' (b : Addr) (j : Nat) : b.add (j + 1) = ⟨b.block, b.off + (j + 1), none⟩ := by unfold Addr.add; simp
theorem add_zero' (b : Addr) : b.add 0 = b := by unfold Addr.add; simp
theorem make_open {H : Type} {enc : TypeId × Value → H} {W : World} {base : Nat} {sp : Nat → Bool} {hd : Bool} {n : Nat} {cs : List Value} {x : DataW H × List MemPlace} (h : DataW.trod enc Try.prog W base sp hd n 105 cs = some x) (hl : cs.length = 5) :
    ∃ m : Mk, (m.letter < 256 ∧ m.times ≤ 9223372036854775807) ∧ cs = [.int .i64 m.kind, .int .u8 m.letter, .int .i64 m.left, .int .i64 m.right, .int .i64 m.times] := by
  obtain ⟨f0, f1, f2, f3, f4, hs, ⟨t0, o0⟩, ⟨t1, o1⟩, ⟨t2, o2⟩, ⟨t3, o3⟩, ⟨t4, o4⟩⟩ := make_struct
  obtain ⟨a, b, c, d, e, rfl⟩ := cells5 hl
  obtain ⟨xs, m, -, -, -, hx, hf⟩ := DataW.trod_struct hs h
  have hx2 : xs.length = 5 := hx
  have h0 := hf 0 f0 rfl; have h1 := hf 1 f1 rfl; have h2 := hf 2 f2 rfl; have h3 := hf 3 f3 rfl; have h4 := hf 4 f4 rfl
  have eI : Try.prog.cellsOf 3 = 1 := by kernel_rfl
  have eU : Try.prog.cellsOf 5 = 1 := by kernel_rfl
  rw [t0, o0, eI] at h0; rw [t1, o1, eU] at h1; rw [t2, o2, eI] at h2; rw [t3, o3, eI] at h3; rw [t4, o4, eI] at h4
  simp only [List.drop_zero, List.drop_succ_cons, List.take_succ_cons, List.take_zero] at h0 h1 h2 h3 h4
  rw [List.getElem?_eq_getElem (by omega)] at h0 h1 h2 h3 h4
  obtain ⟨y0, g0, -, w0⟩ := DataW.trod_int Try.underlying3 h0
  obtain ⟨y1, g1, -, w1⟩ := DataW.trod_int Try.underlying5 h1
  obtain ⟨y2, g2, -, w2⟩ := DataW.trod_int Try.underlying3 h2
  obtain ⟨y3, g3, -, w3⟩ := DataW.trod_int Try.underlying3 h3
  obtain ⟨y4, g4, -, w4⟩ := DataW.trod_int Try.underlying3 h4
  simp only [List.cons.injEq, and_true] at g0 g1 g2 g3 g4
  subst g0 g1 g2 g3 g4
  have b1 := bounds_u8 w1
  have b4 := bounds_i64 w4
  refine ⟨⟨y0, y1.toNat, y2, y3, y4⟩, ⟨by dsimp only; omega, by dsimp only; omega⟩, ?_⟩
  have e1 : ((y1.toNat : Nat) : Int) = y1 := by omega
  dsimp only
  rw [e1]
instance : Inhabited Mk := ⟨⟨0, 0, 0, 0, 0⟩⟩
theorem makes_cell {H : Type} {enc : TypeId × Value → H} {W : World} {base : Nat} {sp : Nat → Bool} {hd : Bool} {fuel : Nat} {c0 : Value} {x : DataW H × List MemPlace} (hf : DataW.trod enc Try.prog W base sp hd fuel 22 [c0] = some x) :
    ∃ L, RowMk W c0 L := by
  rcases open_slice Try.underlying22 hf with ⟨e, -⟩ | ⟨a, len, cap, m, n, D, Pl, e, -, hl, hm, hmm, -, hi⟩
  · simp only [List.cons.injEq, and_true] at e
    subst e
    exact ⟨[], ⟨none, 0, rfl, by simp, by unfold maxLen; omega, by simp, fun i h => by cases h⟩⟩
  · simp only [List.cons.injEq, and_true] at e
    subst e
    have hlm : len ≤ m := by rw [hmm]; split <;> omega
    have hall : ∀ i, i < len → ∃ x : Mk, (x.letter < 256 ∧ x.times ≤ 9223372036854775807) ∧ MkAt W (a.add (i * 5)) x := by
      intro i hil
      obtain ⟨cs, hc, ht⟩ := hi i (by omega)
      rw [cellsMake] at hc
      obtain ⟨-, hcl, hat⟩ := World.cells?_some hc
      obtain ⟨x, hx, rfl⟩ := make_open ht hcl
      have q0 := hat 0 (by omega); have q1 := hat 1 (by omega); have q2 := hat 2 (by omega); have q3 := hat 3 (by omega); have q4 := hat 4 (by omega)
      rw [add_succ'] at q1 q2 q3 q4
      rw [add_zero'] at q0
      exact ⟨x, hx, q0, q1, q2, q3, q4⟩
    obtain ⟨f, hf⟩ := choose_lt hall
    refine ⟨(List.range len).map f, ⟨some a, cap, by simp, by simpa using hl, hm, fun q hq => ?_, fun i hil => ⟨a, rfl, ?_⟩⟩⟩
    · simp only [List.mem_map, List.mem_range] at hq
      obtain ⟨i, hi, rfl⟩ := hq
      exact (hf i hi).1
    · have hil' : i < len := by simpa using hil
      simp only [List.getElem_map, List.getElem_range]
      exact (hf i hil').2
theorem makes_open {H : Type} {enc : TypeId × Value → H} {W : World} {base : Nat} {sp : Nat → Bool} {hd : Bool} {a0 : Option Addr} {len cap : Nat} {d : DataW H} {p : List MemPlace} (h : DataW.Trod enc Try.prog W base sp hd 22 (.slice a0 len cap) d p) :
    ∃ L, RowMk W (.slice a0 len cap) L := by
  obtain ⟨fuel, hf⟩ := h
  exact makes_cell hf
/-- Rules, a number, an offset, a number of letters. -/
theorem at_struct : ∃ f0 f1 f2 f3 : Field, Try.prog.underlying 33 = some (.struct #[f0, f1, f2, f3]) ∧ (f0.type = 22 ∧ f0.offset = 0) ∧ (f1.type = 3 ∧ f1.offset = 1) ∧ (f2.type = 3 ∧ f2.offset = 2) ∧ (f3.type = 3 ∧ f3.offset = 3) := ⟨_, _, _, _, Try.underlying33, ⟨rfl, rfl⟩, ⟨rfl, rfl⟩, ⟨rfl, rfl⟩, ⟨rfl, rfl⟩⟩
theorem cells4 {l : List Value} (h : l.length = 4) : ∃ a b c d, l = [a, b, c, d] := by
  match l, h with
  | [a, b, c, d], _ => exact ⟨a, b, c, d, rfl⟩
set_option maxRecDepth 100000 in
theorem at_open {H : Type} {enc : TypeId × Value → H} {W : World} {r : Reach} {b0 base : Nat} {sp : Nat → Bool} {hd : Bool} {v : Value} {d : DataW H} {p : List MemPlace} (hv : Value.okWide Try.prog W r b0 33 v) (h : DataW.Trod enc Try.prog W base sp hd 33 v d p) :
    ∃ (c : Value) (n a m : Int) (L : List Mk), v = .agg #[c, .int .i64 n, .int .i64 a, .int .i64 m] ∧ RowMk W c L := by
  obtain ⟨f0, f1, f2, f3, hs, ⟨t0, o0⟩, ⟨t1, o1⟩, ⟨t2, o2⟩, ⟨t3, o3⟩⟩ := at_struct
  obtain ⟨cs, rfl, hsz⟩ := okWide_struct hs hv
  have e4 : Try.prog.cellsOf 33 = 4 := by kernel_rfl
  have eI : Try.prog.cellsOf 3 = 1 := by kernel_rfl
  have eS : Try.prog.cellsOf 22 = 1 := by kernel_rfl
  rw [e4] at hsz
  obtain ⟨l⟩ := cs
  obtain ⟨a, b, c, e, rfl⟩ := cells4 hsz
  obtain ⟨fuel, hf⟩ := h
  obtain ⟨xs, m, -, -, -, hx, hf⟩ := DataW.trod_struct hs hf
  have hx2 : xs.length = 4 := hx
  have h0 := hf 0 f0 rfl; have h1 := hf 1 f1 rfl; have h2 := hf 2 f2 rfl; have h3 := hf 3 f3 rfl
  rw [t0, o0, eS] at h0; rw [t1, o1, eI] at h1; rw [t2, o2, eI] at h2; rw [t3, o3, eI] at h3
  simp only [Value.cells, List.drop_zero, List.drop_succ_cons, List.take_succ_cons, List.take_zero] at h0 h1 h2 h3
  rw [List.getElem?_eq_getElem (by omega)] at h0 h1 h2 h3
  obtain ⟨y1, g1, -, w1⟩ := DataW.trod_int Try.underlying3 h1
  obtain ⟨y2, g2, -, w2⟩ := DataW.trod_int Try.underlying3 h2
  obtain ⟨y3, g3, -, w3⟩ := DataW.trod_int Try.underlying3 h3
  simp only [List.cons.injEq, and_true] at g1 g2 g3
  subst g1 g2 g3
  obtain ⟨L, hL⟩ := makes_cell h0
  exact ⟨a, y1, y2, y3, L, rfl, hL⟩
end M
end Go.Proofs.Ytjbllcakaljpgaa
namespace Go.Proofs.Ytjbllcakaljpgaa
open Go.RowKit Go.ChangeShapes Go.WideShapes Go.Deep
theorem len_reach {H : Type} {enc : TypeId × Value → H} {P : Program} {W : World} {base : Nat} {sp : Nat → Bool} {hd : Bool} {t e : TypeId} (ht : P.underlying t = some (.slice e)) {a0 : Option Addr} {len cap : Nat} {d : DataW H} {p : List MemPlace} (h : DataW.Trod enc P W base sp hd t (.slice a0 len cap) d p) (hw : ∀ n ∈ d.weights P t, n ≤ reachBytes) : len * P.bytesOf e ≤ reachBytes := by
  obtain ⟨fuel, hf⟩ := h
  rcases open_slice ht hf with ⟨ee, -⟩ | ⟨a, len', cap', m, n, D, Pl, ee, -, hl, hm, hmm, hx, hi⟩
  · simp [Value.cells] at ee
    obtain ⟨-, rfl, -⟩ := ee
    simp
  · simp [Value.cells] at ee
    obtain ⟨rfl, rfl, rfl⟩ := ee
    simp only [Prod.mk.injEq] at hx
    have h1 := hw ((len + (m - len)) * P.bytesOf e) (by rw [hx.1]; simp only [DataW.weights, ht]; simp)
    exact Nat.le_trans (Nat.mul_le_mul_right _ (Nat.le_add_right _ _)) h1
theorem weights_at {H : Type} {P : Program} {ts : List TypeId} {ds : List (DataW H)} (h : (DataW.weightsEach P ts ds).all (· ≤ reachBytes) = true) {j : Nat} {t : TypeId} {d : DataW H} (ht : ts[j]? = some t) (hd : ds[j]? = some d) : ∀ n ∈ d.weights P t, n ≤ reachBytes := fun n hn => by
  have := List.all_eq_true.1 h _ (DataW.weights_mem_each ht hd n hn)
  simpa using this
end Go.Proofs.Ytjbllcakaljpgaa
namespace Go.Proofs.Ytjbllcakaljpgaa
open Go.ChangeShapes Go.WideShapes Go.ChangeAt Go.RowKit Go.OpenShut Go.ChangeMaps Go.Deep
namespace M
theorem cellsAc : Try.prog.cellsOf 70 = 2 := by kernel_rfl
theorem ac_struct : ∃ f0 f1 : Field, Try.prog.underlying 70 = some (.struct #[f0, f1]) ∧ (f0.type = 3 ∧ f0.offset = 0) ∧ (f1.type = 3 ∧ f1.offset = 1) := ⟨_, _, Try.underlying70, ⟨rfl, rfl⟩, ⟨rfl, rfl⟩⟩
theorem ac_open {H : Type} {enc : TypeId × Value → H} {W : World} {base : Nat} {sp : Nat → Bool} {hd : Bool} {n : Nat} {cs : List Value} {x : DataW H × List MemPlace} (h : DataW.trod enc Try.prog W base sp hd n 70 cs = some x) (hl : cs.length = 2) :
    ∃ m : Ac, cs = [.int .i64 m.kind, .int .i64 m.n] := by
  obtain ⟨f0, f1, hs, ⟨t0, o0⟩, ⟨t1, o1⟩⟩ := ac_struct
  obtain ⟨a, b, rfl⟩ := cells2 hl
  obtain ⟨xs, m, -, -, -, hx, hf⟩ := DataW.trod_struct hs h
  have hx2 : xs.length = 2 := hx
  have h0 := hf 0 f0 rfl; have h1 := hf 1 f1 rfl
  have eI : Try.prog.cellsOf 3 = 1 := by kernel_rfl
  rw [t0, o0, eI] at h0; rw [t1, o1, eI] at h1
  simp only [List.drop_zero, List.drop_succ_cons, List.take_succ_cons, List.take_zero] at h0 h1
  rw [List.getElem?_eq_getElem (by omega)] at h0 h1
  obtain ⟨y0, g0, -, w0⟩ := DataW.trod_int Try.underlying3 h0
  obtain ⟨y1, g1, -, w1⟩ := DataW.trod_int Try.underlying3 h1
  simp only [List.cons.injEq, and_true] at g0 g1
  subst g0 g1
  exact ⟨⟨y0, y1⟩, rfl⟩
instance : Inhabited Ac := ⟨⟨0, 0⟩⟩
theorem acs_cell {H : Type} {enc : TypeId × Value → H} {W : World} {base : Nat} {sp : Nat → Bool} {hd : Bool} {fuel : Nat} {c0 : Value} {x : DataW H × List MemPlace} (hf : DataW.trod enc Try.prog W base sp hd fuel 57 [c0] = some x) :
    ∃ L, RowAc W c0 L := by
  rcases open_slice Try.underlying57 hf with ⟨e, -⟩ | ⟨a, len, cap, m, n, D, Pl, e, -, hl, hm, hmm, -, hi⟩
  · simp only [List.cons.injEq, and_true] at e
    subst e
    exact ⟨[], ⟨none, 0, rfl, by simp, by unfold maxLen; omega, fun i h => by cases h⟩⟩
  · simp only [List.cons.injEq, and_true] at e
    subst e
    have hlm : len ≤ m := by rw [hmm]; split <;> omega
    have hall : ∀ i, i < len → ∃ x : Ac, AcAt W (a.add (i * 2)) x := by
      intro i hil
      obtain ⟨cs, hc, ht⟩ := hi i (by omega)
      rw [cellsAc] at hc
      obtain ⟨-, hcl, hat⟩ := World.cells?_some hc
      obtain ⟨x, rfl⟩ := ac_open ht hcl
      have q0 := hat 0 (by omega); have q1 := hat 1 (by omega)
      rw [add_succ'] at q1
      rw [add_zero'] at q0
      exact ⟨x, q0, q1⟩
    obtain ⟨f, hf⟩ := choose_lt hall
    refine ⟨(List.range len).map f, ⟨some a, cap, by simp, by simpa using hl, hm, fun i hil => ⟨a, rfl, ?_⟩⟩⟩
    have hil' : i < len := by simpa using hil
    simp only [List.getElem_map, List.getElem_range]
    exact hf i hil'
theorem acs_open {H : Type} {enc : TypeId × Value → H} {W : World} {base : Nat} {sp : Nat → Bool} {hd : Bool} {a0 : Option Addr} {len cap : Nat} {d : DataW H} {p : List MemPlace} (h : DataW.Trod enc Try.prog W base sp hd 57 (.slice a0 len cap) d p) :
    ∃ L, RowAc W (.slice a0 len cap) L := by
  obtain ⟨fuel, hf⟩ := h
  exact acs_cell hf
theorem bytesAc : Try.prog.bytesOf 70 = 16 := by kernel_rfl
theorem acs_reach {H : Type} {enc : TypeId × Value → H} {W : World} {base : Nat} {sp : Nat → Bool} {hd : Bool} {fuel : Nat} {c0 : Value} {d : DataW H} {p : List MemPlace} (hf : DataW.trod enc Try.prog W base sp hd fuel 57 [c0] = some (d, p)) (hw : ∀ n ∈ d.weights Try.prog 57, n ≤ reachBytes) :
    ∃ L, RowAc W c0 L ∧ L.length ≤ 1000000000000000 := by
  obtain ⟨L, hL⟩ := acs_cell hf
  refine ⟨L, hL, ?_⟩
  obtain ⟨a, cap, rfl, -⟩ := hL
  have := len_reach Try.underlying57 (show DataW.Trod enc Try.prog W base sp hd 57 (.slice a L.length cap) d p from ⟨fuel, hf⟩) hw
  rw [bytesAc] at this
  simp only [reachBytes] at this
  omega
theorem mem_all' {H : Type} {P : Program} {e : TypeId} {n : Nat} : ∀ {l : List (DataW H)} {d : DataW H}, d ∈ l → n ∈ d.weights P e → n ∈ DataW.weightsAll P e l
  | a :: l, d, h, hn => by
    simp only [DataW.weightsAll, List.mem_append]
    rcases List.mem_cons.1 h with rfl | h
    · exact .inl hn
    · exact .inr (mem_all' h hn)
set_option maxRecDepth 100000 in
theorem two_acs {H : Type} {enc : TypeId × Value → H} {W : World} {r : Reach} {b0 base : Nat} {sp : Nat → Bool} {hd : Bool} {v : Value} {d : DataW H} {p : List MemPlace} (hv : Value.okWide Try.prog W r b0 78 v) (h : DataW.Trod enc Try.prog W base sp hd 78 v d p) (hw : ∀ n ∈ d.weights Try.prog 78, n ≤ reachBytes) :
    ∃ (a b : Value) (L L2 : List Ac), v = .agg #[a, b] ∧ RowAc W a L ∧ RowAc W b L2 ∧ L.length + L2.length ≤ 4000000000000000 := by
  obtain ⟨cs, rfl, hsz⟩ : ∃ cs, v = .agg cs ∧ cs.size = Try.prog.cellsOf 78 := by
    simp only [Value.okWide, Try.underlying78] at hv
    obtain ⟨cs, h1, h2, _⟩ := hv
    exact ⟨cs, h1, h2⟩
  have e2 : Try.prog.cellsOf 78 = 2 := by kernel_rfl
  have eI : Try.prog.cellsOf 57 = 1 := by kernel_rfl
  rw [e2] at hsz
  obtain ⟨l⟩ := cs
  obtain ⟨x, y, rfl⟩ := M.cells2 hsz
  obtain ⟨fuel, hf⟩ := h
  obtain ⟨xs, m, -, hx0, -, hx, hi⟩ := DataW.trod_array Try.underlying78 hf
  have h0 := hi 0 (by omega); have h1 := hi 1 (by omega)
  rw [eI] at h0 h1
  simp only [Value.cells, List.drop_zero, List.drop_succ_cons, List.take_succ_cons, List.take_zero, Nat.zero_mul, Nat.one_mul] at h0 h1
  rw [List.getElem?_eq_getElem (by omega)] at h0 h1
  simp only [Prod.mk.injEq] at hx0
  have hww : ∀ (i : Nat) (hi : i < xs.length), ∀ n ∈ (xs[i]).1.weights Try.prog 57, n ≤ reachBytes := fun i hi n hn => by
    refine hw n ?_
    rw [hx0.1]
    simp only [DataW.weights, Try.underlying78]
    exact mem_all' (List.mem_map.2 ⟨_, List.getElem_mem hi, rfl⟩) hn
  obtain ⟨L, hL, l1⟩ := acs_reach h0 (hww 0 (by omega))
  obtain ⟨L2, hL2, l2⟩ := acs_reach h1 (hww 1 (by omega))
  exact ⟨x, y, L, L2, rfl, hL, hL2, by omega⟩
end M
end Go.Proofs.Ytjbllcakaljpgaa
