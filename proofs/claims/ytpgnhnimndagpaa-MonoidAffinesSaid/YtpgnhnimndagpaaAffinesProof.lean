/- MonoidAffines returns true for every input, and leaves what lay as it lay. No condition. -/
import Derived.Test.YtpgnhnimndagpaaRows
import Derived.Test.YtpgnhnimndagpaaAffines
import Derived.Test.YtpgnhnimndagpaaPost
import Derived.Deep.Slices
import Derived.OpenShut
import Derived.ChangeMaps5
import Derived.Lib.SmallJoins
import Derived.Carry
namespace Go.Proofs.Ytpgnhnimndagpaa.monoidAffines
open Go.ChangeShapes Go.WideShapes Go.ChangeAt Go.RowKit Go.OpenShut Go.ChangeMaps Go.Joins Go.Deep

theorem own : ownKnob Try.prog.godebug = none := by kernel_rfl
theorem laidOut : laidOutB Try.prog = true := by kernel_rfl
theorem cellsAff : Try.prog.cellsOf 25 = 2 := by kernel_rfl
theorem aff_struct : ∃ f0 f1 : Field, Try.prog.underlying 25 = some (.struct #[f0, f1]) ∧ (f0.type = 23 ∧ f0.offset = 0) ∧ (f1.type = 23 ∧ f1.offset = 1) := ⟨_, _, Try.underlying25, ⟨rfl, rfl⟩, ⟨rfl, rfl⟩⟩
theorem cells2 {l : List Value} (h : l.length = 2) : ∃ a b, l = [a, b] := by
  match l, h with
  | [a, b], _ => exact ⟨a, b, rfl⟩
theorem add_succ' (b : Addr) (j : Nat) : b.add (j + 1) = ⟨b.block, b.off + (j + 1), none⟩ := by unfold Addr.add; simp

theorem aff_open {H : Type} {enc : TypeId × Value → H} {W : World} {base : Nat} {sp : Nat → Bool} {hd : Bool} {n : Nat} {cs : List Value} {x : DataW H × List MemPlace} (h : DataW.trod enc Try.prog W base sp hd n 25 cs = some x) (hl : cs.length = 2) :
    ∃ a : Int × Int, cs = [.int .u64 a.1, .int .u64 a.2] := by
  obtain ⟨f0, f1, hs, ⟨t0, o0⟩, ⟨t1, o1⟩⟩ := aff_struct
  obtain ⟨a, b, rfl⟩ := cells2 hl
  obtain ⟨xs, m, -, -, -, hx, hf⟩ := DataW.trod_struct hs h
  have hx2 : xs.length = 2 := hx
  have h0 := hf 0 f0 rfl; have h1 := hf 1 f1 rfl
  have eU : Try.prog.cellsOf 23 = 1 := by kernel_rfl
  rw [t0, o0, eU] at h0; rw [t1, o1, eU] at h1
  simp only [List.drop_zero, List.drop_succ_cons, List.take_succ_cons, List.take_zero] at h0 h1
  rw [List.getElem?_eq_getElem (by omega)] at h0 h1
  obtain ⟨y, g0, -, -⟩ := DataW.trod_int Try.underlying23 h0
  obtain ⟨z, g1, -, -⟩ := DataW.trod_int Try.underlying23 h1
  simp only [List.cons.injEq, and_true] at g0 g1
  subst g0 g1
  exact ⟨(y, z), rfl⟩

theorem affs_open {H : Type} {enc : TypeId × Value → H} {W : World} {base : Nat} {sp : Nat → Bool} {hd : Bool} {a0 : Option Addr} {len cap : Nat} {d : DataW H} {p : List MemPlace} (h : DataW.Trod enc Try.prog W base sp hd 55 (.slice a0 len cap) d p) :
    ∃ L, RowAt2 .u64 W (.slice a0 len cap) L := by
  obtain ⟨fuel, hf⟩ := h
  rcases open_slice Try.underlying55 hf with ⟨e, -⟩ | ⟨a, len', cap', m, n, D, Pl, e, -, hl, hm, hmm, -, hi⟩
  · simp [Value.cells] at e
    obtain ⟨rfl, rfl, rfl⟩ := e
    exact ⟨[], ⟨none, 0, rfl, by simp, by unfold maxLen; omega, fun i h => by cases h⟩⟩
  · simp [Value.cells] at e
    obtain ⟨rfl, rfl, rfl⟩ := e
    have hlm : len ≤ m := by rw [hmm]; split <;> omega
    have hall : ∀ i, i < len → ∃ x : Int × Int, W.cell? (a.add (i * 2)) = some (.int .u64 x.1) ∧ W.cell? ⟨(a.add (i * 2)).block, (a.add (i * 2)).off + 1, none⟩ = some (.int .u64 x.2) := by
      intro i hil
      obtain ⟨cs, hc, ht⟩ := hi i (by omega)
      rw [cellsAff] at hc
      obtain ⟨-, hcl, hat⟩ := World.cells?_some hc
      obtain ⟨x, rfl⟩ := aff_open ht hcl
      have q0 := hat 0 (by omega); have q1 := hat 1 (by omega)
      rw [add_succ'] at q1
      have z0 : (a.add (i * 2)).add 0 = a.add (i * 2) := by unfold Addr.add; simp
      rw [z0] at q0
      exact ⟨x, q0, q1⟩
    obtain ⟨f, hf⟩ := choose_lt hall
    refine ⟨(List.range len).map f, ⟨some a, cap, by simp, by simpa using hl, hm, fun i hil => ⟨a, rfl, ?_⟩⟩⟩
    have hil' : i < len := by simpa using hil
    simp only [List.getElem_map, List.getElem_range]
    exact hf i hil'

set_option maxRecDepth 100000 in
theorem lifted (os : Os) (started : os.Started) (H : Type) (enc : TypeId × Value → H) :
    ReturnsInHanded {} Try.checked os 7 .any (Rows.monoidAffinesSpec.pre6 enc Try.prog Try.f7 Rows.monoidAffinesRow.domain false) (Rows.monoidAffinesSpec.post enc Try.prog Try.f7 false true false false) := by
  refine returnsInHanded_of_change (C := Try.checked) own started (by kernel_rfl) Try.func7
    (ChangeSpec.witness6 (enc := enc) (C := Try.checked) false ⟨#[], #[.slice none 0 0, .agg #[.int .u64 0, .int .u64 0], .agg #[.int .u64 0, .int .u64 0], .agg #[.int .u64 0, .int .u64 0], .int .u64 0], []⟩ 8 (by kernel_rfl) (by kernel_rfl) (by kernel_rfl) (by kernel_rfl)) ?_
  intro W base args ds gs before hval0 hW _ _
  have hval : ∀ (j : Nat) t v, Try.f7.params[j]? = some t → args[j]? = some v → Value.okWide Try.prog W .any base t v := hval0
  have hW' := hW
  obtain ⟨p, q, hA0, hV, rfl, -, -⟩ := hW
  have hA : DataW.TrodAll enc Try.prog W 0 (fun _ => true) true Try.f7.params.toList args.toList ds p := hA0
  rw [Try.params7] at hA hval
  obtain ⟨v0, vs0, d0, ds0, p0, q0, hv0, rfl, rfl, h0, hA⟩ := trodAll_cons hA
  obtain ⟨v1, vs1, d1, ds1, p1, q1, rfl, rfl, rfl, h1, hA⟩ := trodAll_cons hA
  obtain ⟨v2, vs2, d2, ds2, p2, q2, rfl, rfl, rfl, h2, hA⟩ := trodAll_cons hA
  obtain ⟨v3, vs3, d3, ds3, p3, q3, rfl, rfl, rfl, h3, hA⟩ := trodAll_cons hA
  obtain ⟨v4, vs4, d4, ds4, p4, q4, rfl, rfl, rfl, h4, hA⟩ := trodAll_cons hA
  obtain ⟨rfl, rfl, rfl⟩ := trodAll_nil hA
  obtain rfl : args = #[v0, v1, v2, v3, v4] := by cases args; simp_all
  obtain ⟨rfl, rfl⟩ := trodVars_none hV
  obtain ⟨a0, len, cap, rfl⟩ := okWide_slice Try.underlying55 (hval 0 55 v0 rfl rfl)
  obtain ⟨c0, c1, y0, y1, m, rfl, rfl, rfl, hy0, hy1⟩ := open_agg2 Try.underlying25 (by kernel_rfl) cellsAff (hval 1 25 v1 rfl rfl) h1
  obtain ⟨a, e0, rfl, wa⟩ := DataW.trod_int Try.underlying23 hy0
  obtain ⟨a', e1, rfl, wa'⟩ := DataW.trod_int Try.underlying23 hy1
  simp at e0 e1
  subst e0 e1
  obtain ⟨c0, c1, y0, y1, m, rfl, rfl, rfl, hy0, hy1⟩ := open_agg2 Try.underlying25 (by kernel_rfl) cellsAff (hval 2 25 v2 rfl rfl) h2
  obtain ⟨b, e0, rfl, wb⟩ := DataW.trod_int Try.underlying23 hy0
  obtain ⟨b', e1, rfl, wb'⟩ := DataW.trod_int Try.underlying23 hy1
  simp at e0 e1
  subst e0 e1
  obtain ⟨c0, c1, y0, y1, m, rfl, rfl, rfl, hy0, hy1⟩ := open_agg2 Try.underlying25 (by kernel_rfl) cellsAff (hval 3 25 v3 rfl rfl) h3
  obtain ⟨c, e0, rfl, wc⟩ := DataW.trod_int Try.underlying23 hy0
  obtain ⟨c', e1, rfl, wc'⟩ := DataW.trod_int Try.underlying23 hy1
  simp at e0 e1
  subst e0 e1
  obtain ⟨x, rfl, rfl, rfl, wx⟩ := open_int Try.underlying23 (hval 4 23 v4 rfl rfl) h4
  clear hA0 hval0
  simp only [List.append_nil, List.nil_append] at hW'
  have hlt : ∀ x ∈ p0, x.block < W.heap.size := fun x hx => by simpa using hW'.lt x hx
  obtain ⟨L, hL⟩ := affs_open h0
  have shut : ∀ (W' : World) (sp : Nat → Bool) (a b : Int), (Lit.int .u64 a).wf = true → (Lit.int .u64 b).wf = true → DataW.Trod enc Try.prog W' 0 sp true 25 (.agg #[.int .u64 a, .int .u64 b]) (.agg [.lit (.int .u64 a), .lit (.int .u64 b)]) [] := fun W' sp a b wa wb =>
    shut_agg2 (y0 := (.lit (.int .u64 a), [])) (y1 := (.lit (.int .u64 b), [])) Try.underlying25 (by kernel_rfl) cellsAff ⟨1, by simp [DataW.trod, Try.underlying23, wa]⟩ ⟨1, by simp [DataW.trod, Try.underlying23, wb]⟩
  have ba := bounds_u64 wa; have ba' := bounds_u64 wa'; have bx := bounds_u64 wx
  refine (F.affines_any hL (a, a') (b, b') (c, c') x ⟨by show 0 ≤ a; omega, by show a < _; omega, by show 0 ≤ a'; omega, by show a' < _; omega⟩ ⟨by omega, by omega⟩).mono fun e W' ⟨he, hg⟩ => ?_
  subst he
  exact ⟨_, rfl, post_below (pa := p0 ++ []) (pv := []) hW' (fun _ _ _ => trodAll_cons_mk (shut_bool Try.underlying4 _) trodAll_mk0)
    (trodAll_cons_mk (Below.trod laidOut (by kernel_rfl) (of_decide_eq_true (by kernel_rfl)) h0 hg hlt) (trodAll_cons_mk (shut _ _ _ _ wa wa') (trodAll_cons_mk (shut _ _ _ _ wb wb') (trodAll_cons_mk (shut _ _ _ _ wc wc') (trodAll_cons_mk (shut_int Try.underlying23 wx) trodAll_mk0))))) rfl (by simp) hg⟩

theorem proved : Rows.MonoidAffinesSaid :=
  OpenClaim.holds_of_wide 7 Try.f7 rfl rfl rfl rfl rfl rfl rfl ⟨rfl, rfl, rfl, rfl, rfl⟩ rfl rfl rfl rfl rfl (by kernel_rfl) Try.func7 (by kernel_rfl)
    (of_decide_eq_true (by kernel_rfl)) (by unfold Func.isWrapper; first | (rw [if_pos (by decide +kernel)]; kernel_rfl) | (rw [if_neg (by decide +kernel)]; exact ⟨rfl, rfl⟩))
    (fun os started H enc _ => lifted os started H enc)
#print axioms proved
end Go.Proofs.Ytpgnhnimndagpaa.monoidAffines
