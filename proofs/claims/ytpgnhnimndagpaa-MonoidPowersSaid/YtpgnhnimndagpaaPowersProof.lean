/- MonoidPowers returns true for every input, and leaves what lay as it lay. No condition. -/
import Derived.Test.YtpgnhnimndagpaaRows
import Derived.Test.YtpgnhnimndagpaaPowers
import Derived.Test.YtpgnhnimndagpaaPost
import Derived.OpenShut
import Derived.ChangeMaps5
import Derived.Lib.SmallJoins
namespace Go.Proofs.Ytpgnhnimndagpaa.monoidPowers
open Go.ChangeShapes Go.WideShapes Go.ChangeAt Go.RowKit Go.OpenShut Go.ChangeMaps Go.Joins

theorem own : ownKnob Try.prog.godebug = none := by kernel_rfl
theorem cellsAff : Try.prog.cellsOf 25 = 2 := by kernel_rfl

set_option maxRecDepth 100000 in
theorem lifted (os : Os) (started : os.Started) (H : Type) (enc : TypeId × Value → H) :
    ReturnsInHanded {} Try.checked os 3 .any (Rows.monoidPowersSpec.pre6 enc Try.prog Try.f3 Rows.monoidPowersRow.domain false) (Rows.monoidPowersSpec.post enc Try.prog Try.f3 false true false false) := by
  refine returnsInHanded_of_change (C := Try.checked) own started (by kernel_rfl) Try.func3
    (ChangeSpec.witness6 (enc := enc) (C := Try.checked) false ⟨#[], #[.string ⟨#[]⟩, .int .i8 0, .agg #[.int .u64 0, .int .u64 0], .int .u32 0, .int .u32 0], []⟩ 8 (by kernel_rfl) (by kernel_rfl) (by kernel_rfl) (by kernel_rfl)) ?_
  intro W base args ds gs before hval0 hW _ _
  have hval : ∀ (j : Nat) t v, Try.f3.params[j]? = some t → args[j]? = some v → Value.okWide Try.prog W .any base t v := hval0
  have hW' := hW
  obtain ⟨p, q, hA0, hV, rfl, -, -⟩ := hW
  have hA : DataW.TrodAll enc Try.prog W 0 (fun _ => true) true Try.f3.params.toList args.toList ds p := hA0
  rw [Try.params3] at hA hval
  obtain ⟨v0, vs0, d0, ds0, p0, q0, hv0, rfl, rfl, h0, hA⟩ := trodAll_cons hA
  obtain ⟨v1, vs1, d1, ds1, p1, q1, rfl, rfl, rfl, h1, hA⟩ := trodAll_cons hA
  obtain ⟨v2, vs2, d2, ds2, p2, q2, rfl, rfl, rfl, h2, hA⟩ := trodAll_cons hA
  obtain ⟨v3, vs3, d3, ds3, p3, q3, rfl, rfl, rfl, h3, hA⟩ := trodAll_cons hA
  obtain ⟨v4, vs4, d4, ds4, p4, q4, rfl, rfl, rfl, h4, hA⟩ := trodAll_cons hA
  obtain ⟨rfl, rfl, rfl⟩ := trodAll_nil hA
  obtain rfl : args = #[v0, v1, v2, v3, v4] := by cases args; simp_all
  obtain ⟨rfl, rfl⟩ := trodVars_none hV
  obtain ⟨s, rfl, rfl, rfl, ws⟩ := open_string Try.underlying9 (hval 0 9 v0 rfl rfl) h0
  obtain ⟨k, rfl, rfl, rfl, wk⟩ := open_int Try.underlying22 (hval 1 22 v1 rfl rfl) h1
  obtain ⟨c0, c1, y0, y1, m, rfl, rfl, rfl, hy0, hy1⟩ := open_agg2 Try.underlying25 (by kernel_rfl) cellsAff (hval 2 25 v2 rfl rfl) h2
  obtain ⟨a, e0, rfl, wa⟩ := DataW.trod_int Try.underlying23 hy0
  obtain ⟨b, e1, rfl, wb⟩ := DataW.trod_int Try.underlying23 hy1
  simp at e0 e1
  subst e0 e1
  obtain ⟨i, rfl, rfl, rfl, wi⟩ := open_int Try.underlying26 (hval 3 26 v3 rfl rfl) h3
  obtain ⟨j, rfl, rfl, rfl, wj⟩ := open_int Try.underlying26 (hval 4 26 v4 rfl rfl) h4
  clear hA0 hval0
  simp only [List.append_nil] at hW'
  have shut : ∀ (W' : World) (sp : Nat → Bool), DataW.Trod enc Try.prog W' 0 sp true 25 (.agg #[.int .u64 a, .int .u64 b]) (.agg [.lit (.int .u64 a), .lit (.int .u64 b)]) [] := fun W' sp =>
    shut_agg2 (y0 := (.lit (.int .u64 a), [])) (y1 := (.lit (.int .u64 b), [])) Try.underlying25 (by kernel_rfl) cellsAff ⟨1, by simp [DataW.trod, Try.underlying23, wa]⟩ ⟨1, by simp [DataW.trod, Try.underlying23, wb]⟩
  have bk := bounds_i8 wk; have ba := bounds_u64 wa; have bb := bounds_u64 wb; have bi := bounds_u32 wi; have bj := bounds_u32 wj
  refine (P.powers_any W s k (a, b) i j ws ⟨by omega, by omega⟩ ⟨by show 0 ≤ a; omega, by show a < _; omega, by show 0 ≤ b; omega, by show b < _; omega⟩ ⟨by omega, by omega⟩ ⟨by omega, by omega⟩).mono fun e W' ⟨he, hg⟩ => ?_
  subst he
  exact ⟨_, rfl, post_below (pa := []) (pv := []) hW' (fun _ _ _ => trodAll_cons_mk (shut_bool Try.underlying4 _) trodAll_mk0)
    (trodAll_cons_mk (shut_string Try.underlying9 ws) (trodAll_cons_mk (shut_int Try.underlying22 wk) (trodAll_cons_mk (shut _ _) (trodAll_cons_mk (shut_int Try.underlying26 wi) (trodAll_cons_mk (shut_int Try.underlying26 wj) trodAll_mk0))))) rfl (by simp) hg⟩

theorem proved : Rows.MonoidPowersSaid :=
  OpenClaim.holds_of_wide 3 Try.f3 rfl rfl rfl rfl rfl rfl rfl ⟨rfl, rfl, rfl, rfl, rfl⟩ rfl rfl rfl rfl rfl (by kernel_rfl) Try.func3 (by kernel_rfl)
    (of_decide_eq_true (by kernel_rfl)) (by unfold Func.isWrapper; first | (rw [if_pos (by decide +kernel)]; kernel_rfl) | (rw [if_neg (by decide +kernel)]; exact ⟨rfl, rfl⟩))
    (fun os started H enc _ => lifted os started H enc)
#print axioms proved
end Go.Proofs.Ytpgnhnimndagpaa.monoidPowers
