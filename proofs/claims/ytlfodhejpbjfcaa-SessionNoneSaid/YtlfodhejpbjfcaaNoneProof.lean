/- SessionNone returns true for every input, and leaves what lay as it lay. No condition. -/
import Derived.Test.YtlfodhejpbjfcaaRows
import Derived.Test.YtlfodhejpbjfcaaNone
import Derived.Test.YtlfodhejpbjfcaaLeaving
import Derived.Test.YtlfodhejpbjfcaaPost
import Derived.OpenShut
import Derived.ChangeMaps5
import Derived.Carry
namespace Go.Proofs.Ytlfodhejpbjfcaa.sessionNone
open Go.ChangeShapes Go.WideShapes Go.ChangeAt Go.RowKit Go.OpenShut Go.ChangeMaps

theorem own : ownKnob Try.prog.godebug = none := by kernel_rfl
theorem laidOut : laidOutB Try.prog = true := by kernel_rfl

set_option maxRecDepth 100000 in
theorem lifted (os : Os) (started : os.Started) (H : Type) (enc : TypeId × Value → H) (F : Stop.Interp) :
    ReturnsInLeavingWide Rows.sessionNoneRow.assume Try.checked os 9 .any (Rows.sessionNoneSpec.pre6 enc Try.prog Try.f9 Rows.sessionNoneRow.domain false) ((OpenSpec.ofChange Rows.sessionNoneSpec).postWith enc Try.prog Try.f9 F (outsideKept [.timePasses]) false true false) := by
  refine leaving_of_calls (C := Try.checked) own started (by kernel_rfl) Try.func9
    (ChangeSpec.witness6c (enc := enc) (C := Try.checked) ⟨#[], #[.string ⟨#[]⟩, .int .i64 0], []⟩ 8 (by kernel_rfl) (by kernel_rfl) (by kernel_rfl) (by kernel_rfl)) ?_
  intro W base args ds gs before hval0 hW _ _
  have hval : ∀ (j : Nat) t v, Try.f9.params[j]? = some t → args[j]? = some v → Value.okWide Try.prog W .any base t v := hval0
  have hW' := hW
  obtain ⟨p, q, hA0, hV, rfl, -, -⟩ := hW
  have hA : DataW.TrodAll enc Try.prog W 0 (fun _ => true) true Try.f9.params.toList args.toList ds p := hA0
  rw [Try.params9] at hA hval
  obtain ⟨v0, v1, d0, d1, p0, p1, rfl, rfl, rfl, h0, h1⟩ := trodAll_two hA
  obtain ⟨rfl, rfl⟩ := trodVars_none hV
  obtain ⟨s, rfl, rfl, rfl, hs⟩ := open_string Try.underlying9 (hval 0 9 v0 rfl rfl) h0
  obtain ⟨k, rfl, rfl, rfl, wk⟩ := open_int Try.underlying3 (hval 1 3 v1 rfl rfl) h1
  clear hA0 hval0
  simp only [List.append_nil] at hW'
  refine (S.none_any W s k).mono fun e W' ⟨he, hg⟩ => ?_
  subst he
  exact ⟨_, rfl, post_below (pa := []) (pv := []) hW' (fun _ _ _ => trodAll_cons_mk (shut_bool Try.underlying4 _) trodAll_mk0) (trodAll_cons_mk (shut_string Try.underlying9 hs) (trodAll_cons_mk (shut_int Try.underlying3 wk) trodAll_mk0)) rfl rfl hg, hg.os⟩

theorem proved : Rows.SessionNoneSaid :=
  OpenClaim.holds_of_wide_leaving_time 9 Try.f9 rfl rfl rfl rfl rfl rfl rfl ⟨rfl, rfl, rfl, rfl, rfl⟩ rfl rfl rfl rfl rfl (by kernel_rfl) Try.func9 (by kernel_rfl)
    (of_decide_eq_true (by kernel_rfl)) (by unfold Func.isWrapper; first | (rw [if_pos (by decide +kernel)]; kernel_rfl) | (rw [if_neg (by decide +kernel)]; exact ⟨rfl, rfl⟩))
    (fun os started H enc _ F => lifted os started H enc F)
#print axioms proved
end Go.Proofs.Ytlfodhejpbjfcaa.sessionNone
