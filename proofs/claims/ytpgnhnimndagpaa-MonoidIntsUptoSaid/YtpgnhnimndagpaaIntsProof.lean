/- MonoidInts returns true for every input that holds at most 1048576 values, and leaves what lay as it lay. Condition: that bound. -/
import Derived.Test.YtpgnhnimndagpaaRows
import Derived.Test.YtpgnhnimndagpaaInts
import Derived.Test.YtpgnhnimndagpaaOpen
import Derived.Test.YtpgnhnimndagpaaPost
import Derived.JoinedCond
namespace Go.Proofs.Ytpgnhnimndagpaa.monoidIntsUpto
open Go.ChangeShapes Go.WideShapes Go.ChangeAt Go.RowKit Go.OpenShut Go.ChangeMaps

theorem own : ownKnob Try.prog.godebug = none := by kernel_rfl
theorem laidOut : laidOutB Try.prog = true := by kernel_rfl

theorem bulk_slice {H : Type} (d : DataW H) (hk : Rows.uptoSmall H [d] = true) : readLen d ≤ 1048576 := by
  have h : Rows.uptoBulkAll [d] ≤ 1048576 := of_decide_eq_true hk
  have one : ∀ d : DataW H, 1 ≤ Rows.uptoBulk d := fun d => by
    cases d with
    | lit l => cases l <;> simp [Rows.uptoBulk]
    | _ => simp [Rows.uptoBulk]
  have len : ∀ l : List (DataW H), l.length ≤ Rows.uptoBulkAll l := fun l => by
    induction l with
    | nil => simp [Rows.uptoBulkAll]
    | cons x r ih => have := one x; simp only [Rows.uptoBulkAll, List.length_cons]; omega
  cases d with
  | slice el sp =>
    have h1 := len el
    simp only [Rows.uptoBulkAll, Rows.uptoBulk] at h
    show el.length ≤ _
    omega
  | _ => simp [readLen]

theorem contract (H : Type) (enc : TypeId × Value → H) (W : World) (base : Nat) (args : Array Value) (ds gs : List (DataW H)) (before : List MemPlace)
    (hval0 : ∀ (j : Nat) t v, Try.f6.params[j]? = some t → args[j]? = some v → Value.okWide Try.prog W .any base t v)
    (hW : DataW.Whole enc Try.prog Try.f6.params.toList Rows.monoidIntsSpec.vars false W args.toList ds gs before) (hk : Rows.uptoSmall H (ds ++ gs) = true) :
    Calls Try.prog 6 args W fun e W' => ∃ v, e = .returned v ∧ Rows.monoidIntsSpec.post enc Try.prog Try.f6 false true false false W args v W' := by
  have hval : ∀ (j : Nat) t v, Try.f6.params[j]? = some t → args[j]? = some v → Value.okWide Try.prog W .any base t v := hval0
  have hW' := hW
  obtain ⟨p, q, hA0, hV, rfl, -, -⟩ := hW
  have hA : DataW.TrodAll enc Try.prog W 0 (fun _ => true) true Try.f6.params.toList args.toList ds p := hA0
  rw [Try.params6] at hA hval
  obtain ⟨v0, d0, rfl, rfl, h0⟩ := trodAll_one hA
  obtain ⟨rfl, rfl⟩ := trodVars_none hV
  obtain ⟨a0, len, cap, rfl⟩ := okWide_slice Try.underlying40 (hval 0 40 v0 rfl rfl)
  clear hA0 hval0
  simp only [List.append_nil] at hW' hk
  have hlt : ∀ x ∈ p, x.block < W.heap.size := fun x hx => by simpa using hW'.lt x hx
  obtain ⟨L, hL, hok, hlen⟩ := rows_open_len (Value.int .i64) inI Try.underlying40 (by kernel_rfl) (fun n v x hx => by
    obtain ⟨z, g, -, wz⟩ := DataW.trod_int Try.underlying3 hx
    have b := bounds_i64 wz
    exact ⟨z, ⟨b.1, b.2⟩, by simpa using g⟩) h0
  refine (ints_any hL hok (Nat.le_trans hlen (bulk_slice d0 hk))).mono fun e W' ⟨he, hg⟩ => ?_
  subst he
  exact ⟨_, rfl, post_below (pa := p) (pv := []) hW' (fun _ _ _ => trodAll_cons_mk (shut_bool Try.underlying4 _) trodAll_mk0) (trodAll_mk1 (Below.trod laidOut (by kernel_rfl) (of_decide_eq_true (by kernel_rfl)) h0 hg hlt)) rfl (by simp) hg⟩

set_option maxRecDepth 100000 in
theorem lifted (os : Os) (started : os.Started) (H : Type) (enc : TypeId × Value → H) (F : Stop.Interp) :
    ReturnsInHanded {} Try.checked os 6 .any ((Rows.OpenSpec.upto Rows.monoidIntsSpec).pre6 enc Try.prog Try.f6 Rows.monoidIntsUptoRow.domain false) (((Rows.OpenSpec.upto Rows.monoidIntsSpec).at F).post enc Try.prog Try.f6 false true false false) := by
  refine returnsInHanded_of_cond (C := Try.checked) (s := Rows.OpenSpec.upto Rows.monoidIntsSpec) (k := Rows.uptoSmall) rfl own started (by kernel_rfl) Try.func6
    (OpenSpec.witness (enc := enc) (C := Try.checked) (s := Rows.OpenSpec.upto Rows.monoidIntsSpec) (k := Rows.uptoSmall) rfl false ⟨#[], #[.slice none 0 0], []⟩ 8 (by kernel_rfl) (by kernel_rfl) (by kernel_rfl)
      (x := ([.nil], [], [])) (by kernel_rfl) rfl (by kernel_rfl)) ?_
  intro W base args ds gs before hval hW _ hk _
  exact contract H enc W base args ds gs before hval hW hk

theorem proved : Rows.MonoidIntsUptoSaid :=
  OpenClaim.holds_of_cond 6 Try.f6 rfl rfl rfl rfl rfl rfl rfl ⟨rfl, rfl, rfl, rfl, rfl⟩ rfl rfl rfl rfl rfl (by kernel_rfl) Try.func6 (by kernel_rfl)
    (of_decide_eq_true (by kernel_rfl)) (by unfold Func.isWrapper; first | (rw [if_pos (by decide +kernel)]; kernel_rfl) | (rw [if_neg (by decide +kernel)]; exact ⟨rfl, rfl⟩))
    (fun os started H enc _ F => lifted os started H enc F)
#print axioms proved
end Go.Proofs.Ytpgnhnimndagpaa.monoidIntsUpto
