/- MonoidMaps returns true for every input, and leaves what lay as it lay. No condition. -/
import Derived.Test.YtpgnhnimndagpaaRows
import Derived.Test.YtpgnhnimndagpaaMaps
import Derived.Test.YtpgnhnimndagpaaOpen
import Derived.Test.YtpgnhnimndagpaaPost
import Derived.SizedLaws
import Derived.Deep.Matrix
import Derived.Carry
namespace Go.Proofs.Ytpgnhnimndagpaa.monoidMaps
open Go.ChangeShapes Go.WideShapes Go.ChangeAt Go.RowKit Go.OpenShut Go.ChangeMaps Go.Deep

theorem own : ownKnob Try.prog.godebug = none := by kernel_rfl
theorem laidOut : laidOutB Try.prog = true := by kernel_rfl
theorem bytes3 : Try.prog.bytesOf 3 = 8 := by kernel_rfl

theorem mem_all {H : Type} {P : Program} {e : TypeId} : ∀ {l : List (DataW H)} {d : DataW H} {n : Nat}, d ∈ l → n ∈ d.weights P e → n ∈ DataW.weightsAll P e l
  | d0 :: l, d, n, hd, hn => by
    simp only [DataW.weightsAll, List.mem_append]
    rcases List.mem_cons.1 hd with rfl | hd
    · exact .inl hn
    · exact .inr (mem_all hd hn)
  | [], _, _, hd, _ => by cases hd

theorem rows2_open {H : Type} {enc : TypeId × Value → H} {W : World} {base : Nat} {hd : Bool} {a0 : Option Addr} {len cap : Nat} {d : DataW H} {p : List MemPlace} (h : DataW.Trod enc Try.prog W base (fun _ => true) hd 59 (.slice a0 len cap) d p) (hw : ∀ n ∈ d.weights Try.prog 59, n ≤ reachBytes) :
    ∃ Ls, RowsAt W (.slice a0 len cap) Ls ∧ ∀ f ∈ Ls, f.length * 8 ≤ 140737488351232 := by
  obtain ⟨fuel, hf⟩ := h
  rcases open_int_rows Try.underlying59 Try.underlying40 Try.underlying3 (by kernel_rfl) (by kernel_rfl) hf with ⟨e, -⟩ | ⟨a, len', cap', A, L, C, Z, e, -, hl, hm, hx, hi⟩
  · simp [Value.cells] at e
    obtain ⟨rfl, rfl, rfl⟩ := e
    exact ⟨[], RowsAt.nil W, fun f h => by cases h⟩
  · simp [Value.cells] at e
    obtain ⟨rfl, rfl, rfl⟩ := e
    refine ⟨(List.range len).map fun r => (Z r).take (L r), ⟨(List.range len).map fun r => .slice (A r) (L r) (C r), ⟨some a, cap, by simp, by simpa using hl, hm, fun i hi' => ⟨a, rfl, ?_⟩⟩, by simp, fun i h1 h2 => ?_⟩, fun f hf => ?_⟩
    · have h' : i < len := by simpa using hi'
      simp only [List.getElem_map, List.getElem_range]
      exact (hi i (by omega)).1
    · have h' : i < len := by simpa using h1
      simp only [List.getElem_map, List.getElem_range]
      obtain ⟨-, h3, h4, h5, -, h6, h7⟩ := hi i (by omega)
      refine ⟨⟨A i, C i, by rw [List.length_take, h5, Nat.min_eq_left h3], by rw [List.length_take, h5, Nat.min_eq_left h3]; exact h3, h4, fun j hj => ?_⟩, fun n c hc => ?_⟩
      · have hjl : j < L i := by simp at hj; omega
        cases hA : A i with
        | none => have := h6 hA; omega
        | some a' =>
          refine ⟨a', rfl, ?_⟩
          rw [(h7 a' hA).2 j (by omega)]
          simp [List.getD_eq_getElem?_getD, List.getElem?_eq_getElem (show j < (Z i).length by omega)]
      · simp only [Value.slice.injEq] at hc
        obtain ⟨e1, -, e3⟩ := hc
        rw [← e3]; exact h6 e1
    · obtain ⟨r, hr, rfl⟩ := List.mem_map.1 hf
      have hr' : r < len := List.mem_range.1 hr
      obtain ⟨-, h3, h4, h5, -, h6, h7⟩ := hi r (by omega)
      rw [List.length_take, h5, Nat.min_eq_left h3]
      cases hA : A r with
      | none => have := h6 hA; omega
      | some a' =>
        simp only [Prod.mk.injEq] at hx
        have hmem : C r * 8 ∈ d.weights Try.prog 59 := by
          rw [hx.1]
          simp only [DataW.weights, Try.underlying59, List.mem_cons, List.mem_append]
          refine .inr (.inl (mem_all (List.mem_map.2 ⟨r, hr, rfl⟩) ?_))
          rw [hA]
          simp only [intRow, DataW.weights, Try.underlying40, bytes3]
          refine List.mem_cons.2 (.inl ?_)
          simp only [lits, List.length_map, List.length_take, List.length_drop, h5]
          omega
        have := hw _ hmem
        simp only [reachBytes] at this
        omega

set_option maxRecDepth 100000 in
theorem lifted (os : Os) (started : os.Started) (H : Type) (enc : TypeId × Value → H) :
    ReturnsInHanded {} Try.checked os 8 .any (Rows.monoidMapsSpec.pre6 enc Try.prog Try.f8 Rows.monoidMapsRow.domain false) (Rows.monoidMapsSpec.post enc Try.prog Try.f8 false true false false) := by
  refine returnsInHanded_of_change_sized (C := Try.checked) own started (by kernel_rfl) Try.func8
    (ChangeSpec.witness6 (enc := enc) (C := Try.checked) false ⟨#[], #[.slice none 0 0, .int .i64 0], []⟩ 8 (by kernel_rfl) (by kernel_rfl) (by kernel_rfl) (by kernel_rfl)) ?_
  intro W base args ds gs before hval0 hW _ hsz0 _
  have hsz : (DataW.weightsEach Try.prog (Try.f8.params.toList ++ Rows.monoidMapsSpec.plain.varTypes Try.prog) (ds ++ gs)).all (· ≤ reachBytes) = true := hsz0
  have hval : ∀ (j : Nat) t v, Try.f8.params[j]? = some t → args[j]? = some v → Value.okWide Try.prog W .any base t v := hval0
  have hW' := hW
  obtain ⟨p, q, hA0, hV, rfl, -, -⟩ := hW
  have hA : DataW.TrodAll enc Try.prog W 0 (fun _ => true) true Try.f8.params.toList args.toList ds p := hA0
  rw [Try.params8] at hA hval hsz
  obtain ⟨v0, v1, d0, d1, p0, p1, rfl, rfl, rfl, h0, h1⟩ := trodAll_two hA
  obtain ⟨rfl, rfl⟩ := trodVars_none hV
  obtain ⟨a0, len, cap, rfl⟩ := okWide_slice Try.underlying59 (hval 0 59 v0 rfl rfl)
  obtain ⟨n, rfl, rfl, rfl, wn⟩ := open_int Try.underlying3 (hval 1 3 v1 rfl rfl) h1
  clear hA0 hval0 hsz0
  simp only [List.append_nil] at hW'
  have hlt : ∀ x ∈ p0, x.block < W.heap.size := fun x hx => by simpa using hW'.lt x hx
  have hw : ∀ k ∈ d0.weights Try.prog 59, k ≤ reachBytes := fun k hk => by
    have := List.all_eq_true.1 hsz _ (DataW.weights_mem_each (j := 0) (t := 59) rfl rfl k hk)
    simpa using this
  obtain ⟨Ls, hL, hcap⟩ := rows2_open h0 hw
  have bn := bounds_i64 wn
  refine (maps_any hL n bn.1 bn.2 hcap).mono fun e W' ⟨he, hg⟩ => ?_
  subst he
  exact ⟨_, rfl, post_below (pa := p0 ++ []) (pv := []) hW' (fun _ _ _ => trodAll_cons_mk (shut_bool Try.underlying4 _) trodAll_mk0) (trodAll_mk2 (Below.trod laidOut (by kernel_rfl) (of_decide_eq_true (by kernel_rfl)) h0 hg hlt) (shut_int Try.underlying3 wn)) rfl (by simp) hg⟩

theorem proved : Rows.MonoidMapsSaid :=
  OpenClaim.holds_of_wide 8 Try.f8 rfl rfl rfl rfl rfl rfl rfl ⟨rfl, rfl, rfl, rfl, rfl⟩ rfl rfl rfl rfl rfl (by kernel_rfl) Try.func8 (by kernel_rfl)
    (of_decide_eq_true (by kernel_rfl)) (by unfold Func.isWrapper; first | (rw [if_pos (by decide +kernel)]; kernel_rfl) | (rw [if_neg (by decide +kernel)]; exact ⟨rfl, rfl⟩))
    (fun os started H enc _ => lifted os started H enc)
#print axioms proved
end Go.Proofs.Ytpgnhnimndagpaa.monoidMaps
