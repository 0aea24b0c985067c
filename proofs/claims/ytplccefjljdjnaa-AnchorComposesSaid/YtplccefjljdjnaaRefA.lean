/- The reference: Valid, Range, Add, Length. -/
import Derived.Test.YtplccefjljdjnaaMade2
set_option linter.unusedVariables false
set_option linter.unusedSimpArgs false
namespace Go.Proofs.Ytplccefjljdjnaa
open Go.RowKit Go.Lib
namespace M
attribute [local go_sem] Oper.semAt_some
set_option maxRecDepth 100000 in
theorem valid01_any (W : World) (n : Int) : Calls Try.prog 19 #[.int .i64 n] W fun e w' => e = .returned (.bool (decide (0 ≤ n ∧ n ≤ 1152921504606846976))) ∧ w' = W := by
  by_cases h1 : 0 ≤ n
  · by_cases h2 : n ≤ 1152921504606846976
    · rw [decide_eq_true ⟨h1, h2⟩]
      go_enter Try.func19, Try.ntmps19
      go_wp2_with fail
      go_ret
      exact ⟨rfl, rfl⟩
    · rw [decide_eq_false (fun h => h2 h.2)]
      go_enter Try.func19, Try.ntmps19
      go_wp2_with fail
      go_ret
      exact ⟨rfl, rfl⟩
  · rw [decide_eq_false (fun h => h1 h.1)]
    go_enter Try.func19, Try.ntmps19
    go_wp2_with fail
    go_ret
    exact ⟨rfl, rfl⟩
set_option maxRecDepth 100000 in
set_option maxHeartbeats 1000000 in
theorem range01_any (W : World) (f n l : Int) : Calls Try.prog 23 #[.int .i64 f, .int .i64 n, .int .i64 l] W fun e w' => e = .returned (.bool (rngB f n l)) ∧ w' = W := by
  have HV := Lib.hid (valid01_any W l)
  obtain ⟨res, hres⟩ : ∃ r, rngB f n l = r := ⟨_, rfl⟩
  rw [hres]
  have hno : ¬ (0 ≤ l ∧ l ≤ 1152921504606846976 ∧ 0 ≤ f ∧ 0 ≤ n ∧ f ≤ l ∧ n ≤ l - f) → res = false := fun h => by
    cases hr : res with
    | false => rfl
    | true =>
      rw [hr] at hres
      have h2 := rngB_iff.1 hres
      unfold maxL at h2
      exact absurd h2 h
  have hyes : (0 ≤ l ∧ l ≤ 1152921504606846976 ∧ 0 ≤ f ∧ 0 ≤ n ∧ f ≤ l ∧ n ≤ l - f) → res = true := fun h => by
    rw [← hres]; exact rngB_iff.2 (by unfold maxL; exact h)
  clear hres
  by_cases h0 : 0 ≤ l ∧ l ≤ 1152921504606846976
  · rw [decide_eq_true h0] at HV
    by_cases h1 : f ≥ 0
    · by_cases h2 : n ≥ 0
      · by_cases h3 : f ≤ l
        · have hw : IntKind.i64.wrap (l - f) = l - f := by rw [IntKind.wrap_i64]; omega
          by_cases h4 : n ≤ l - f
          · obtain rfl := hyes ⟨h0.1, h0.2, h1, h2, h3, h4⟩
            have h1' : 0 ≤ f := h1
            have h2' : 0 ≤ n := h2
            clear hno hyes
            go_enter Try.func23, Try.ntmps23
            go_wp2_with fail
            refine HV.out.mono ?_; rintro e w ⟨rfl, h⟩; rw [h]; clear h w
            go_wp2_with fail
            go_ret
            exact ⟨rfl, rfl⟩
          · obtain rfl := hno (by omega)
            have h1' : 0 ≤ f := h1
            have h2' : 0 ≤ n := h2
            have h4' : decide (n ≤ l - f) = false := decide_eq_false h4
            clear hno hyes
            go_enter Try.func23, Try.ntmps23
            go_wp2_with fail
            refine HV.out.mono ?_; rintro e w ⟨rfl, h⟩; rw [h]; clear h w
            go_wp2_with fail
            go_ret
            exact ⟨rfl, rfl⟩
        · obtain rfl := hno (by omega)
          have h1' : 0 ≤ f := h1
          have h2' : 0 ≤ n := h2
          clear hno hyes
          go_enter Try.func23, Try.ntmps23
          go_wp2_with fail
          refine HV.out.mono ?_; rintro e w ⟨rfl, h⟩; rw [h]; clear h w
          go_wp2_with fail
          go_ret
          exact ⟨rfl, rfl⟩
      · obtain rfl := hno (by omega)
        have h1' : 0 ≤ f := h1
        have h2' : ¬ 0 ≤ n := h2
        clear hno hyes
        go_enter Try.func23, Try.ntmps23
        go_wp2_with fail
        refine HV.out.mono ?_; rintro e w ⟨rfl, h⟩; rw [h]; clear h w
        go_wp2_with fail
        go_ret
        exact ⟨rfl, rfl⟩
    · obtain rfl := hno (by omega)
      have h1' : ¬ 0 ≤ f := h1
      clear hno hyes
      go_enter Try.func23, Try.ntmps23
      go_wp2_with fail
      refine HV.out.mono ?_; rintro e w ⟨rfl, h⟩; rw [h]; clear h w
      go_wp2_with fail
      go_ret
      exact ⟨rfl, rfl⟩
  · rw [decide_eq_false h0] at HV
    obtain rfl := hno (by omega)
    clear hno hyes
    go_enter Try.func23, Try.ntmps23
    go_wp2_with fail
    refine HV.out.mono ?_; rintro e w ⟨rfl, h⟩; rw [h]; clear h w
    go_wp2_with fail
    go_ret
    exact ⟨rfl, rfl⟩
set_option maxRecDepth 100000 in
set_option maxHeartbeats 1000000 in
theorem add01_any (W : World) {a b : Int} (ha : 0 ≤ a ∧ a ≤ 1152921504606846976) (hb : 0 ≤ b ∧ b ≤ 1152921504606846976) : Calls Try.prog 43 #[.int .i64 a, .int .i64 b] W fun e w' => e = .returned (if a + b ≤ 1152921504606846976 then .tuple #[.int .i64 (a + b), .int .i64 0] else .tuple #[.int .i64 0, .int .i64 2]) ∧ w' = W := by
  have HV1 := Lib.hid (valid01_any W a); have HV2 := Lib.hid (valid01_any W b)
  rw [decide_eq_true ha] at HV1
  rw [decide_eq_true hb] at HV2
  have hw : IntKind.i64.wrap (a + b) = a + b := by rw [IntKind.wrap_i64]; omega
  by_cases h : a + b ≤ 1152921504606846976
  · have h' : ¬ a + b > 1152921504606846976 := by omega
    rw [if_pos h]
    clear ha hb h
    go_enter Try.func43, Try.ntmps43
    go_wp2_with fail
    refine HV1.out.mono ?_; rintro e w ⟨rfl, h⟩; rw [h]; clear h w
    go_wp2_with fail
    refine HV2.out.mono ?_; rintro e w ⟨rfl, h⟩; rw [h]; clear h w
    go_wp2_with fail
    go_ret2
    exact ⟨rfl, rfl⟩
  · have h' : a + b > 1152921504606846976 := by omega
    rw [if_neg h]
    clear ha hb h
    go_enter Try.func43, Try.ntmps43
    go_wp2_with fail
    refine HV1.out.mono ?_; rintro e w ⟨rfl, h⟩; rw [h]; clear h w
    go_wp2_with fail
    refine HV2.out.mono ?_; rintro e w ⟨rfl, h⟩; rw [h]; clear h w
    go_wp2_with fail
    go_ret2
    exact ⟨rfl, rfl⟩
theorem Rcs.at {B : Nat} {W : World} {E : List En} {v : Value} {L : List Chg} (h : Rcs B W v (L.map (rcOf E))) {i : Nat} (hi : i < L.length) :
    ∃ g cap, v = .slice (some ⟨g, 0, none⟩) L.length cap ∧ L.length ≤ cap ∧ cap ≤ maxLen ∧ ∀ (W' : World), Below W.heap.size W W' → ∀ i (hi : i < L.length), W'.cell? ⟨g, i * 3, none⟩ = some (.int .i64 L[i].pos) ∧ W'.cell? ⟨g, i * 3 + 1, none⟩ = some (.int .i64 L[i].n) ∧ W'.cell? ⟨g, i * 3 + 2, none⟩ = some (.int .i64 (txt E L[i].id).length) := by
  rcases h.shape with ⟨-, h⟩ | ⟨g, cap, rfl, h1, h2⟩
  · rw [List.map_eq_nil_iff] at h; subst h; simp at hi
  · rw [List.length_map] at h h1 ⊢
    refine ⟨g, cap, rfl, h1, h2, fun W' hb i hi => ?_⟩
    have h' := h.below hb
    have c := fun (j : Nat) (hj : j < 3) => SlA.cell encRc_len h' (i := i) (by simpa using hi) (j := j) hj
    simp only [List.getElem_map] at c
    exact ⟨c 0 (by omega), c 1 (by omega), c 2 (by omega)⟩
end M
end Go.Proofs.Ytplccefjljdjnaa
