/- The specification's Lengths. -/
import Derived.Test.YtpjcfepngjpfbaaR11
import Derived.Test.YtpjcfepngjpfbaaTable
set_option linter.unusedVariables false
set_option linter.unusedSimpArgs false
namespace Go.Proofs.Ytpjcfepngjpfbaa
open Go.RowKit Go.Lib
namespace M
def gR (r : RuI) : Ru := ⟨r.kind.toNat, r.letter, r.left.toNat, r.right.toNat, r.times.toNat⟩
attribute [local go_sem] Oper.semAt_some
/-- The texts of a grammar's rules. -/
def gT (L : List RuI) : List (List Nat) := L.foldl (fun T r => T ++ [txOf T (gR r)]) []
theorem gT_snoc (L : List RuI) (r : RuI) : gT (L ++ [r]) = gT L ++ [txOf (gT L) (gR r)] := by unfold gT; rw [List.foldl_append]; rfl
theorem gT_len : ∀ (L : List RuI), (gT L).length = L.length := by
  intro L
  rcases List.eq_nil_or_concat L with rfl | ⟨L', r, rfl⟩
  · rfl
  · rw [List.concat_eq_append, gT_snoc, List.length_append, List.length_append, gT_len L']; rfl
termination_by L => L.length
decreasing_by simp_all
theorem tx_get {T : List (List Nat)} {l : Nat} (h1 : 1 ≤ l) (h2 : l ≤ T.length) : tx T l = T[l - 1]'(by omega) := by
  unfold tx
  rw [if_neg (by omega), List.getElem?_eq_getElem (by omega)]; rfl
theorem len_pos {L : List RuI} (hok : OkL L) : ∀ t ∈ gT L, 0 < t.length := by
  rcases List.eq_nil_or_concat L with rfl | ⟨L', r, rfl⟩
  · intro t ht; cases ht
  · rw [List.concat_eq_append] at hok ⊢
    have ih := len_pos (L := L') (fun i h => by
      have := hok i (by simp; omega)
      rwa [List.getElem_append_left h] at this)
    intro t ht
    rw [gT_snoc] at ht
    rcases List.mem_append.1 ht with ht | ht
    · exact ih t ht
    · rw [List.mem_singleton.1 ht]
      have hr := hok L'.length (by simp)
      rw [List.getElem_append_right (Nat.le_refl _)] at hr
      simp only [Nat.sub_self, List.getElem_cons_zero] at hr
      have hl := gT_len L'
      have tp : ∀ l : Int, 1 ≤ l → l < ((L'.length + 1 : Nat) : Int) → 0 < (tx (gT L') l.toNat).length := fun l h1 h2 => by
        rw [tx_get (by omega) (by omega)]
        exact ih _ (List.getElem_mem _)
      rcases hr with ⟨k, -⟩ | ⟨k, -, -, ⟨a, b⟩, -⟩ | ⟨k, -, -, c, ⟨a, b⟩⟩
      · have : txOf (gT L') (gR r) = [r.letter] := by unfold txOf gR; rw [if_pos (by simp [k])]
        rw [this]; simp
      · have : txOf (gT L') (gR r) = tx (gT L') r.left.toNat ++ tx (gT L') r.right.toNat := by unfold txOf gR; rw [if_neg (by simp [k]), if_pos (by simp [k])]
        rw [this, List.length_append]
        have := tp r.left a b; omega
      · have : txOf (gT L') (gR r) = rep r.times.toNat (tx (gT L') r.left.toNat) := by unfold txOf gR; rw [if_neg (by simp [k]), if_neg (by simp [k])]
        rw [this, rep_length]
        exact Nat.mul_pos (by omega) (tp r.left a b)
termination_by L.length
decreasing_by simp_all
set_option maxRecDepth 100000 in
theorem valid11_any (W : World) {a : Nat} (ha : a ≤ 1152921504606846976) : Calls Try.prog 88 #[.int .i64 a] W fun e w' => e = .returned (.bool true) ∧ w' = W := by
  have h1 : (0 : Int) ≤ (a : Int) := by omega
  have h2 : decide ((a : Int) ≤ 1152921504606846976) = true := decide_eq_true (by omega)
  have h3 : decide (a ≤ 1152921504606846976) = true := decide_eq_true ha
  go_enter Try.func88, Try.ntmps88
  go_wp2_with fail
  go_ret
  exact ⟨rfl, rfl⟩
set_option maxRecDepth 100000 in
theorem add11_any (W : World) {a b : Nat} (ha : a ≤ 1152921504606846976) (hb : b ≤ 1152921504606846976) : Calls Try.prog 64 #[.int .i64 a, .int .i64 b] W fun e w' => ∃ n c : Nat, e = .returned (.tuple #[.int .i64 n, .int .i64 c]) ∧ ((a + b ≤ 1152921504606846976 ∧ n = a + b ∧ c = 0) ∨ c ≠ 0) ∧ w' = W := by
  have HA := Lib.hid (valid11_any W ha); have HB := Lib.hid (valid11_any W hb)
  have hw : IntKind.i64.wrap ((a : Int) + (b : Int)) = ((a + b : Nat) : Int) := by rw [IntKind.wrap_i64]; omega
  obtain ⟨s, hs⟩ : ∃ s, a + b = s := ⟨_, rfl⟩
  rw [hs] at hw ⊢
  by_cases h : s ≤ 1152921504606846976
  · have d1 : decide ((1152921504606846976 : Int) < (s : Int)) = false := decide_eq_false (by omega)
    have HH := Lib.hid h
    clear ha hb hs h
    go_enter Try.func64, Try.ntmps64
    go_wp2_with fail
    refine HA.out.mono ?_; rintro e w ⟨rfl, h⟩; rw [h]; clear h w
    go_wp2_with fail
    refine HB.out.mono ?_; rintro e w ⟨rfl, h⟩; rw [h]; clear h w
    go_wp2_with fail
    go_ret2
    exact ⟨s, 0, rfl, .inl ⟨HH.out, rfl, rfl⟩, rfl⟩
  · have d1 : decide ((1152921504606846976 : Int) < (s : Int)) = true := decide_eq_true (by omega)
    clear ha hb hs h
    go_enter Try.func64, Try.ntmps64
    go_wp2_with fail
    refine HA.out.mono ?_; rintro e w ⟨rfl, h⟩; rw [h]; clear h w
    go_wp2_with fail
    refine HB.out.mono ?_; rintro e w ⟨rfl, h⟩; rw [h]; clear h w
    go_wp2_with fail
    go_ret2
    exact ⟨0, 2, rfl, .inr (by decide), rfl⟩
set_option maxRecDepth 100000 in
theorem mul11_any (W : World) {a k : Nat} (ha1 : 1 ≤ a) (ha : a ≤ 1152921504606846976) (hk : k ≤ 9223372036854775807) : Calls Try.prog 65 #[.int .i64 a, .int .i64 k] W fun e w' => ∃ n c : Nat, e = .returned (.tuple #[.int .i64 n, .int .i64 c]) ∧ ((k * a ≤ 1152921504606846976 ∧ n = k * a ∧ c = 0) ∨ c ≠ 0) ∧ w' = W := by
  have HA := Lib.hid (valid11_any W ha)
  have k0 : ¬ (k : Int) < 0 := by omega
  have a0 : (0 : Int) < (a : Int) := by omega
  have a1 : ¬ (a : Int) = 0 := by omega
  have a2 : ¬ a = 0 := by omega
  have hq : Int.tdiv 1152921504606846976 (a : Int) = ((1152921504606846976 / a : Nat) : Int) := rfl
  have hle : (k ≤ 1152921504606846976 / a) ↔ k * a ≤ 1152921504606846976 := Nat.le_div_iff_mul_le ha1
  obtain ⟨q, hqq⟩ : ∃ q, 1152921504606846976 / a = q := ⟨_, rfl⟩
  have hql : q ≤ 1152921504606846976 := by rw [← hqq]; exact Nat.div_le_self _ _
  rw [hqq] at hq hle
  have hqw : IntKind.i64.wrap (q : Int) = (q : Int) := by rw [IntKind.wrap_i64]; omega
  by_cases h : k ≤ q
  · have d1 : ¬ (q : Int) < (k : Int) := by omega
    have d2 : decide ((q : Int) < (k : Int)) = false := decide_eq_false d1
    have hm := hle.1 h
    have hc : (a : Int) * (k : Int) = ((k * a : Nat) : Int) := by rw [Nat.mul_comm]; exact_mod_cast rfl
    have hw : IntKind.i64.wrap ((a : Int) * (k : Int)) = ((k * a : Nat) : Int) := by rw [hc, IntKind.wrap_i64]; omega
    obtain ⟨s, hs⟩ : ∃ s, k * a = s := ⟨_, rfl⟩
    rw [hs] at hw hm ⊢
    have HH := Lib.hid hm
    clear hc hs hm h hle hqq ha1 ha hk hql
    go_enter Try.func65, Try.ntmps65
    go_wp2_with fail
    refine HA.out.mono ?_; rintro e w ⟨rfl, h⟩; rw [h]; clear h w
    go_wp2_with fail
    go_ret2
    exact ⟨s, 0, rfl, .inl ⟨HH.out, rfl, rfl⟩, rfl⟩
  · have d1 : (q : Int) < (k : Int) := by omega
    have d2 : decide ((q : Int) < (k : Int)) = true := decide_eq_true d1
    clear h hle hqq ha1 ha hk hql
    go_enter Try.func65, Try.ntmps65
    go_wp2_with fail
    refine HA.out.mono ?_; rintro e w ⟨rfl, h⟩; rw [h]; clear h w
    go_wp2_with fail
    go_ret2
    exact ⟨0, 2, rfl, .inr (by decide), rfl⟩
end M
end Go.Proofs.Ytpjcfepngjpfbaa
