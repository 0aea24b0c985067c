/- What a rule of a store that fits says of its text. No walk. -/
import Derived.Test.YtplccefjljdjnaaStorePower
import Derived.Test.YtplccefjljdjnaaStoreNew
namespace Go.Proofs.Ytplccefjljdjnaa
open Go.RowKit
namespace M
attribute [local go_sem] Oper.semAt_some
set_option maxRecDepth 100000 in
set_option maxHeartbeats 1000000 in
theorem pair_any {n0 B most : Nat} {W : World} {E : List En} (h : StAt n0 W B most E) (hwf : Wf E) {l r : Nat} (hl : l ≤ E.length) (hr : r ≤ E.length) (hroom : E.length < most) (hE : E.length ≤ 1048575) :
    Calls Try.prog 75 #[.pointer (some ⟨B, 0, none⟩), .int .i64 l, .int .i64 r] W fun x w' => x = .returned (.tuple #[.int .i64 (pairF E l r).2.1, errV (pairF E l r).2.2]) ∧ StAt n0 w' B most (pairF E l r).1 ∧ Below n0 W w' ∧ Kt W w' := by
  by_cases hl0 : l = 0
  · have e : pairF E l r = (E, r, 0) := by unfold pairF; rw [if_pos hl0]
    rw [e]
    have HK1 := Lib.hid (known_any h (l : Int)); have HK2 := Lib.hid (known_any h (r : Int))
    rw [decide_eq_true (show 0 ≤ (l : Int) ∧ (l : Int) ≤ (E.length : Int) by omega)] at HK1
    rw [decide_eq_true (show 0 ≤ (r : Int) ∧ (r : Int) ≤ (E.length : Int) by omega)] at HK2
    have l0 : ((l : Int) == 0) = true := by simp [hl0]
    have H := Lib.hid h
    clear h hwf hl0 hl hr hroom hE e
    go_enter Try.func75, Try.ntmps75
    go_wp2_with fail
    refine HK1.out.mono ?_; rintro x w ⟨rfl, h⟩; rw [h]; clear h w
    go_wp2_with fail
    refine HK2.out.mono ?_; rintro x w ⟨rfl, h⟩; rw [h]; clear h w
    go_wp2_with fail
    go_ret2
    exact ⟨rfl, H.out, Below.refl _ _, Kt.of (Below.refl _ _)⟩
  · by_cases hr0 : r = 0
    · have e : pairF E l r = (E, l, 0) := by unfold pairF; rw [if_neg hl0, if_pos hr0]
      rw [e]
      have HK1 := Lib.hid (known_any h (l : Int)); have HK2 := Lib.hid (known_any h (r : Int))
      rw [decide_eq_true (show 0 ≤ (l : Int) ∧ (l : Int) ≤ (E.length : Int) by omega)] at HK1
      rw [decide_eq_true (show 0 ≤ (r : Int) ∧ (r : Int) ≤ (E.length : Int) by omega)] at HK2
      have l0 : ((l : Int) == 0) = false := by simp; omega
      have r0 : ((r : Int) == 0) = true := by simp [hr0]
      have H := Lib.hid h
      clear h hwf hl0 hl hr hroom hE e hr0
      go_enter Try.func75, Try.ntmps75
      go_wp2_with fail
      refine HK1.out.mono ?_; rintro x w ⟨rfl, h⟩; rw [h]; clear h w
      go_wp2_with fail
      refine HK2.out.mono ?_; rintro x w ⟨rfl, h⟩; rw [h]; clear h w
      go_wp2_with fail
      go_ret2
      exact ⟨rfl, H.out, Below.refl _ _, Kt.of (Below.refl _ _)⟩
    · exact pair_some h hwf (by omega) (by omega) hl hr hroom hE
set_option maxRecDepth 100000 in
set_option maxHeartbeats 1000000 in
theorem power_any {n0 B most : Nat} {W : World} {E : List En} (h : StAt n0 W B most E) (hwf : Wf E) {l k : Nat} (hl : l ≤ E.length) (hk : k ≤ 9223372036854775807) (hroom : E.length < most) (hE : E.length ≤ 1048575) :
    Calls Try.prog 32 #[.pointer (some ⟨B, 0, none⟩), .int .i64 l, .int .i64 k] W fun x w' => x = .returned (.tuple #[.int .i64 (powF E l k).2.1, errV (powF E l k).2.2]) ∧ StAt n0 w' B most (powF E l k).1 ∧ Below n0 W w' ∧ Kt W w' := by
  have kn : ¬ ((k : Int) < 0) := by omega
  have HK1 := Lib.hid (known_any h (l : Int))
  rw [decide_eq_true (show 0 ≤ (l : Int) ∧ (l : Int) ≤ (E.length : Int) by omega)] at HK1
  have H := Lib.hid h
  by_cases h0 : k = 0 ∨ l = 0
  · have e : powF E l k = (E, 0, 0) := by unfold powF; rw [if_pos h0]
    rw [e]
    rcases h0 with h0 | h0
    · have k0 : ((k : Int) == 0) = true := by simp [h0]
      clear h hwf h0 hl hroom hE e hk
      go_enter Try.func32, Try.ntmps32
      go_wp2_with fail
      refine HK1.out.mono ?_; rintro x w ⟨rfl, h⟩; rw [h]; clear h w
      go_wp2_with fail
      go_ret2
      exact ⟨rfl, H.out, Below.refl _ _, Kt.of (Below.refl _ _)⟩
    · have l0 : ((l : Int) == 0) = true := by simp [h0]
      clear h hwf h0 hl hroom hE e hk
      go_enter Try.func32, Try.ntmps32
      go_wp2_with fail
      refine HK1.out.mono ?_; rintro x w ⟨rfl, h⟩; rw [h]; clear h w
      go_wp2_with fail
      all_goals
        go_ret2
        exact ⟨rfl, H.out, Below.refl _ _, Kt.of (Below.refl _ _)⟩
  · by_cases h1 : k = 1
    · have e : powF E l k = (E, l, 0) := by unfold powF; rw [if_neg h0, if_pos h1]
      rw [e]
      have l0 : ((l : Int) == 0) = false := by simp; omega
      have k0 : ((k : Int) == 0) = false := by simp; omega
      have k1 : ((k : Int) == 1) = true := by simp [h1]
      clear h hwf h0 hl hroom hE e hk h1
      go_enter Try.func32, Try.ntmps32
      go_wp2_with fail
      refine HK1.out.mono ?_; rintro x w ⟨rfl, h⟩; rw [h]; clear h w
      go_wp2_with fail
      go_ret2
      exact ⟨rfl, H.out, Below.refl _ _, Kt.of (Below.refl _ _)⟩
    · exact power_some h hwf (by omega) hl (by omega) hk hroom hE
end M
end Go.Proofs.Ytplccefjljdjnaa
namespace Go.Proofs.Ytplccefjljdjnaa
open Go.RowKit
namespace M
theorem pairE_ok {E : List En} (h : Wf E) {l r : Nat} (hl0 : 0 < l) (hr0 : 0 < r) (hl : l ≤ E.length) (hr : r ≤ E.length) (hs : (entAt E l).w.len + (entAt E r).w.len ≤ 1152921504606846976) : OkEn E (pairE E l r) := by
  obtain ⟨a1, a2, a3, a4⟩ := h.get l hl0 hl
  obtain ⟨b1, b2, b3, b4⟩ := h.get r hr0 hr
  have e1 : (entAt E l).w.len = (txt E l).length := by rw [a1]; rfl
  have e2 : (entAt E r).w.len = (txt E r).length := by rw [b1]; rfl
  have ht : txOf (txts E) (pairE E l r).ru = txt E l ++ txt E r := rfl
  refine ⟨.inr (.inl ⟨rfl, rfl, hl0, hl, hr0, hr, rfl⟩), ?_, ?_, ?_, ?_⟩
  · rw [ht, wt_append, ← a1, ← b1]; rfl
  · rw [ht, List.length_append]; omega
  · rw [ht, List.length_append]; omega
  · show 1 + max (entAt E l).depth (entAt E r).depth ≤ E.length
    omega
theorem powE_ok {E : List En} (h : Wf E) {l k : Nat} (hl0 : 0 < l) (hl : l ≤ E.length) (hk : 2 ≤ k) (hs : (entAt E l).w.len * k ≤ 1152921504606846976) : OkEn E (powE E l k) := by
  obtain ⟨a1, a2, a3, a4⟩ := h.get l hl0 hl
  have e1 : (entAt E l).w.len = (txt E l).length := by rw [a1]; rfl
  have ht : txOf (txts E) (powE E l k).ru = rep k (txt E l) := rfl
  rw [e1] at hs
  have hk2 : k ≤ 1152921504606846976 := Nat.le_trans (Nat.le_mul_of_pos_left _ a3) hs
  refine ⟨.inr (.inr ⟨rfl, rfl, hl0, hl, rfl, hk, hk2⟩), by rw [ht]; rfl, ?_, ?_, ?_⟩
  · rw [ht, rep_length, Nat.mul_comm]; exact hs
  · rw [ht, rep_length]; exact Nat.mul_pos (by omega) a3
  · show 1 + (entAt E l).depth ≤ E.length
    omega
theorem pairF_wf {E : List En} (h : Wf E) {l r : Nat} (hl : l ≤ E.length) (hr : r ≤ E.length) : Wf (pairF E l r).1 ∧ (pairF E l r).1.length ≤ E.length + 1 ∧ E.length ≤ (pairF E l r).1.length ∧ (pairF E l r).2.1 ≤ (pairF E l r).1.length := by
  unfold pairF
  by_cases hl0 : l = 0
  · rw [if_pos hl0]; exact ⟨h, by simp, by simp, hr⟩
  · rw [if_neg hl0]
    by_cases hr0 : r = 0
    · rw [if_pos hr0]; exact ⟨h, by simp, by simp, hl⟩
    · rw [if_neg hr0]
      split
      · rename_i hs
        have := addF_wf h (pairE_ok h (by omega) (by omega) hl hr hs)
        exact ⟨this.1, this.2.1, by unfold addF; split <;> simp, this.2.2.2⟩
      · exact ⟨h, by simp, by simp, by simp⟩
theorem powF_wf {E : List En} (h : Wf E) {l k : Nat} (hl : l ≤ E.length) : Wf (powF E l k).1 ∧ (powF E l k).1.length ≤ E.length + 1 ∧ E.length ≤ (powF E l k).1.length ∧ (powF E l k).2.1 ≤ (powF E l k).1.length := by
  unfold powF
  by_cases h0 : k = 0 ∨ l = 0
  · rw [if_pos h0]; exact ⟨h, by simp, by simp, by simp⟩
  · rw [if_neg h0]
    by_cases h1 : k = 1
    · rw [if_pos h1]; exact ⟨h, by simp, by simp, hl⟩
    · rw [if_neg h1]
      split
      · rename_i hs
        have := addF_wf h (powE_ok h (by omega) hl (by omega) hs)
        exact ⟨this.1, this.2.1, by unfold addF; split <;> simp, this.2.2.2⟩
      · exact ⟨h, by simp, by simp, by simp⟩
end M
end Go.Proofs.Ytplccefjljdjnaa
namespace Go.Proofs.Ytplccefjljdjnaa
open Go.RowKit
namespace M
/-- Rule i of a store. -/
structure RuOf (E : List En) (i : Nat) : Prop where
  cases : ((entAt E i).ru.kind = 1 ∧ (entAt E i).ru.letter < 256 ∧ (entAt E i).ru.left = 0 ∧ (entAt E i).ru.right = 0 ∧ (entAt E i).ru.times = 0 ∧ txt E i = [(entAt E i).ru.letter]) ∨
    ((entAt E i).ru.kind = 2 ∧ (entAt E i).ru.letter = 0 ∧ 0 < (entAt E i).ru.left ∧ (entAt E i).ru.left < i ∧ 0 < (entAt E i).ru.right ∧ (entAt E i).ru.right < i ∧ (entAt E i).ru.times = 0 ∧ txt E i = txt E (entAt E i).ru.left ++ txt E (entAt E i).ru.right) ∨
    ((entAt E i).ru.kind = 3 ∧ (entAt E i).ru.letter = 0 ∧ 0 < (entAt E i).ru.left ∧ (entAt E i).ru.left < i ∧ (entAt E i).ru.right = 0 ∧ 2 ≤ (entAt E i).ru.times ∧ (entAt E i).ru.times ≤ 1152921504606846976 ∧ txt E i = rep (entAt E i).ru.times (txt E (entAt E i).ru.left))
theorem entAt_snoc {E : List En} {e : En} {i : Nat} (hi : i ≤ E.length) : entAt (E ++ [e]) i = entAt E i := by
  unfold entAt
  by_cases h : i = 0
  · rw [if_pos h, if_pos h]
  · rw [if_neg h, if_neg h, List.getElem?_append_left (by omega)]
theorem entAt_last (E : List En) (e : En) : entAt (E ++ [e]) (E.length + 1) = e := by
  unfold entAt
  rw [if_neg (by omega), List.getElem?_append_right (by omega)]
  simp
theorem Wf.rule {E : List En} (h : Wf E) : ∀ i, 0 < i → i ≤ E.length → RuOf E i := by
  induction h with
  | nil => intro i h1 h2; simp at h2; omega
  | @snoc E e hE he ih =>
    intro i h1 h2
    rw [List.length_append, List.length_singleton] at h2
    by_cases hi : i ≤ E.length
    · have h := (ih i h1 hi).cases
      rw [← entAt_snoc (e := e) hi] at h
      refine ⟨?_⟩
      rcases h with ⟨a, b, c, d, f, g⟩ | ⟨a, b, c, d, f, g, k, l⟩ | ⟨a, b, c, d, f, g, k, l⟩
      · exact .inl ⟨a, b, c, d, f, by rw [txt_snoc hi]; exact g⟩
      · exact .inr (.inl ⟨a, b, c, d, f, g, k, by rw [txt_snoc hi, txt_snoc (by omega), txt_snoc (by omega)]; exact l⟩)
      · exact .inr (.inr ⟨a, b, c, d, f, g, k, by rw [txt_snoc hi, txt_snoc (by omega)]; exact l⟩)
    · obtain rfl : i = E.length + 1 := by omega
      refine ⟨?_⟩
      rw [entAt_last, txt_last]
      rcases he.kind with ⟨a, b, c, d, f⟩ | ⟨a, b, c, d, f, g, k⟩ | ⟨a, b, c, d, f, g, k⟩
      · exact .inl ⟨a, b, c, d, f, by unfold txOf; rw [if_pos a]⟩
      · refine .inr (.inl ⟨a, b, c, by omega, f, by omega, k, ?_⟩)
        rw [txt_snoc d, txt_snoc g]
        unfold txOf
        rw [if_neg (by omega), if_pos a]; rfl
      · refine .inr (.inr ⟨a, b, c, by omega, f, g, k, ?_⟩)
        rw [txt_snoc d]
        unfold txOf
        rw [if_neg (by omega), if_neg (by omega)]; rfl
theorem Wf.len {E : List En} (h : Wf E) {i : Nat} (hi : i ≤ E.length) : (entAt E i).w = wt (txt E i) ∧ (txt E i).length ≤ 1152921504606846976 := by
  by_cases h0 : i = 0
  · subst h0; exact ⟨rfl, by rw [txt_zero]; simp⟩
  · obtain ⟨a, b, -, -⟩ := h.get i (by omega) hi
    exact ⟨a, b⟩
theorem rep_get {t : List Nat} (ht : 0 < t.length) : ∀ (n k : Nat), k < n * t.length → (rep n t)[k]? = t[k % t.length]?
  | 0, k, h => by simp at h
  | n + 1, k, h => by
    rw [rep_succ]
    by_cases hk : k < t.length
    · rw [List.getElem?_append_left hk, Nat.mod_eq_of_lt hk]
    · rw [List.getElem?_append_right (by omega), rep_get ht n (k - t.length) (by rw [Nat.succ_mul] at h; omega), ← Nat.mod_eq_sub_mod (by omega)]
/-- Where the letter at an offset of a Pair or a Power lies. -/
def belF (r : Ru) (n a : Nat) : Nat × Nat := if r.kind = 3 then (r.left, a % n) else if a < n then (r.left, a) else (r.right, a - n)
theorem belF_step {E : List En} (h : Wf E) {i k : Nat} {b : Nat} (h0 : 0 < i) (hi : i ≤ E.length) (hk : (entAt E i).ru.kind ≠ 1) (hb : (txt E i)[k]? = some b) :
    0 < (belF (entAt E i).ru (txt E (entAt E i).ru.left).length k).1 ∧ (belF (entAt E i).ru (txt E (entAt E i).ru.left).length k).1 < i ∧ (txt E (belF (entAt E i).ru (txt E (entAt E i).ru.left).length k).1)[(belF (entAt E i).ru (txt E (entAt E i).ru.left).length k).2]? = some b := by
  unfold belF
  rcases (h.rule i h0 hi).cases with ⟨a, -⟩ | ⟨a, -, c, d, f, g, -, l⟩ | ⟨a, -, c, d, -, g, -, l⟩
  · exact absurd a hk
  · rw [if_neg (by omega)]
    rw [l] at hb
    by_cases hlt : k < (txt E (entAt E i).ru.left).length
    · rw [if_pos hlt]
      rw [List.getElem?_append_left hlt] at hb
      exact ⟨c, d, hb⟩
    · rw [if_neg hlt]
      rw [List.getElem?_append_right (by omega)] at hb
      exact ⟨f, g, hb⟩
  · rw [if_pos a]
    have hkl := (List.getElem?_eq_some_iff.1 hb).1
    rw [l] at hb hkl
    rw [rep_length] at hkl
    obtain ⟨-, -, hp, -⟩ := h.get _ c (by omega)
    rw [rep_get hp _ _ hkl] at hb
    exact ⟨c, d, hb⟩
end M
end Go.Proofs.Ytplccefjljdjnaa
