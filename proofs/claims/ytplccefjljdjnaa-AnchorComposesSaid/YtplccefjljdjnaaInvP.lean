/- The inverse of a patch: it fits the result, and leads anchors back. No walk. -/
import Derived.Test.YtplccefjljdjnaaInvA
set_option linter.unusedVariables false
set_option linter.unusedSimpArgs false
namespace Go.Proofs.Ytplccefjljdjnaa
open Go.RowKit
namespace M
/-- The inverse's lengths. -/
theorem IsInv.sums {E : List En} {t : List Nat} {len : Int} (htl : (t.length : Int) = len) : ∀ {L R : List Chg} {m last : Int}, IsInv E t m L R → formF len last L = true → delF R = insF E L ∧ (insF E R : Int) = delF L
  | [], [], _, _, _, _ => ⟨rfl, rfl⟩
  | [], _ :: _, _, _, h, _ => by cases h
  | _ :: _, [], _, _, h, _ => by cases h
  | c :: L, d :: R, m, last, h, hf => by
    obtain ⟨g1, g2, g3, g4, g5, g6⟩ := chg_form hf
    obtain ⟨i1, i2⟩ := h.2.sums htl g5
    obtain ⟨a, b, e⟩ := h.1
    have hl : (txt E d.id).length = c.n.toNat := by
      rw [e.txt, List.length_take, List.length_drop]; omega
    refine ⟨?_, ?_⟩
    · show d.n + delF R = ((txt E c.id).length + insF E L : Nat)
      rw [b, i1]; omega
    · show (((txt E d.id).length + insF E R : Nat) : Int) = c.n + delF L
      rw [hl]; omega
/-- The inverse is a patch of the result. -/
theorem IsInv.form {E : List En} (hwf : WfD E) {t : List Nat} {len nl : Int} (htl : (t.length : Int) = len) (hnl : 0 ≤ nl ∧ nl ≤ maxL) : ∀ {L R : List Chg} {m last last2 : Int}, IsInv E t m L R → formF len last L = true → (∀ c ∈ L, txt E c.id = [] → c.id = 0) → last2 ≤ last + m → -1 ≤ last2 →
    (0 ≤ last ∨ (last = -1 ∧ m = 0)) → nl = len + moreF E m L → (∀ k, k ≤ L.length → 0 ≤ last + 1 + m) → last ≤ len → formF nl last2 R = true
  | [], [], _, _, _, _, _, _, _, _, _, _, _, _ => rfl
  | [], _ :: _, _, _, _, h, _, _, _, _, _, _, _, _ => by cases h
  | _ :: _, [], _, _, _, h, _, _, _, _, _, _, _, _ => by cases h
  | c :: L, d :: R, m, last, last2, h, hf, hz, h2, h3, h0, he, hp, hle => by
    obtain ⟨g1, g2, g3, g4, g5, g6⟩ := chg_form hf
    have hok : chgOk len last c = true := by
      have : formF len last (c :: L) = (chgOk len last c && formF len (c.pos + c.n) L) := rfl
      rw [this] at hf
      simp only [Bool.and_eq_true] at hf
      exact hf.1
    obtain ⟨a, b, e⟩ := h.1
    have hpp := hp 0 (Nat.zero_le _)
    have hm' : m + ((txt E c.id).length - c.n) = m + (d.n - c.n) := by rw [b]
    have hd0 : 0 ≤ d.n := by rw [b]; omega
    have hmo : moreF E m (c :: L) = moreF E (m + ((txt E c.id).length - c.n)) L := rfl
    rw [hmo, moreF_eq] at he
    have hdl := del_rest (len := len) (by omega) g5 (by omega) (by omega)
    have hfit : d.pos + d.n ≤ nl := by rw [a]; omega
    have hchg : chgOk nl last2 d = true := by
      unfold chgOk at hok ⊢
      simp only [Bool.and_eq_true, Bool.not_eq_true', decide_eq_false_iff_not, Bool.and_eq_false_iff] at hok ⊢
      refine ⟨⟨rngB_iff.2 ⟨hnl.1, hnl.2, by omega, hd0, by omega, by omega⟩, by omega⟩, ?_⟩
      rcases hok.2 with h5 | h5
      · right
        intro hd
        have := (e.zero hwf).1 hd
        have hl : ((t.drop c.pos.toNat).take c.n.toNat).length = 0 := by rw [this]; rfl
        rw [List.length_take, List.length_drop] at hl
        omega
      · left
        intro hd
        apply h5
        refine hz c (by simp) (List.eq_nil_of_length_eq_zero ?_)
        omega
    show (chgOk nl last2 d && formF nl (d.pos + d.n) R) = true
    rw [hchg, Bool.true_and]
    refine IsInv.form hwf htl hnl h.2 g5 (fun x hx => hz x (by simp [hx])) (by rw [a, b]; omega) (by omega) (.inl (by omega)) (by rw [moreF_eq]; omega) (fun k _ => by omega) (by omega)
/-- A kept letter is led back. -/
theorem IsInv.map {E : List En} {t : List Nat} {len y : Int} (htl : (t.length : Int) = len) : ∀ {L R : List Chg} {m last : Int}, IsInv E t m L R → formF len last L = true → (mapF E y m L).2.2 = true → mapF E (mapF E y m L).1 (-m) R = (y, y, true)
  | [], [], m, _, _, _, _ => by
    show (y + m + -m, y + m + -m, true) = _
    rw [show y + m + -m = y by omega]
  | [], _ :: _, _, _, h, _, _ => by cases h
  | _ :: _, [], _, _, h, _, _ => by cases h
  | c :: L, d :: R, m, last, h, hf, hk => by
    obtain ⟨g1, g2, g3, g4, g5, g6⟩ := chg_form hf
    obtain ⟨a, b, e⟩ := h.1
    have hl : ((txt E d.id).length : Int) = c.n := by
      rw [e.txt, List.length_take, List.length_drop]; omega
    rw [mapF_cons E y m c L] at hk ⊢
    by_cases h1 : c.pos > y
    · rw [if_pos h1]
      dsimp only
      rw [mapF_cons, if_pos (by omega), show y + m + -m = y by omega]
    · rw [if_neg h1] at hk ⊢
      by_cases h2 : y < c.pos + c.n
      · rw [if_pos h2] at hk; cases hk
      · rw [if_neg h2] at hk ⊢
        have hlo := (mapF_lo (E := E) (y := y) L (c.pos + c.n) (c.pos + c.n) (m + ((txt E c.id).length - c.n)) g5 (by omega) (by omega)).1
        have ih := h.2.map htl g5 hk
        rw [mapF_cons, if_neg (by omega), if_neg (by omega), hl, b, show -m + (c.n - ((txt E c.id).length : Int)) = -(m + ((txt E c.id).length - c.n)) by omega]
        exact ih
/-- What the law asks. -/
theorem inv_plain {E : List En} (hwf : WfD E) {t : List Nat} {L R : List Chg} (h : (lngF E t.length L).2 = 0) (hI : IsInv E t 0 L R) (hz : ∀ c ∈ L, txt E c.id = [] → c.id = 0) {x : Int} (hx : 0 ≤ x ∧ x ≤ t.length) (r : Bool) (hk : (ancF (mvsF E 0 L) (lngF E t.length L).1 t.length x r).2 = true) :
    (lngF E (lngF E t.length L).1 R).2 = 0 ∧ (lngF E (lngF E t.length L).1 R).1 = t.length ∧ (0 ≤ (ancF (mvsF E 0 L) (lngF E t.length L).1 t.length x r).1 ∧ (ancF (mvsF E 0 L) (lngF E t.length L).1 t.length x r).1 ≤ (lngF E t.length L).1) ∧
    ancF (mvsF E 0 R) (lngF E (lngF E t.length L).1 R).1 (lngF E t.length L).1 (ancF (mvsF E 0 L) (lngF E t.length L).1 t.length x r).1 r = (x, true) := by
  obtain ⟨o1, o2, o3, o4, o5⟩ := lngF_ok h
  have hin := anc_in h hx r
  obtain ⟨nl, hnl⟩ : ∃ n, (lngF E t.length L).1 = n := ⟨_, rfl⟩
  rw [hnl] at hin hk o5 ⊢
  have hd := del_le o1 o3
  have hms := moreF_eq E L 0
  have hform : formF nl (-1) R = true := hI.form hwf rfl (by unfold maxL; omega) o3 hz (by omega) (by omega) (.inr ⟨rfl, rfl⟩) (by omega) (fun k _ => by omega) (by omega)
  obtain ⟨s1, s2⟩ := hI.sums rfl o3
  have hlr : lngF E nl R = ((t.length : Int), 0) := by
    unfold lngF chkF
    rw [if_neg (show ¬ ¬ (0 ≤ nl ∧ nl ≤ maxL) by unfold maxL; omega), hform]
    simp only [if_true, ne_eq, not_true_eq_false, if_false]
    rw [if_pos (by unfold maxL; omega)]
    congr 1; omega
  rw [hlr]
  dsimp only
  refine ⟨rfl, rfl, hin, ?_⟩
  cases r with
  | true =>
    rw [anc_R o3] at hk hin ⊢
    by_cases hxl : x = t.length
    · rw [if_pos hxl]
      dsimp only
      rw [anc_R hform, if_pos rfl, hxl]
    · rw [if_neg hxl] at hk hin ⊢
      dsimp only at hk hin ⊢
      obtain ⟨c1, c2, c3⟩ := mapF_hi (E := E) (y := x) (len := t.length) (by omega) L (-1) 0 o3
      have h3 := c3 hk
      unfold plL at c2
      rw [if_pos hk] at c2
      rw [anc_R hform, if_neg (by omega), ← h3]
      have := hI.map rfl o3 hk
      rw [show -(0 : Int) = 0 from rfl] at this
      rw [this]
  | false =>
    rw [anc_L o3] at hk hin ⊢
    by_cases hx0 : x = 0
    · rw [if_pos hx0]
      dsimp only
      rw [anc_L hform, if_pos rfl, hx0]
    · rw [if_neg hx0] at hk hin ⊢
      dsimp only at hk hin ⊢
      have hlo := (mapF_lo (E := E) (y := x - 1) L (-1) 0 0 o3 (by omega) (by omega)).1
      unfold plL at hin ⊢
      rw [if_pos hk] at hin ⊢
      rw [anc_L hform, if_neg (by omega), show (mapF E (x - 1) 0 L).1 + 1 - 1 = (mapF E (x - 1) 0 L).1 by omega]
      have := hI.map rfl o3 hk
      rw [show -(0 : Int) = 0 from rfl] at this
      rw [this]
      unfold plL
      simp
end M
end Go.Proofs.Ytplccefjljdjnaa
