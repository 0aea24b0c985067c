/- Back through a patch, and bounds of moves. No walk. -/
import Derived.Test.YtplccefjljdjnaaMap
set_option linter.unusedVariables false
set_option linter.unusedSimpArgs false
namespace Go.Proofs.Ytplccefjljdjnaa
open Go.RowKit
namespace M
/-- Where a letter of the result was. -/
def letB (M : List Mv) (x : Int) : Int × Bool := match (M.takeWhile (fun m => decide (m.nf ≤ x))).getLast? with
  | none => (x, true)
  | some m => if x < m.nt then (0, false) else (x - m.nt + m.to, true)
/-- The reference's loop back. -/
def backR (E : List En) (x : Int) : Int → List Chg → Int × Bool
  | s, [] => (x - s, true)
  | s, c :: L => if x < c.pos + s then (x - s, true) else if x < c.pos + s + (txt E c.id).length then (0, false) else backR E x (s + ((txt E c.id).length - c.n)) L
theorem mvsF_new {E : List En} {len : Int} : ∀ (L : List Chg) (last more : Int), formF len last L = true → ∀ m ∈ mvsF E more L, last + more < m.nf ∧ m.nf ≤ m.nt
  | [], _, _, _, m, hm => by cases hm
  | c :: L, last, more, h, m, hm => by
    simp only [formF, chgOk, Bool.and_eq_true, Bool.not_eq_true', decide_eq_false_iff_not] at h
    obtain ⟨⟨⟨h3, h4⟩, -⟩, h5⟩ := h
    obtain ⟨-, -, a, b, e, f⟩ := rngB_iff.1 h3
    rcases List.mem_cons.1 hm with rfl | hm
    · exact ⟨by show last + more < c.pos + more; omega, by show c.pos + more ≤ c.pos + more + ((txt E c.id).length : Int); omega⟩
    · have := mvsF_new L _ _ h5 m hm
      exact ⟨by omega, this.2⟩
theorem mvsF_sortedN {E : List En} {len : Int} : ∀ (L : List Chg) (last more : Int), formF len last L = true → (mvsF E more L).Pairwise (fun a b => a.nt < b.nf ∧ a.nf ≤ b.nf)
  | [], _, _, _ => List.Pairwise.nil
  | c :: L, last, more, h => by
    simp only [formF, chgOk, Bool.and_eq_true, Bool.not_eq_true', decide_eq_false_iff_not] at h
    obtain ⟨⟨⟨h3, h4⟩, -⟩, h5⟩ := h
    refine List.Pairwise.cons (fun m hm => ?_) (mvsF_sortedN L _ _ h5)
    have := (mvsF_new L _ _ h5 m hm).1
    exact ⟨by show c.pos + more + ((txt E c.id).length : Int) < m.nf; omega, by show c.pos + more ≤ m.nf; omega⟩
theorem takeWhile_noneN {M : List Mv} {x y : Int} (h : ∀ m ∈ M, y < m.nf) (hx : x ≤ y) : M.takeWhile (fun m => decide (m.nf ≤ x)) = [] := by
  cases M with
  | nil => rfl
  | cons a M =>
    rw [List.takeWhile_cons, if_neg]
    have := h a (List.mem_cons_self ..)
    simp; omega
def letBs (s : Int) (M : List Mv) (x : Int) : Int × Bool := match (M.takeWhile (fun m => decide (m.nf ≤ x))).getLast? with
  | none => (x - s, true)
  | some m => if x < m.nt then (0, false) else (x - m.nt + m.to, true)
theorem letB_back {E : List En} {len x : Int} : ∀ (L : List Chg) (last base : Int), formF len last L = true → letBs base (mvsF E base L) x = backR E x base L
  | [], _, _, _ => rfl
  | c :: L, last, base, h => by
    have h0 := h
    simp only [formF, chgOk, Bool.and_eq_true, Bool.not_eq_true', decide_eq_false_iff_not] at h
    obtain ⟨⟨⟨h3, h4⟩, -⟩, h5⟩ := h
    unfold backR
    by_cases h6 : x < c.pos + base
    · rw [if_pos h6]
      unfold letBs
      have : (mvsF E base (c :: L)).takeWhile (fun m => decide (m.nf ≤ x)) = [] := by
        show List.takeWhile _ (_ :: _) = []
        rw [List.takeWhile_cons, if_neg]
        simp; omega
      rw [this]; rfl
    · rw [if_neg h6]
      have e1 : (mvsF E base (c :: L)).takeWhile (fun m => decide (m.nf ≤ x)) = ⟨c.pos, c.pos + c.n, c.pos + base, c.pos + base + (txt E c.id).length⟩ :: (mvsF E (base + ((txt E c.id).length - c.n)) L).takeWhile (fun m => decide (m.nf ≤ x)) := by
        show List.takeWhile _ (_ :: _) = _
        rw [List.takeWhile_cons, if_pos]
        simp; omega
      by_cases h7 : x < c.pos + base + (txt E c.id).length
      · rw [if_pos h7]
        unfold letBs
        rw [e1, takeWhile_noneN (y := c.pos + c.n + (base + ((txt E c.id).length - c.n))) (fun m hm => (mvsF_new L _ _ h5 m hm).1) (by omega)]
        show (if x < c.pos + base + ((txt E c.id).length : Int) then _ else _) = _
        rw [if_pos h7]
      · rw [if_neg h7, ← letB_back L _ _ h5]
        unfold letBs
        rw [e1]
        cases hT : (mvsF E (base + ((txt E c.id).length - c.n)) L).takeWhile (fun m => decide (m.nf ≤ x)) with
        | nil =>
          show (if x < c.pos + base + ((txt E c.id).length : Int) then ((0 : Int), false) else (x - (c.pos + base + ((txt E c.id).length : Int)) + (c.pos + c.n), true)) = (x - (base + ((txt E c.id).length - c.n)), true)
          have e2 : x - (c.pos + base + ((txt E c.id).length : Int)) + (c.pos + c.n) = x - (base + ((txt E c.id).length - c.n)) := by omega
          rw [if_neg h7, e2]
        | cons a T =>
          rw [List.getLast?_cons_cons]
          cases hL : (a :: T).getLast? with
          | none => exact absurd (List.getLast?_eq_none_iff.1 hL) (by simp)
          | some m => rfl
theorem letB_eq {E : List En} {len x : Int} {L : List Chg} (h : formF len (-1) L = true) : letB (mvsF E 0 L) x = backR E x 0 L := by
  rw [← letB_back L _ _ h]
  unfold letB letBs
  cases (List.takeWhile (fun m => decide (m.nf ≤ x)) (mvsF E 0 L)).getLast? with
  | none => simp
  | some m => rfl
/-- How many letters are more behind some changes: bounds. -/
theorem more_in {E : List En} {len : Int} {L : List Chg} (h : (lngF E len L).2 = 0) (j : Nat) : -1152921504606846976 ≤ moreF E 0 (L.take j) ∧ moreF E 0 (L.take j) ≤ 2305843009213693952 := by
  obtain ⟨o1, o2, o3, o4, -⟩ := lngF_ok h
  have h1 := del_le o1 (formF_take o3 j)
  have h2 := del_le o1 o3
  have h3 := insF_take_le E L j
  rw [moreF_eq]
  omega
theorem ins_in {E : List En} {len : Int} {L : List Chg} (h : (lngF E len L).2 = 0) {c : Chg} (hc : c ∈ L) : ((txt E c.id).length : Int) ≤ 2305843009213693952 := by
  obtain ⟨o1, o2, o3, o4, -⟩ := lngF_ok h
  have h2 := del_le o1 o3
  have h3 : (txt E c.id).length ≤ insF E L := by
    clear h o3 o4 h2
    induction L with
    | nil => cases hc
    | cons a L ih =>
      rcases List.mem_cons.1 hc with rfl | h
      · show _ ≤ _ + insF E L; omega
      · have := ih h; show _ ≤ _ + insF E L; omega
  omega
theorem mapF_drop {E : List En} {y s : Int} {L : List Chg} {j : Nat} (hj : j < L.length) : mapF E y s (L.drop j) = if L[j].pos > y then (y + s, y + s, true) else if y < L[j].pos + L[j].n then (L[j].pos + s, L[j].pos + s + (txt E L[j].id).length, false) else mapF E y (s + ((txt E L[j].id).length - L[j].n)) (L.drop (j + 1)) := by
  rw [List.drop_eq_getElem_cons hj]; rfl
theorem backR_drop {E : List En} {y s : Int} {L : List Chg} {j : Nat} (hj : j < L.length) : backR E y s (L.drop j) = if y < L[j].pos + s then (y - s, true) else if y < L[j].pos + s + (txt E L[j].id).length then (0, false) else backR E y (s + ((txt E L[j].id).length - L[j].n)) (L.drop (j + 1)) := by
  rw [List.drop_eq_getElem_cons hj]; rfl
end M
end Go.Proofs.Ytplccefjljdjnaa
