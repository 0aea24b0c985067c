/- Where anchors go: bounds, order, back again. No walk. -/
import Derived.Test.YtplccefjljdjnaaMoveQ
set_option linter.unusedVariables false
set_option linter.unusedSimpArgs false
namespace Go.Proofs.Ytplccefjljdjnaa
open Go.RowKit
namespace M
theorem chg_form {len last : Int} {c : Chg} {L : List Chg} (h : formF len last (c :: L) = true) : last < c.pos ∧ 0 ≤ c.n ∧ c.pos + c.n ≤ len ∧ 0 ≤ c.pos ∧ formF len (c.pos + c.n) L = true ∧ 0 ≤ len := by
  simp only [formF, chgOk, Bool.and_eq_true, Bool.not_eq_true', decide_eq_false_iff_not] at h
  obtain ⟨⟨⟨h3, h4⟩, -⟩, h5⟩ := h
  obtain ⟨g, -, a, b, e, f⟩ := rngB_iff.1 h3
  exact ⟨by omega, b, by omega, a, h5, g⟩
theorem del_rest {len : Int} (h0 : 0 ≤ len) {L : List Chg} {last : Int} (h : formF len last L = true) (h1 : 0 ≤ last) (h2 : last ≤ len) : 0 ≤ delF L ∧ delF L + last ≤ len := by
  obtain ⟨a, b, c, d⟩ := form_bound h0 L last h (by omega) h2
  simp only [ite_self] at b
  exact ⟨a, by omega⟩
theorem moreF_cons (E : List En) (s : Int) (c : Chg) (L : List Chg) : moreF E s (c :: L) = moreF E (s + ((txt E c.id).length - c.n)) L := rfl
theorem mapF_cons (E : List En) (y s : Int) (c : Chg) (L : List Chg) : mapF E y s (c :: L) = if c.pos > y then (y + s, y + s, true) else if y < c.pos + c.n then (c.pos + s, c.pos + s + (txt E c.id).length, false) else mapF E y (s + ((txt E c.id).length - c.n)) L := rfl
theorem backR_cons (E : List En) (y s : Int) (c : Chg) (L : List Chg) : backR E y s (c :: L) = if y < c.pos + s then (y - s, true) else if y < c.pos + s + (txt E c.id).length then (0, false) else backR E y (s + ((txt E c.id).length - c.n)) L := rfl
theorem mapF_lo {E : List En} {len y : Int} : ∀ (L : List Chg) (last lo s : Int), formF len last L = true → lo ≤ last + 1 → lo ≤ y → lo + s ≤ (mapF E y s L).1 ∧ (mapF E y s L).1 ≤ (mapF E y s L).2.1
  | [], last, lo, s, _, _, h2 => ⟨by show lo + s ≤ y + s; omega, Int.le_refl _⟩
  | c :: L, last, lo, s, h, h1, h2 => by
    obtain ⟨a1, a2, a3, a4, a5, -⟩ := chg_form h
    rw [mapF_cons]
    split
    · exact ⟨by dsimp only; omega, Int.le_refl _⟩
    · split
      · exact ⟨by dsimp only; omega, by dsimp only; omega⟩
      · obtain ⟨b1, b2⟩ := mapF_lo (E := E) (len := len) (y := y) L _ (c.pos + c.n) (s + ((txt E c.id).length - c.n)) a5 (by omega) (by omega)
        exact ⟨by omega, b2⟩
/-- The place of an anchor of left gravity, and of right gravity, by its letter. -/
def plL (r : Int × Int × Bool) : Int := if r.2.2 then r.1 + 1 else r.1
theorem mapF_hi {E : List En} {len y : Int} (hy : y < len) : ∀ (L : List Chg) (last s : Int), formF len last L = true → (mapF E y s L).2.1 ≤ len + moreF E s L ∧ plL (mapF E y s L) ≤ len + moreF E s L ∧ ((mapF E y s L).2.2 = true → (mapF E y s L).1 = (mapF E y s L).2.1)
  | [], last, s, _ => ⟨by show y + s ≤ len + s; omega, by show y + s + 1 ≤ len + s; omega, fun _ => rfl⟩
  | c :: L, last, s, h => by
    obtain ⟨a1, a2, a3, a4, a5, a6⟩ := chg_form h
    obtain ⟨d1, d2⟩ := del_rest a6 a5 (by omega) a3
    rw [mapF_cons, moreF_cons]
    split
    · rw [moreF_eq]
      exact ⟨by dsimp only; omega, by show y + s + 1 ≤ _; omega, fun _ => rfl⟩
    · split
      · rw [moreF_eq]
        exact ⟨by dsimp only; omega, by show c.pos + s ≤ _; omega, fun h => by cases h⟩
      · exact mapF_hi hy L _ _ a5
theorem mapF_mono {E : List En} {len y z : Int} (hyz : y ≤ z) : ∀ (L : List Chg) (last s : Int), formF len last L = true → (mapF E y s L).2.1 ≤ (mapF E z s L).2.1 ∧ plL (mapF E y s L) ≤ plL (mapF E z s L)
  | [], last, s, _ => ⟨by show y + s ≤ z + s; omega, by show y + s + 1 ≤ z + s + 1; omega⟩
  | c :: L, last, s, h => by
    obtain ⟨a1, a2, a3, a4, a5, a6⟩ := chg_form h
    have hlo := fun (h : c.pos + c.n ≤ z) => mapF_lo (E := E) (y := z) L _ (c.pos + c.n) (s + ((txt E c.id).length - c.n)) a5 (by omega) h
    have hpl : ∀ r : Int × Int × Bool, r.1 ≤ plL r := fun r => by unfold plL; split <;> omega
    have hp2 := hpl (mapF E z (s + ((txt E c.id).length - c.n)) L)
    rw [mapF_cons, mapF_cons]
    by_cases h1 : c.pos > y
    · rw [if_pos h1]
      by_cases h2 : c.pos > z
      · rw [if_pos h2]
        exact ⟨by dsimp only; omega, by show y + s + 1 ≤ z + s + 1; omega⟩
      · rw [if_neg h2]
        by_cases h3 : z < c.pos + c.n
        · rw [if_pos h3]
          exact ⟨by dsimp only; omega, by show y + s + 1 ≤ c.pos + s; omega⟩
        · rw [if_neg h3]
          obtain ⟨b1, b2⟩ := hlo (by omega)
          exact ⟨by dsimp only; omega, by show y + s + 1 ≤ _; omega⟩
    · rw [if_neg h1]
      by_cases h3 : y < c.pos + c.n
      · rw [if_pos h3]
        rw [if_neg (show ¬ c.pos > z by omega)]
        by_cases h4 : z < c.pos + c.n
        · rw [if_pos h4]; exact ⟨Int.le_refl _, Int.le_refl _⟩
        · rw [if_neg h4]
          obtain ⟨b1, b2⟩ := hlo (by omega)
          exact ⟨by dsimp only; omega, by show c.pos + s ≤ _; omega⟩
      · rw [if_neg h3, if_neg (show ¬ c.pos > z by omega), if_neg (show ¬ z < c.pos + c.n by omega)]
        exact mapF_mono hyz L _ _ a5
theorem mapF_next {E : List En} {len y : Int} : ∀ (L : List Chg) (last s : Int), formF len last L = true → plL (mapF E y s L) ≤ (mapF E (y + 1) s L).2.1
  | [], last, s, _ => by show y + s + 1 ≤ y + 1 + s; omega
  | c :: L, last, s, h => by
    obtain ⟨a1, a2, a3, a4, a5, a6⟩ := chg_form h
    have hlo := fun (h : c.pos + c.n ≤ y + 1) => mapF_lo (E := E) (y := y + 1) L _ (c.pos + c.n) (s + ((txt E c.id).length - c.n)) a5 (by omega) h
    rw [mapF_cons, mapF_cons]
    by_cases h1 : c.pos > y
    · rw [if_pos h1]
      by_cases h2 : c.pos > y + 1
      · rw [if_pos h2]; show y + s + 1 ≤ y + 1 + s; omega
      · rw [if_neg h2]
        by_cases h3 : y + 1 < c.pos + c.n
        · rw [if_pos h3]; show y + s + 1 ≤ c.pos + s + ((txt E c.id).length : Int); omega
        · rw [if_neg h3]
          obtain ⟨b1, b2⟩ := hlo (by omega)
          show y + s + 1 ≤ _; omega
    · rw [if_neg h1, if_neg (show ¬ c.pos > y + 1 by omega)]
      by_cases h3 : y < c.pos + c.n
      · rw [if_pos h3]
        by_cases h4 : y + 1 < c.pos + c.n
        · rw [if_pos h4]; show c.pos + s ≤ c.pos + s + ((txt E c.id).length : Int); omega
        · rw [if_neg h4]
          obtain ⟨b1, b2⟩ := hlo (by omega)
          show c.pos + s ≤ _; omega
      · rw [if_neg h3, if_neg (show ¬ y + 1 < c.pos + c.n by omega)]
        exact mapF_next L _ _ a5
/-- Back undoes Map for each kept letter. -/
theorem back_map {E : List En} {len y : Int} : ∀ (L : List Chg) (last s : Int), formF len last L = true → (mapF E y s L).2.2 = true → backR E (mapF E y s L).2.1 s L = (y, true)
  | [], last, s, _, _ => by show (y + s - s, true) = _; rw [show y + s - s = y by omega]
  | c :: L, last, s, h, hk => by
    obtain ⟨a1, a2, a3, a4, a5, a6⟩ := chg_form h
    rw [mapF_cons] at hk ⊢
    by_cases h1 : c.pos > y
    · rw [if_pos h1, backR_cons]
      dsimp only
      rw [if_pos (by omega), show y + s - s = y by omega]
    · rw [if_neg h1] at hk ⊢
      by_cases h3 : y < c.pos + c.n
      · rw [if_pos h3] at hk; cases hk
      · rw [if_neg h3] at hk ⊢
        obtain ⟨b1, b2⟩ := mapF_lo (E := E) (y := y) L _ (c.pos + c.n) (s + ((txt E c.id).length - c.n)) a5 (by omega) (by omega)
        rw [backR_cons, if_neg (by omega), if_neg (by omega)]
        exact back_map L _ _ a5 hk
/-- What anchors are moved to. -/
theorem anc_R {E : List En} {len nl x : Int} {L : List Chg} (h : formF len (-1) L = true) : ancF (mvsF E 0 L) nl len x true = if x = len then (nl, true) else ((mapF E x 0 L).2.1, (mapF E x 0 L).2.2) := by
  unfold ancF
  rw [letG_map L _ _ h, if_pos rfl]
theorem anc_L {E : List En} {len nl x : Int} {L : List Chg} (h : formF len (-1) L = true) : ancF (mvsF E 0 L) nl len x false = if x = 0 then (0, true) else (plL (mapF E (x - 1) 0 L), (mapF E (x - 1) 0 L).2.2) := by
  unfold ancF plL
  rw [if_neg (by decide)]
  rw [letG_map L _ _ h]
theorem anc_in {E : List En} {len x : Int} {L : List Chg} (h : (lngF E len L).2 = 0) (hx : 0 ≤ x ∧ x ≤ len) (r : Bool) : 0 ≤ (ancF (mvsF E 0 L) (lngF E len L).1 len x r).1 ∧ (ancF (mvsF E 0 L) (lngF E len L).1 len x r).1 ≤ (lngF E len L).1 := by
  obtain ⟨o1, o2, o3, o4, o5⟩ := lngF_ok h
  have hm := moreF_eq E L 0
  have hd := del_le o1 o3
  cases r with
  | true =>
    rw [anc_R o3]
    split
    · exact ⟨by rw [o5]; omega, Int.le_refl _⟩
    · obtain ⟨b1, b2⟩ := mapF_lo (E := E) (y := x) L (-1) 0 0 o3 (by omega) hx.1
      obtain ⟨c1, -, -⟩ := mapF_hi (E := E) (y := x) (len := len) (by omega) L (-1) 0 o3
      exact ⟨by dsimp only; omega, by dsimp only; omega⟩
  | false =>
    rw [anc_L o3]
    split
    · exact ⟨Int.le_refl _, by rw [o5]; omega⟩
    · obtain ⟨b1, b2⟩ := mapF_lo (E := E) (y := x - 1) L (-1) 0 0 o3 (by omega) (by omega)
      obtain ⟨-, c1, -⟩ := mapF_hi (E := E) (y := x - 1) (len := len) (by omega) L (-1) 0 o3
      refine ⟨?_, by dsimp only; omega⟩
      show 0 ≤ plL _
      unfold plL
      split <;> omega
theorem anc_mono {E : List En} {len x z : Int} {L : List Chg} (h : (lngF E len L).2 = 0) (hx : 0 ≤ x) (hxz : x ≤ z) (hz : z ≤ len) (r : Bool) : (ancF (mvsF E 0 L) (lngF E len L).1 len x r).1 ≤ (ancF (mvsF E 0 L) (lngF E len L).1 len z r).1 := by
  obtain ⟨o1, o2, o3, o4, o5⟩ := lngF_ok h
  have hi := (anc_in h ⟨hx, by omega⟩ r).2
  have lo := (anc_in h (x := z) ⟨by omega, hz⟩ r).1
  cases r with
  | true =>
    rw [anc_R o3] at hi lo ⊢
    rw [anc_R o3] at *
    by_cases hz2 : z = len
    · rw [if_pos hz2]; exact hi
    · rw [if_neg hz2, if_neg (by omega)]
      exact (mapF_mono hxz L (-1) 0 o3).1
  | false =>
    rw [anc_L o3] at hi lo ⊢
    rw [anc_L o3] at *
    by_cases hx2 : x = 0
    · rw [if_pos hx2]; exact lo
    · rw [if_neg hx2, if_neg (by omega)]
      exact (mapF_mono (show x - 1 ≤ z - 1 by omega) L (-1) 0 o3).2
theorem anc_lr {E : List En} {len x : Int} {L : List Chg} (h : (lngF E len L).2 = 0) (hx : 0 ≤ x ∧ x ≤ len) : (ancF (mvsF E 0 L) (lngF E len L).1 len x false).1 ≤ (ancF (mvsF E 0 L) (lngF E len L).1 len x true).1 := by
  obtain ⟨o1, o2, o3, o4, o5⟩ := lngF_ok h
  have hi := (anc_in h hx false).2
  have lo := (anc_in h hx true).1
  rw [anc_L o3] at hi ⊢
  rw [anc_R o3] at lo ⊢
  by_cases h1 : x = len
  · rw [if_pos h1]; exact hi
  · rw [if_neg h1] at lo ⊢
    by_cases h2 : x = 0
    · rw [if_pos h2]; exact lo
    · rw [if_neg h2]
      have := mapF_next (E := E) (y := x - 1) L (-1) 0 o3
      rw [show x - 1 + 1 = x by omega] at this
      exact this
end M
end Go.Proofs.Ytplccefjljdjnaa
