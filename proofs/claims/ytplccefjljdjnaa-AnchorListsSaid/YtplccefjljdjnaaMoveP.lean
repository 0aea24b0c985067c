/- The moves of a patch, and where they lead. No walk. -/
import Derived.Test.YtplccefjljdjnaaPatchP
namespace Go.Proofs.Ytplccefjljdjnaa
open Go.RowKit
namespace M
structure Mv where
  frm : Int
  to : Int
  nf : Int
  nt : Int
/-- The moves of changes, so many letters being more ahead of them. -/
def mvsF (E : List En) : Int → List Chg → List Mv
  | _, [] => []
  | more, c :: L => ⟨c.pos, c.pos + c.n, c.pos + more, c.pos + more + (txt E c.id).length⟩ :: mvsF E (more + ((txt E c.id).length - c.n)) L
theorem mvsF_len (E : List En) : ∀ (L : List Chg) (more : Int), (mvsF E more L).length = L.length
  | [], _ => rfl
  | c :: L, more => by show (mvsF E _ L).length + 1 = _; rw [mvsF_len E L]; rfl
/-- How many letters are more behind changes. -/
def moreF (E : List En) : Int → List Chg → Int
  | more, [] => more
  | more, c :: L => moreF E (more + ((txt E c.id).length - c.n)) L
theorem moreF_snoc (E : List En) : ∀ (L : List Chg) (more : Int) (c : Chg), moreF E more (L ++ [c]) = moreF E more L + ((txt E c.id).length - c.n)
  | [], _, _ => rfl
  | a :: L, more, c => moreF_snoc E L _ c
theorem moreF_eq (E : List En) : ∀ (L : List Chg) (more : Int), moreF E more L = more + insF E L - delF L
  | [], more => by show more = more + ((0 : Nat) : Int) - 0; omega
  | c :: L, more => by
    show moreF E _ L = more + (((txt E c.id).length + insF E L : Nat) : Int) - (c.n + delF L)
    rw [moreF_eq E L]; omega
theorem mvsF_snoc (E : List En) : ∀ (L : List Chg) (more : Int) (c : Chg), mvsF E more (L ++ [c]) = mvsF E more L ++ [⟨c.pos, c.pos + c.n, c.pos + moreF E more L, c.pos + moreF E more L + (txt E c.id).length⟩]
  | [], _, _ => rfl
  | a :: L, more, c => by
    show _ :: mvsF E _ (L ++ [c]) = _ :: (mvsF E _ L ++ _)
    rw [mvsF_snoc E L]; rfl
/-- The moves stand in order. -/
theorem mvsF_from {E : List En} {len : Int} : ∀ (L : List Chg) (last more : Int), formF len last L = true → ∀ m ∈ mvsF E more L, last < m.frm ∧ m.frm ≤ m.to
  | [], _, _, _, m, hm => by cases hm
  | c :: L, last, more, h, m, hm => by
    simp only [formF, chgOk, Bool.and_eq_true, Bool.not_eq_true', decide_eq_false_iff_not] at h
    obtain ⟨⟨⟨h3, h4⟩, -⟩, h5⟩ := h
    obtain ⟨-, -, a, b, e, f⟩ := rngB_iff.1 h3
    rcases List.mem_cons.1 hm with rfl | hm
    · exact ⟨by show last < c.pos; omega, by show c.pos ≤ c.pos + c.n; omega⟩
    · have := mvsF_from L _ _ h5 m hm
      exact ⟨by omega, this.2⟩
theorem mvsF_sorted {E : List En} {len : Int} : ∀ (L : List Chg) (last more : Int), formF len last L = true → (mvsF E more L).Pairwise (fun a b => a.to < b.frm ∧ a.frm ≤ b.frm)
  | [], _, _, _ => List.Pairwise.nil
  | c :: L, last, more, h => by
    simp only [formF, chgOk, Bool.and_eq_true, Bool.not_eq_true', decide_eq_false_iff_not] at h
    obtain ⟨⟨⟨h3, h4⟩, -⟩, h5⟩ := h
    obtain ⟨-, -, a, b, e, f⟩ := rngB_iff.1 h3
    refine List.Pairwise.cons (fun m hm => ?_) (mvsF_sorted L _ _ h5)
    have := (mvsF_from L _ _ h5 m hm).1
    exact ⟨this, by show c.pos ≤ m.frm; omega⟩
/-- Where a letter goes; nothing ahead of it: by so much. -/
def letG (base : Int) (M : List Mv) (x : Int) : Int × Int × Bool := match (M.takeWhile (fun m => decide (m.frm ≤ x))).getLast? with
  | none => (x + base, x + base, true)
  | some m => if x < m.to then (m.nf, m.nt, false) else (x + (m.nt - m.to), x + (m.nt - m.to), true)
theorem takeWhile_take {α : Type} {p : α → Bool} : ∀ {M : List α} {k : Nat}, k ≤ M.length → (∀ i (hi : i < M.length), i < k → p M[i] = true) → (∀ i (hi : i < M.length), k ≤ i → p M[i] = false) → M.takeWhile p = M.take k
  | [], k, _, _, _ => by simp
  | a :: M, 0, _, _, h2 => by
    have := h2 0 (by simp) (Nat.le_refl _)
    simp only [List.getElem_cons_zero] at this
    simp [List.takeWhile_cons, this]
  | a :: M, k + 1, hk, h1, h2 => by
    have h := h1 0 (by simp) (by omega)
    simp only [List.getElem_cons_zero] at h
    rw [List.takeWhile_cons, h, if_pos rfl, List.take_succ_cons, takeWhile_take (by simpa using hk) (fun i hi hik => by
      have := h1 (i + 1) (by simp; omega) (by omega)
      simpa using this) (fun i hi hik => by
      have := h2 (i + 1) (by simp; omega) (by omega)
      simpa using this)]
theorem takeWhile_none {M : List Mv} {x y : Int} (h : ∀ m ∈ M, y < m.frm) (hx : x ≤ y) : M.takeWhile (fun m => decide (m.frm ≤ x)) = [] := by
  cases M with
  | nil => rfl
  | cons a M =>
    rw [List.takeWhile_cons, if_neg]
    have := h a (List.mem_cons_self ..)
    simp; omega
/-- The reference's loop. -/
def mapF (E : List En) (x : Int) : Int → List Chg → Int × Int × Bool
  | shift, [] => (x + shift, x + shift, true)
  | shift, c :: L => if c.pos > x then (x + shift, x + shift, true) else if x < c.pos + c.n then (c.pos + shift, c.pos + shift + (txt E c.id).length, false) else mapF E x (shift + ((txt E c.id).length - c.n)) L
theorem letG_map {E : List En} {len x : Int} : ∀ (L : List Chg) (last base : Int), formF len last L = true → letG base (mvsF E base L) x = mapF E x base L
  | [], _, _, _ => rfl
  | c :: L, last, base, h => by
    have h0 := h
    simp only [formF, chgOk, Bool.and_eq_true, Bool.not_eq_true', decide_eq_false_iff_not] at h
    obtain ⟨⟨⟨h3, h4⟩, -⟩, h5⟩ := h
    unfold mapF
    by_cases h6 : c.pos > x
    · rw [if_pos h6]
      unfold letG
      have : (mvsF E base (c :: L)).takeWhile (fun m => decide (m.frm ≤ x)) = [] := by
        show List.takeWhile _ (_ :: _) = []
        rw [List.takeWhile_cons, if_neg]
        simp; omega
      rw [this]; rfl
    · rw [if_neg h6]
      have e1 : (mvsF E base (c :: L)).takeWhile (fun m => decide (m.frm ≤ x)) = ⟨c.pos, c.pos + c.n, c.pos + base, c.pos + base + (txt E c.id).length⟩ :: (mvsF E (base + ((txt E c.id).length - c.n)) L).takeWhile (fun m => decide (m.frm ≤ x)) := by
        show List.takeWhile _ (_ :: _) = _
        rw [List.takeWhile_cons, if_pos]
        simp; omega
      by_cases h7 : x < c.pos + c.n
      · rw [if_pos h7]
        unfold letG
        rw [e1, takeWhile_none (y := c.pos + c.n) (fun m hm => (mvsF_from L _ _ h5 m hm).1) (by omega)]
        show (if x < c.pos + c.n then _ else _) = _
        rw [if_pos h7]
        rfl
      · rw [if_neg h7, ← letG_map L _ _ h5]
        unfold letG
        rw [e1]
        cases hT : (mvsF E (base + ((txt E c.id).length - c.n)) L).takeWhile (fun m => decide (m.frm ≤ x)) with
        | nil =>
          show (if x < c.pos + c.n then (c.pos + base, c.pos + base + ((txt E c.id).length : Int), false) else (x + (c.pos + base + ((txt E c.id).length : Int) - (c.pos + c.n)), x + (c.pos + base + ((txt E c.id).length : Int) - (c.pos + c.n)), true)) = (x + (base + ((txt E c.id).length - c.n)), x + (base + ((txt E c.id).length - c.n)), true)
          have e2 : x + (c.pos + base + ((txt E c.id).length : Int) - (c.pos + c.n)) = x + (base + ((txt E c.id).length - c.n)) := by omega
          rw [if_neg h7, e2]
        | cons a T =>
          rw [List.getLast?_cons_cons]
          cases hL : (a :: T).getLast? with
          | none => exact absurd (List.getLast?_eq_none_iff.1 hL) (by simp)
          | some m => rfl
/-- Where an anchor goes: its offset, whether its letter is kept. -/
def ancF (M : List Mv) (nl len x : Int) (right : Bool) : Int × Bool :=
  if right then (if x = len then (nl, true) else ((letG 0 M x).2.1, (letG 0 M x).2.2))
  else if x = 0 then (0, true) else (if (letG 0 M (x - 1)).2.2 then (letG 0 M (x - 1)).1 + 1 else (letG 0 M (x - 1)).1, (letG 0 M (x - 1)).2.2)
end M
end Go.Proofs.Ytplccefjljdjnaa
