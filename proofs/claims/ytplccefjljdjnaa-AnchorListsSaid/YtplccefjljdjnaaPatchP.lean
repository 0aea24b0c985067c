/- Changes of a text: what Check and Length answer. No walk. -/
import Derived.Test.YtplccefjljdjnaaDepP
namespace Go.Proofs.Ytplccefjljdjnaa
open Go.RowKit
namespace M
structure Chg where
  pos : Int
  n : Int
  id : Nat
def maxL : Int := 1152921504606846976
/-- Whether a range lies within a length. -/
def rngB (f n len : Int) : Bool := decide (0 ≤ len) && decide (len ≤ maxL) && decide (0 ≤ f) && decide (0 ≤ n) && decide (f ≤ len) && decide (n ≤ len - f)
theorem rngB_iff {f n len : Int} : rngB f n len = true ↔ 0 ≤ len ∧ len ≤ maxL ∧ 0 ≤ f ∧ 0 ≤ n ∧ f ≤ len ∧ n ≤ len - f := by
  unfold rngB
  simp only [Bool.and_eq_true, decide_eq_true_eq]
  constructor
  · rintro ⟨⟨⟨⟨⟨a, b⟩, c⟩, d⟩, e⟩, f⟩; exact ⟨a, b, c, d, e, f⟩
  · rintro ⟨a, b, c, d, e, f⟩; exact ⟨⟨⟨⟨⟨a, b⟩, c⟩, d⟩, e⟩, f⟩
/-- A change in its place. -/
def chgOk (len last : Int) (c : Chg) : Bool := rngB c.pos c.n len && !decide (c.pos ≤ last) && !(decide (c.n = 0) && decide (c.id = 0))
/-- The end of the change before. -/
def endF (last : Int) : List Chg → Int
  | [] => last
  | c :: L => endF (c.pos + c.n) L
def formF (len last : Int) : List Chg → Bool
  | [] => true
  | c :: L => chgOk len last c && formF len (c.pos + c.n) L
theorem formF_snoc (len : Int) : ∀ (L : List Chg) (last : Int) (c : Chg), formF len last (L ++ [c]) = (formF len last L && chgOk len (endF last L) c)
  | [], last, c => by simp [formF, endF]
  | a :: L, last, c => by
    show (chgOk len last a && formF len (a.pos + a.n) (L ++ [c])) = (chgOk len last a && formF len (a.pos + a.n) L && chgOk len (endF (a.pos + a.n) L) c)
    rw [formF_snoc len L]
    simp only [Bool.and_assoc]
theorem endF_snoc : ∀ (L : List Chg) (last : Int) (c : Chg), endF last (L ++ [c]) = c.pos + c.n
  | [], _, _ => rfl
  | _ :: L, _, c => endF_snoc L _ c
theorem formF_take {len last : Int} {L : List Chg} (h : formF len last L = true) (i : Nat) : formF len last (L.take i) = true := by
  induction L generalizing last i with
  | nil => simpa using h
  | cons a L ih =>
    cases i with
    | zero => rfl
    | succ i =>
      simp only [formF, Bool.and_eq_true] at h
      simp only [List.take_succ_cons, formF, Bool.and_eq_true]
      exact ⟨h.1, ih h.2 i⟩
/-- How many letters are taken away. -/
def delF : List Chg → Int
  | [] => 0
  | c :: L => c.n + delF L
theorem delF_snoc : ∀ (L : List Chg) (c : Chg), delF (L ++ [c]) = delF L + c.n
  | [], c => by show c.n + 0 = 0 + c.n; omega
  | a :: L, c => by show a.n + delF (L ++ [c]) = a.n + delF L + c.n; rw [delF_snoc L]; omega
/-- How many letters are put in. -/
def insF (E : List En) : List Chg → Nat
  | [] => 0
  | c :: L => (txt E c.id).length + insF E L
theorem insF_snoc (E : List En) : ∀ (L : List Chg) (c : Chg), insF E (L ++ [c]) = insF E L + (txt E c.id).length
  | [], c => by show _ + 0 = 0 + _; omega
  | a :: L, c => by show _ + insF E (L ++ [c]) = _ + insF E L + _; rw [insF_snoc E L]; omega
theorem form_bound {len : Int} (h0 : 0 ≤ len) : ∀ (L : List Chg) (last : Int), formF len last L = true → -1 ≤ last → last ≤ len → 0 ≤ delF L ∧ delF L + last ≤ endF last L + (if L = [] then 0 else 0) ∧ endF last L ≤ len ∧ last ≤ endF last L
  | [], last, _, h1, h2 => by simp [delF, endF]; exact h2
  | c :: L, last, h, h1, h2 => by
    simp only [formF, chgOk, Bool.and_eq_true, Bool.not_eq_true', decide_eq_false_iff_not] at h
    obtain ⟨⟨⟨h3, h4⟩, -⟩, h5⟩ := h
    obtain ⟨-, -, a, b, e, f⟩ := rngB_iff.1 h3
    obtain ⟨g1, g2, g3, g4⟩ := form_bound h0 L (c.pos + c.n) h5 (by omega) (by omega)
    simp only [ite_self] at g2 ⊢
    refine ⟨by show 0 ≤ c.n + delF L; omega, ?_, g3, by show last ≤ endF (c.pos + c.n) L; omega⟩
    show c.n + delF L + last ≤ endF (c.pos + c.n) L + 0
    omega
/-- Letters taken away lie in the text. -/
theorem del_le {len : Int} (h0 : 0 ≤ len) {L : List Chg} (h : formF len (-1) L = true) : 0 ≤ delF L ∧ delF L ≤ len := by
  cases L with
  | nil => exact ⟨Int.le_refl _, h0⟩
  | cons c L =>
    simp only [formF, chgOk, Bool.and_eq_true, Bool.not_eq_true', decide_eq_false_iff_not] at h
    obtain ⟨⟨⟨h3, h4⟩, -⟩, h5⟩ := h
    obtain ⟨-, -, a, b, e, f⟩ := rngB_iff.1 h3
    obtain ⟨g1, g2, g3, g4⟩ := form_bound h0 L (c.pos + c.n) h5 (by omega) (by omega)
    simp only [ite_self] at g2
    show 0 ≤ c.n + delF L ∧ c.n + delF L ≤ len
    omega
/-- What Check answers: an error's number. -/
def chkF (len : Int) (L : List Chg) : Int := if ¬ (0 ≤ len ∧ len ≤ maxL) then 1 else if formF len (-1) L then 0 else 4
/-- What Length answers. -/
def lngF (E : List En) (len : Int) (L : List Chg) : Int × Int :=
  if chkF len L ≠ 0 then (0, chkF len L) else if len - delF L + insF E L ≤ maxL then (len - delF L + insF E L, 0) else (0, 2)
/-- The texts are known and balanced. -/
def Txs (E : List En) (L : List Chg) : Prop := ∀ c ∈ L, c.id ≤ E.length ∧ (entAt E c.id).even = true
theorem insF_take_le (E : List En) (L : List Chg) (i : Nat) : insF E (L.take i) ≤ insF E L := by
  induction L generalizing i with
  | nil => simp [insF]
  | cons a L ih =>
    cases i with
    | zero => exact Nat.zero_le _
    | succ i => rw [List.take_succ_cons]; show _ + insF E (L.take i) ≤ _ + insF E L; have := ih i; omega
theorem take_snoc {α : Type} {L : List α} {i : Nat} (h : i < L.length) : L.take (i + 1) = L.take i ++ [L[i]] := by
  rw [List.take_add_one, List.getElem?_eq_getElem h]; rfl
end M
end Go.Proofs.Ytplccefjljdjnaa
