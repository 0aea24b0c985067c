/- What a store knows of depths and balance; a store that has grown. No walk.
Changes of a text: what Check and Length answer. No walk.
The moves of a patch, and where they lead. No walk.
Balanced texts: what a Pair of them is; how deep they are. No walk. -/
import Derived.Test.YtplccefjljdjnaaSop
set_option linter.unusedVariables false
set_option linter.unusedSimpArgs false
namespace Go.Proofs.Ytplccefjljdjnaa
open Go.RowKit
namespace M
/-- An entry's depth and balance are its rule's. -/
def DeOk (E : List En) (e : En) : Prop := (e.ru.kind = 1 → e.depth = 0 ∧ e.even = true) ∧
  (e.ru.kind = 2 → e.depth = 1 + max (entAt E e.ru.left).depth (entAt E e.ru.right).depth ∧ e.even = ((entAt E e.ru.left).even && (entAt E e.ru.right).even && decide (-1 ≤ ((entAt E e.ru.left).depth : Int) - (entAt E e.ru.right).depth) && decide (((entAt E e.ru.left).depth : Int) - (entAt E e.ru.right).depth ≤ 1))) ∧
  (e.ru.kind = 3 → e.even = false)
inductive WfD : List En → Prop
  | nil : WfD []
  | snoc {E : List En} {e : En} : WfD E → OkEn E e → DeOk E e → WfD (E ++ [e])
theorem WfD.wf {E : List En} (h : WfD E) : Wf E := by
  induction h with
  | nil => exact .nil
  | snoc _ h2 _ ih => exact .snoc ih h2
/-- E2 is E, grown. -/
def Ext (E E2 : List En) : Prop := ∃ X, E2 = E ++ X
theorem Ext.refl (E : List En) : Ext E E := ⟨[], by simp⟩
theorem Ext.trans {A B C : List En} (h : Ext A B) (k : Ext B C) : Ext A C := by
  obtain ⟨X, rfl⟩ := h
  obtain ⟨Y, rfl⟩ := k
  exact ⟨X ++ Y, by rw [List.append_assoc]⟩
theorem Ext.le {A B : List En} (h : Ext A B) : A.length ≤ B.length := by
  obtain ⟨X, rfl⟩ := h; simp
theorem Ext.ent {A B : List En} (h : Ext A B) {i : Nat} (hi : i ≤ A.length) : entAt B i = entAt A i := by
  obtain ⟨X, rfl⟩ := h
  unfold entAt
  by_cases h0 : i = 0
  · rw [if_pos h0, if_pos h0]
  · rw [if_neg h0, if_neg h0, List.getElem?_append_left (by omega)]
theorem txt_grow : ∀ (X A : List En) {i : Nat}, i ≤ A.length → txt (A ++ X) i = txt A i
  | [], A, i, _ => by rw [List.append_nil]
  | e :: X, A, i, hi => by
    have h := txt_grow X (A ++ [e]) (i := i) (by simp; omega)
    rw [List.append_assoc] at h
    rw [show A ++ e :: X = A ++ ([e] ++ X) from rfl, h, txt_snoc hi]
theorem Ext.txt {A B : List En} (h : Ext A B) {i : Nat} (hi : i ≤ A.length) : txt B i = txt A i := by
  obtain ⟨X, rfl⟩ := h
  exact txt_grow X A hi
theorem addF_ext (E : List En) (e : En) : Ext E (addF E e).1 := by
  unfold addF
  split
  · exact ⟨[e], rfl⟩
  · exact Ext.refl _
theorem DeOk.ext {A B : List En} {e : En} (h : DeOk A e) (hx : Ext A B) (ho : OkEn A e) : DeOk B e := by
  refine ⟨h.1, fun hk => ?_, h.2.2⟩
  rcases ho.kind with ⟨a, -⟩ | ⟨-, -, -, a, -, b, -⟩ | ⟨a, -⟩
  · omega
  · rw [hx.ent a, hx.ent b]; exact h.2.1 hk
  · omega
theorem WfD.at {E : List En} (h : WfD E) : ∀ i, 0 < i → i ≤ E.length → DeOk E (entAt E i) := by
  induction h with
  | nil => intro i h1 h2; simp at h2; omega
  | @snoc E e hE ho hd ih =>
    intro i h1 h2
    rw [List.length_append, List.length_singleton] at h2
    have hx : Ext E (E ++ [e]) := ⟨[e], rfl⟩
    by_cases hi : i ≤ E.length
    · rw [hx.ent hi]
      have hr := hE.wf.rule i h1 hi
      refine ⟨(ih i h1 hi).1, fun hk => ?_, (ih i h1 hi).2.2⟩
      rcases hr.cases with ⟨a, -⟩ | ⟨-, -, -, a, -, b, -⟩ | ⟨a, -⟩
      · omega
      · rw [hx.ent (by omega), hx.ent (by omega)]; exact (ih i h1 hi).2.1 hk
      · omega
    · obtain rfl : i = E.length + 1 := by omega
      rw [entAt_last]
      exact hd.ext hx ho
theorem fid_entry {E : List En} {r : Ru} (hf : fid r 1 E ≠ 0) : 0 < fid r 1 E ∧ fid r 1 E ≤ E.length ∧ (entAt E (fid r 1 E)).ru = r := by
  obtain ⟨j, e', h1, h2, h3⟩ := fid_le hf
  have hj := (List.getElem?_eq_some_iff.1 h2).1
  refine ⟨by omega, by omega, ?_⟩
  unfold entAt
  rw [if_neg (by omega), show fid r 1 E - 1 = j by omega, h2]
  exact h3
/-- An entry that is laid, or was there. -/
theorem addF_at {E : List En} (h : WfD E) {e : En} (ho : OkEn E e) (hd : DeOk E e) : WfD (addF E e).1 ∧ Ext E (addF E e).1 ∧ (addF E e).1.length ≤ E.length + 1 ∧ 0 < (addF E e).2 ∧ (addF E e).2 ≤ (addF E e).1.length ∧ (entAt (addF E e).1 (addF E e).2).ru = e.ru := by
  unfold addF
  by_cases hf : fid e.ru 1 E = 0
  · rw [if_pos hf]
    exact ⟨.snoc h ho hd, ⟨[e], rfl⟩, by simp, by simp, by simp, by rw [entAt_last]⟩
  · rw [if_neg hf]
    obtain ⟨a, b, c⟩ := fid_entry hf
    exact ⟨h, Ext.refl _, by simp, a, b, c⟩
theorem letE_de (E : List En) (b : Nat) : DeOk E (letE b) := by
  refine ⟨fun _ => ⟨rfl, rfl⟩, fun h => ?_, fun h => ?_⟩
  · have h' : (1 : Nat) = 2 := h
    omega
  · have h' : (1 : Nat) = 3 := h
    omega
theorem pairE_de (E : List En) (l r : Nat) : DeOk E (pairE E l r) := by
  refine ⟨fun h => ?_, fun _ => ⟨rfl, rfl⟩, fun h => ?_⟩
  · have h' : (2 : Nat) = 1 := h
    omega
  · have h' : (2 : Nat) = 3 := h
    omega
/-- A balanced text, with its depth. -/
structure Bal (E : List En) (i : Nat) (t : List Nat) (d : Nat) : Prop where
  pos : 0 < i
  le : i ≤ E.length
  txt : txt E i = t
  even : (entAt E i).even = true
  depth : (entAt E i).depth = d
theorem Bal.ext {A B : List En} {i d : Nat} {t : List Nat} (h : Bal A i t d) (hx : Ext A B) : Bal B i t d :=
  ⟨h.pos, Nat.le_trans h.le hx.le, by rw [hx.txt h.le]; exact h.txt, by rw [hx.ent h.le]; exact h.even, by rw [hx.ent h.le]; exact h.depth⟩
theorem let_bal {E : List En} (h : WfD E) {b : Nat} (hb : b < 256) : WfD (addF E (letE b)).1 ∧ Ext E (addF E (letE b)).1 ∧ (addF E (letE b)).1.length ≤ E.length + 1 ∧ Bal (addF E (letE b)).1 (addF E (letE b)).2 [b] 0 := by
  obtain ⟨a1, a2, a3, a4, a5, a6⟩ := addF_at h (letE_ok E hb) (letE_de E b)
  refine ⟨a1, a2, a3, a4, a5, ?_, ?_, ?_⟩
  · rcases (a1.wf.rule _ a4 a5).cases with ⟨-, -, -, -, -, g⟩ | ⟨g, -⟩ | ⟨g, -⟩
    · rw [g, a6]; rfl
    · rw [a6] at g; cases g
    · rw [a6] at g; cases g
  · exact ((a1.at _ a4 a5).1 (by rw [a6]; rfl)).2
  · exact ((a1.at _ a4 a5).1 (by rw [a6]; rfl)).1
theorem pair_bal {E : List En} (h : WfD E) {l r dl dr : Nat} {s t : List Nat} (hl : Bal E l s dl) (hr : Bal E r t dr) (hd : dl ≤ dr + 1 ∧ dr ≤ dl + 1) (hlen : s.length + t.length ≤ 1152921504606846976) :
    (pairF E l r).2.2 = 0 ∧ WfD (pairF E l r).1 ∧ Ext E (pairF E l r).1 ∧ (pairF E l r).1.length ≤ E.length + 1 ∧ Bal (pairF E l r).1 (pairF E l r).2.1 (s ++ t) (1 + max dl dr) := by
  have e1 : (entAt E l).w.len = s.length := by rw [(h.wf.get l hl.pos hl.le).1, hl.txt]; rfl
  have e2 : (entAt E r).w.len = t.length := by rw [(h.wf.get r hr.pos hr.le).1, hr.txt]; rfl
  have e : pairF E l r = ((addF E (pairE E l r)).1, (addF E (pairE E l r)).2, 0) := by
    unfold pairF
    rw [if_neg (by have := hl.pos; omega), if_neg (by have := hr.pos; omega), if_pos (by rw [e1, e2]; exact hlen)]
  rw [e]
  obtain ⟨a1, a2, a3, a4, a5, a6⟩ := addF_at h (pairE_ok h.wf hl.pos hr.pos hl.le hr.le (by rw [e1, e2]; exact hlen)) (pairE_de E l r)
  have hk : (entAt (addF E (pairE E l r)).1 (addF E (pairE E l r)).2).ru = ⟨2, 0, l, r, 0⟩ := a6
  obtain ⟨d1, d2⟩ := (a1.at _ a4 a5).2.1 (by rw [hk])
  rw [hk] at d1 d2
  dsimp only at d1 d2
  rw [a2.ent hl.le, a2.ent hr.le, hl.depth, hr.depth] at d1 d2
  rw [hl.even, hr.even] at d2
  refine ⟨rfl, a1, a2, a3, a4, a5, ?_, ?_, d1⟩
  · rcases (a1.wf.rule _ a4 a5).cases with ⟨g, -⟩ | ⟨-, -, -, -, -, -, -, g⟩ | ⟨g, -⟩
    · rw [hk] at g; cases g
    · rw [g, hk, a2.txt hl.le, a2.txt hr.le, hl.txt, hr.txt]
    · rw [hk] at g; cases g
  · rw [d2]
    have h1 : decide (-1 ≤ (dl : Int) - dr) = true := by simp; omega
    have h2 : decide ((dl : Int) - dr ≤ 1) = true := by simp; omega
    rw [h1, h2]; rfl
/-- How deep a text is halved. -/
def clg (n : Nat) : Nat := if n ≤ 1 then 0 else 1 + clg (n - n / 2)
termination_by n
decreasing_by omega
theorem clg_one {n : Nat} (h : n ≤ 1) : clg n = 0 := by rw [clg, if_pos h]
theorem clg_step {n : Nat} (h : 1 < n) : clg n = 1 + clg (n - n / 2) := by rw [clg, if_neg (by omega)]
theorem clg_mono : ∀ (n m : Nat), m ≤ n → clg m ≤ clg n := by
  intro n
  induction n using Nat.strongRecOn with
  | _ n ih =>
    intro m hm
    by_cases h1 : m ≤ 1
    · rw [clg_one h1]; exact Nat.zero_le _
    · rw [clg_step (by omega), clg_step (n := n) (by omega)]
      have := ih (n - n / 2) (by omega) (m - m / 2) (by omega)
      omega
theorem clg_near : ∀ (n : Nat), clg (n + 1) ≤ clg n + 1 := by
  intro n
  induction n using Nat.strongRecOn with
  | _ n ih =>
    by_cases h1 : n ≤ 1
    · rcases Nat.eq_zero_or_pos n with h0 | h0
      · subst h0; rw [clg_one (n := 0 + 1) (by omega)]; omega
      · obtain rfl : n = 1 := by omega
        rw [clg_step (by omega), clg_one (by omega)]; omega
    · rw [clg_step (n := n + 1) (by omega), clg_step (n := n) (by omega)]
      rcases Nat.mod_two_eq_zero_or_one n with h2 | h2
      · have e : n + 1 - (n + 1) / 2 = (n - n / 2) + 1 := by omega
        rw [e]
        have := ih (n - n / 2) (by omega)
        omega
      · have e : n + 1 - (n + 1) / 2 = n - n / 2 := by omega
        rw [e]; omega
end M
end Go.Proofs.Ytplccefjljdjnaa
namespace Go.Proofs.Ytplccefjljdjnaa
open Go.RowKit
namespace M
structure Chg where
  pos : Int
  n : Int
  id : Nat
def maxL : Int := 1152921504606846976
/-- Whether a range lies within a length. -/
def rngB (f n len : Int) : Bool := decide (0 ≤ len) && decide (len ≤ maxL) && decide (0 ≤ f) && decide (0 ≤ n) && decide (f ≤ len) && decide (n ≤ len - f)
theorem rngB_iff {f n len : Int} : rngB f n len = true ↔ 0 ≤ len ∧ len ≤ maxL ∧ 0 ≤ f ∧ 0 ≤ n ∧ f ≤ len ∧ n ≤ len - f := by
  unfold rngB
  simp only [Bool.and_eq_true, decide_eq_true_eq]
  constructor
  · rintro ⟨⟨⟨⟨⟨a, b⟩, c⟩, d⟩, e⟩, f⟩; exact ⟨a, b, c, d, e, f⟩
  · rintro ⟨a, b, c, d, e, f⟩; exact ⟨⟨⟨⟨⟨a, b⟩, c⟩, d⟩, e⟩, f⟩
/-- A change in its place. -/
def chgOk (len last : Int) (c : Chg) : Bool := rngB c.pos c.n len && !decide (c.pos ≤ last) && !(decide (c.n = 0) && decide (c.id = 0))
/-- The end of the change before. -/
def endF (last : Int) : List Chg → Int
  | [] => last
  | c :: L => endF (c.pos + c.n) L
def formF (len last : Int) : List Chg → Bool
  | [] => true
  | c :: L => chgOk len last c && formF len (c.pos + c.n) L
theorem formF_snoc (len : Int) : ∀ (L : List Chg) (last : Int) (c : Chg), formF len last (L ++ [c]) = (formF len last L && chgOk len (endF last L) c)
  | [], last, c => by simp [formF, endF]
  | a :: L, last, c => by
    show (chgOk len last a && formF len (a.pos + a.n) (L ++ [c])) = (chgOk len last a && formF len (a.pos + a.n) L && chgOk len (endF (a.pos + a.n) L) c)
    rw [formF_snoc len L]
    simp only [Bool.and_assoc]
theorem endF_snoc : ∀ (L : List Chg) (last : Int) (c : Chg), endF last (L ++ [c]) = c.pos + c.n
  | [], _, _ => rfl
  | _ :: L, _, c => endF_snoc L _ c
theorem formF_take {len last : Int} {L : List Chg} (h : formF len last L = true) (i : Nat) : formF len last (L.take i) = true := by
  induction L generalizing last i with
  | nil => simpa using h
  | cons a L ih =>
    cases i with
    | zero => rfl
    | succ i =>
      simp only [formF, Bool.and_eq_true] at h
      simp only [List.take_succ_cons, formF, Bool.and_eq_true]
      exact ⟨h.1, ih h.2 i⟩
/-- How many letters are taken away. -/
def delF : List Chg → Int
  | [] => 0
  | c :: L => c.n + delF L
theorem delF_snoc : ∀ (L : List Chg) (c : Chg), delF (L ++ [c]) = delF L + c.n
  | [], c => by show c.n + 0 = 0 + c.n; omega
  | a :: L, c => by show a.n + delF (L ++ [c]) = a.n + delF L + c.n; rw [delF_snoc L]; omega
/-- How many letters are put in. -/
def insF (E : List En) : List Chg → Nat
  | [] => 0
  | c :: L => (txt E c.id).length + insF E L
theorem insF_snoc (E : List En) : ∀ (L : List Chg) (c : Chg), insF E (L ++ [c]) = insF E L + (txt E c.id).length
  | [], c => by show _ + 0 = 0 + _; omega
  | a :: L, c => by show _ + insF E (L ++ [c]) = _ + insF E L + _; rw [insF_snoc E L]; omega
theorem form_bound {len : Int} (h0 : 0 ≤ len) : ∀ (L : List Chg) (last : Int), formF len last L = true → -1 ≤ last → last ≤ len → 0 ≤ delF L ∧ delF L + last ≤ endF last L + (if L = [] then 0 else 0) ∧ endF last L ≤ len ∧ last ≤ endF last L
  | [], last, _, h1, h2 => by simp [delF, endF]; exact h2
  | c :: L, last, h, h1, h2 => by
    simp only [formF, chgOk, Bool.and_eq_true, Bool.not_eq_true', decide_eq_false_iff_not] at h
    obtain ⟨⟨⟨h3, h4⟩, -⟩, h5⟩ := h
    obtain ⟨-, -, a, b, e, f⟩ := rngB_iff.1 h3
    obtain ⟨g1, g2, g3, g4⟩ := form_bound h0 L (c.pos + c.n) h5 (by omega) (by omega)
    simp only [ite_self] at g2 ⊢
    refine ⟨by show 0 ≤ c.n + delF L; omega, ?_, g3, by show last ≤ endF (c.pos + c.n) L; omega⟩
    show c.n + delF L + last ≤ endF (c.pos + c.n) L + 0
    omega
/-- Letters taken away lie in the text. -/
theorem del_le {len : Int} (h0 : 0 ≤ len) {L : List Chg} (h : formF len (-1) L = true) : 0 ≤ delF L ∧ delF L ≤ len := by
  cases L with
  | nil => exact ⟨Int.le_refl _, h0⟩
  | cons c L =>
    simp only [formF, chgOk, Bool.and_eq_true, Bool.not_eq_true', decide_eq_false_iff_not] at h
    obtain ⟨⟨⟨h3, h4⟩, -⟩, h5⟩ := h
    obtain ⟨-, -, a, b, e, f⟩ := rngB_iff.1 h3
    obtain ⟨g1, g2, g3, g4⟩ := form_bound h0 L (c.pos + c.n) h5 (by omega) (by omega)
    simp only [ite_self] at g2
    show 0 ≤ c.n + delF L ∧ c.n + delF L ≤ len
    omega
/-- What Check answers: an error's number. -/
def chkF (len : Int) (L : List Chg) : Int := if ¬ (0 ≤ len ∧ len ≤ maxL) then 1 else if formF len (-1) L then 0 else 4
/-- What Length answers. -/
def lngF (E : List En) (len : Int) (L : List Chg) : Int × Int :=
  if chkF len L ≠ 0 then (0, chkF len L) else if len - delF L + insF E L ≤ maxL then (len - delF L + insF E L, 0) else (0, 2)
/-- The texts are known and balanced. -/
def Txs (E : List En) (L : List Chg) : Prop := ∀ c ∈ L, c.id ≤ E.length ∧ (entAt E c.id).even = true
theorem insF_take_le (E : List En) (L : List Chg) (i : Nat) : insF E (L.take i) ≤ insF E L := by
  induction L generalizing i with
  | nil => simp [insF]
  | cons a L ih =>
    cases i with
    | zero => exact Nat.zero_le _
    | succ i => rw [List.take_succ_cons]; show _ + insF E (L.take i) ≤ _ + insF E L; have := ih i; omega
theorem take_snoc {α : Type} {L : List α} {i : Nat} (h : i < L.length) : L.take (i + 1) = L.take i ++ [L[i]] := by
  rw [List.take_add_one, List.getElem?_eq_getElem h]; rfl
end M
end Go.Proofs.Ytplccefjljdjnaa
namespace Go.Proofs.Ytplccefjljdjnaa
open Go.RowKit
namespace M
structure Mv where
  frm : Int
  to : Int
  nf : Int
  nt : Int
/-- The moves of changes, so many letters being more ahead of them. -/
def mvsF (E : List En) : Int → List Chg → List Mv
  | _, [] => []
  | more, c :: L => ⟨c.pos, c.pos + c.n, c.pos + more, c.pos + more + (txt E c.id).length⟩ :: mvsF E (more + ((txt E c.id).length - c.n)) L
theorem mvsF_len (E : List En) : ∀ (L : List Chg) (more : Int), (mvsF E more L).length = L.length
  | [], _ => rfl
  | c :: L, more => by show (mvsF E _ L).length + 1 = _; rw [mvsF_len E L]; rfl
/-- How many letters are more behind changes. -/
def moreF (E : List En) : Int → List Chg → Int
  | more, [] => more
  | more, c :: L => moreF E (more + ((txt E c.id).length - c.n)) L
theorem moreF_snoc (E : List En) : ∀ (L : List Chg) (more : Int) (c : Chg), moreF E more (L ++ [c]) = moreF E more L + ((txt E c.id).length - c.n)
  | [], _, _ => rfl
  | a :: L, more, c => moreF_snoc E L _ c
theorem moreF_eq (E : List En) : ∀ (L : List Chg) (more : Int), moreF E more L = more + insF E L - delF L
  | [], more => by show more = more + ((0 : Nat) : Int) - 0; omega
  | c :: L, more => by
    show moreF E _ L = more + (((txt E c.id).length + insF E L : Nat) : Int) - (c.n + delF L)
    rw [moreF_eq E L]; omega
theorem mvsF_snoc (E : List En) : ∀ (L : List Chg) (more : Int) (c : Chg), mvsF E more (L ++ [c]) = mvsF E more L ++ [⟨c.pos, c.pos + c.n, c.pos + moreF E more L, c.pos + moreF E more L + (txt E c.id).length⟩]
  | [], _, _ => rfl
  | a :: L, more, c => by
    show _ :: mvsF E _ (L ++ [c]) = _ :: (mvsF E _ L ++ _)
    rw [mvsF_snoc E L]; rfl
/-- The moves stand in order. -/
theorem mvsF_from {E : List En} {len : Int} : ∀ (L : List Chg) (last more : Int), formF len last L = true → ∀ m ∈ mvsF E more L, last < m.frm ∧ m.frm ≤ m.to
  | [], _, _, _, m, hm => by cases hm
  | c :: L, last, more, h, m, hm => by
    simp only [formF, chgOk, Bool.and_eq_true, Bool.not_eq_true', decide_eq_false_iff_not] at h
    obtain ⟨⟨⟨h3, h4⟩, -⟩, h5⟩ := h
    obtain ⟨-, -, a, b, e, f⟩ := rngB_iff.1 h3
    rcases List.mem_cons.1 hm with rfl | hm
    · exact ⟨by show last < c.pos; omega, by show c.pos ≤ c.pos + c.n; omega⟩
    · have := mvsF_from L _ _ h5 m hm
      exact ⟨by omega, this.2⟩
theorem mvsF_sorted {E : List En} {len : Int} : ∀ (L : List Chg) (last more : Int), formF len last L = true → (mvsF E more L).Pairwise (fun a b => a.to < b.frm ∧ a.frm ≤ b.frm)
  | [], _, _, _ => List.Pairwise.nil
  | c :: L, last, more, h => by
    simp only [formF, chgOk, Bool.and_eq_true, Bool.not_eq_true', decide_eq_false_iff_not] at h
    obtain ⟨⟨⟨h3, h4⟩, -⟩, h5⟩ := h
    obtain ⟨-, -, a, b, e, f⟩ := rngB_iff.1 h3
    refine List.Pairwise.cons (fun m hm => ?_) (mvsF_sorted L _ _ h5)
    have := (mvsF_from L _ _ h5 m hm).1
    exact ⟨this, by show c.pos ≤ m.frm; omega⟩
/-- Where a letter goes; nothing ahead of it: by so much. -/
def letG (base : Int) (M : List Mv) (x : Int) : Int × Int × Bool := match (M.takeWhile (fun m => decide (m.frm ≤ x))).getLast? with
  | none => (x + base, x + base, true)
  | some m => if x < m.to then (m.nf, m.nt, false) else (x + (m.nt - m.to), x + (m.nt - m.to), true)
theorem takeWhile_take {α : Type} {p : α → Bool} : ∀ {M : List α} {k : Nat}, k ≤ M.length → (∀ i (hi : i < M.length), i < k → p M[i] = true) → (∀ i (hi : i < M.length), k ≤ i → p M[i] = false) → M.takeWhile p = M.take k
  | [], k, _, _, _ => by simp
  | a :: M, 0, _, _, h2 => by
    have := h2 0 (by simp) (Nat.le_refl _)
    simp only [List.getElem_cons_zero] at this
    simp [List.takeWhile_cons, this]
  | a :: M, k + 1, hk, h1, h2 => by
    have h := h1 0 (by simp) (by omega)
    simp only [List.getElem_cons_zero] at h
    rw [List.takeWhile_cons, h, if_pos rfl, List.take_succ_cons, takeWhile_take (by simpa using hk) (fun i hi hik => by
      have := h1 (i + 1) (by simp; omega) (by omega)
      simpa using this) (fun i hi hik => by
      have := h2 (i + 1) (by simp; omega) (by omega)
      simpa using this)]
theorem takeWhile_none {M : List Mv} {x y : Int} (h : ∀ m ∈ M, y < m.frm) (hx : x ≤ y) : M.takeWhile (fun m => decide (m.frm ≤ x)) = [] := by
  cases M with
  | nil => rfl
  | cons a M =>
    rw [List.takeWhile_cons, if_neg]
    have := h a (List.mem_cons_self ..)
    simp; omega
/-- The reference's loop. -/
def mapF (E : List En) (x : Int) : Int → List Chg → Int × Int × Bool
  | shift, [] => (x + shift, x + shift, true)
  | shift, c :: L => if c.pos > x then (x + shift, x + shift, true) else if x < c.pos + c.n then (c.pos + shift, c.pos + shift + (txt E c.id).length, false) else mapF E x (shift + ((txt E c.id).length - c.n)) L
theorem letG_map {E : List En} {len x : Int} : ∀ (L : List Chg) (last base : Int), formF len last L = true → letG base (mvsF E base L) x = mapF E x base L
  | [], _, _, _ => rfl
  | c :: L, last, base, h => by
    have h0 := h
    simp only [formF, chgOk, Bool.and_eq_true, Bool.not_eq_true', decide_eq_false_iff_not] at h
    obtain ⟨⟨⟨h3, h4⟩, -⟩, h5⟩ := h
    unfold mapF
    by_cases h6 : c.pos > x
    · rw [if_pos h6]
      unfold letG
      have : (mvsF E base (c :: L)).takeWhile (fun m => decide (m.frm ≤ x)) = [] := by
        show List.takeWhile _ (_ :: _) = []
        rw [List.takeWhile_cons, if_neg]
        simp; omega
      rw [this]; rfl
    · rw [if_neg h6]
      have e1 : (mvsF E base (c :: L)).takeWhile (fun m => decide (m.frm ≤ x)) = ⟨c.pos, c.pos + c.n, c.pos + base, c.pos + base + (txt E c.id).length⟩ :: (mvsF E (base + ((txt E c.id).length - c.n)) L).takeWhile (fun m => decide (m.frm ≤ x)) := by
        show List.takeWhile _ (_ :: _) = _
        rw [List.takeWhile_cons, if_pos]
        simp; omega
      by_cases h7 : x < c.pos + c.n
      · rw [if_pos h7]
        unfold letG
        rw [e1, takeWhile_none (y := c.pos + c.n) (fun m hm => (mvsF_from L _ _ h5 m hm).1) (by omega)]
        show (if x < c.pos + c.n then _ else _) = _
        rw [if_pos h7]
        rfl
      · rw [if_neg h7, ← letG_map L _ _ h5]
        unfold letG
        rw [e1]
        cases hT : (mvsF E (base + ((txt E c.id).length - c.n)) L).takeWhile (fun m => decide (m.frm ≤ x)) with
        | nil =>
          show (if x < c.pos + c.n then (c.pos + base, c.pos + base + ((txt E c.id).length : Int), false) else (x + (c.pos + base + ((txt E c.id).length : Int) - (c.pos + c.n)), x + (c.pos + base + ((txt E c.id).length : Int) - (c.pos + c.n)), true)) = (x + (base + ((txt E c.id).length - c.n)), x + (base + ((txt E c.id).length - c.n)), true)
          have e2 : x + (c.pos + base + ((txt E c.id).length : Int) - (c.pos + c.n)) = x + (base + ((txt E c.id).length - c.n)) := by omega
          rw [if_neg h7, e2]
        | cons a T =>
          rw [List.getLast?_cons_cons]
          cases hL : (a :: T).getLast? with
          | none => exact absurd (List.getLast?_eq_none_iff.1 hL) (by simp)
          | some m => rfl
/-- Where an anchor goes: its offset, whether its letter is kept. -/
def ancF (M : List Mv) (nl len x : Int) (right : Bool) : Int × Bool :=
  if right then (if x = len then (nl, true) else ((letG 0 M x).2.1, (letG 0 M x).2.2))
  else if x = 0 then (0, true) else (if (letG 0 M (x - 1)).2.2 then (letG 0 M (x - 1)).1 + 1 else (letG 0 M (x - 1)).1, (letG 0 M (x - 1)).2.2)
end M
end Go.Proofs.Ytplccefjljdjnaa
namespace Go.Proofs.Ytplccefjljdjnaa
open Go.RowKit
namespace M
/-- A balanced text of depth 0 is a letter; any other one is a Pair. -/
theorem Bal.split {E : List En} (hE : WfD E) {i d : Nat} {t : List Nat} (h : Bal E i t d) (hd : 0 < d) :
    ∃ l r s1 t1 d1 d2, (entAt E i).ru = ⟨2, 0, l, r, 0⟩ ∧ Bal E l s1 d1 ∧ Bal E r t1 d2 ∧ t = s1 ++ t1 ∧ d = 1 + max d1 d2 ∧ d1 ≤ d2 + 1 ∧ d2 ≤ d1 + 1 := by
  have hdo := hE.at i h.pos h.le
  rcases (hE.wf.rule i h.pos h.le).cases with ⟨a, -⟩ | ⟨a, b, c1, c2, c3, c4, c5, c6⟩ | ⟨a, -⟩
  · have := (hdo.1 a).1
    rw [h.depth] at this; omega
  · obtain ⟨e1, e2⟩ := hdo.2.1 a
    rw [h.even] at e2
    rw [h.depth] at e1
    have e3 := e2.symm
    simp only [Bool.and_eq_true, decide_eq_true_eq] at e3
    obtain ⟨⟨⟨x1, x2⟩, x3⟩, x4⟩ := e3
    have hle := h.le
    refine ⟨(entAt E i).ru.left, (entAt E i).ru.right, M.txt E (entAt E i).ru.left, M.txt E (entAt E i).ru.right, (entAt E (entAt E i).ru.left).depth, (entAt E (entAt E i).ru.right).depth, ?_, ⟨c1, by omega, rfl, x1, rfl⟩, ⟨c3, by omega, rfl, x2, rfl⟩, ?_, e1, by omega, by omega⟩
    · generalize (entAt E i).ru = r at *
      obtain ⟨k, lt, l, r, tm⟩ := r
      dsimp only at *
      subst a b c5
      rfl
    · rw [← h.txt, c6]
  · have := hdo.2.2 a
    rw [h.even] at this; cases this
/-- The least length of a balanced text. -/
def lst : Nat → Nat × Nat
  | 0 => (1, 2)
  | d + 1 => ((lst d).2, (lst d).1 + (lst d).2)
theorem lst_mono1 (d : Nat) : (lst d).1 ≤ (lst d).2 := by
  cases d with
  | zero => decide
  | succ d => show (lst d).2 ≤ (lst d).1 + (lst d).2; omega
theorem lst_mono : ∀ (k d : Nat), (lst d).1 ≤ (lst (d + k)).1
  | 0, d => Nat.le_refl _
  | k + 1, d => Nat.le_trans (lst_mono k d) (show (lst (d + k)).1 ≤ (lst (d + k)).2 from lst_mono1 _)
theorem lst_two (d : Nat) : (lst (d + 2)).1 = (lst d).1 + (lst (d + 1)).1 := rfl
theorem Bal.least {E : List En} (hE : WfD E) : ∀ (d : Nat) {i : Nat} {t : List Nat}, Bal E i t d → (lst d).1 ≤ t.length := by
  intro d
  induction d using Nat.strongRecOn with
  | _ d ih =>
    intro i t h
    have hp := (hE.wf.get i h.pos h.le).2.2.1
    rw [h.txt] at hp
    match d, h, ih with
    | 0, _, _ => exact hp
    | 1, h, ih =>
      obtain ⟨l, r, s1, t1, d1, d2, -, hl, hr, rfl, hd, -⟩ := h.split hE (by omega)
      have p1 := (hE.wf.get l hl.pos hl.le).2.2.1
      have p2 := (hE.wf.get r hr.pos hr.le).2.2.1
      rw [hl.txt] at p1; rw [hr.txt] at p2
      rw [List.length_append]
      show 2 ≤ _; omega
    | d + 2, h, ih =>
      obtain ⟨l, r, s1, t1, d1, d2, -, hl, hr, rfl, hd, h1, h2⟩ := h.split hE (by omega)
      have i1 := ih d1 (by omega) hl
      have i2 := ih d2 (by omega) hr
      rw [List.length_append, lst_two]
      rcases Nat.le_total d1 d2 with g | g
      · obtain rfl : d2 = d + 1 := by omega
        have := lst_mono (d1 - d) d
        rw [show d + (d1 - d) = d1 by omega] at this
        omega
      · obtain rfl : d1 = d + 1 := by omega
        have := lst_mono (d2 - d) d
        rw [show d + (d2 - d) = d2 by omega] at this
        omega
theorem lst_87 : 1152921504606846976 < (lst 87).1 := by decide +kernel
/-- No text is deeper. -/
theorem Bal.deep {E : List En} (hE : WfD E) {i d : Nat} {t : List Nat} (h : Bal E i t d) : d ≤ 86 := by
  have h1 := h.least hE
  have h2 := (hE.wf.get i h.pos h.le).2.1
  rw [h.txt] at h2
  rcases Nat.lt_or_ge d 87 with g | g
  · omega
  · have := lst_mono (d - 87) 87
    rw [show 87 + (d - 87) = d by omega] at this
    have := lst_87
    omega
theorem Bal.len {E : List En} (hE : WfD E) {i d : Nat} {t : List Nat} (h : Bal E i t d) : t.length ≤ 1152921504606846976 ∧ 0 < t.length := by
  have h2 := hE.wf.get i h.pos h.le
  rw [h.txt] at h2
  exact ⟨h2.2.1, h2.2.2.1⟩
/-- The text of the empty ID is balanced, too. -/
structure Bal0 (E : List En) (i : Nat) (t : List Nat) : Prop where
  le : i ≤ E.length
  txt : txt E i = t
  even : (entAt E i).even = true
theorem Bal.zero {E : List En} {i d : Nat} {t : List Nat} (h : Bal E i t d) : Bal0 E i t := ⟨h.le, h.txt, h.even⟩
theorem Bal0.bal {E : List En} {i : Nat} {t : List Nat} (h : Bal0 E i t) (h0 : 0 < i) : Bal E i t (entAt E i).depth := ⟨h0, h.le, h.txt, h.even, rfl⟩
theorem Bal0.ext {A B : List En} {i : Nat} {t : List Nat} (h : Bal0 A i t) (hx : Ext A B) : Bal0 B i t := ⟨Nat.le_trans h.le hx.le, by rw [hx.txt h.le]; exact h.txt, by rw [hx.ent h.le]; exact h.even⟩
end M
end Go.Proofs.Ytplccefjljdjnaa
