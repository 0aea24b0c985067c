/- Balanced texts: what a Pair of them is; how deep they are. No walk. -/
import Derived.Test.YtpjcfepngjpfbaaRuleP
namespace Go.Proofs.Ytpjcfepngjpfbaa
open Go.RowKit
namespace M
/-- An entry's depth and balance are its rule's. -/
def DeOk (E : List En) (e : En) : Prop := (e.ru.kind = 1 → e.depth = 0 ∧ e.even = true) ∧
  (e.ru.kind = 2 → e.depth = 1 + max (entAt E e.ru.left).depth (entAt E e.ru.right).depth ∧ e.even = ((entAt E e.ru.left).even && (entAt E e.ru.right).even && decide (-1 ≤ ((entAt E e.ru.left).depth : Int) - (entAt E e.ru.right).depth) && decide (((entAt E e.ru.left).depth : Int) - (entAt E e.ru.right).depth ≤ 1))) ∧
  (e.ru.kind = 3 → e.even = false)
inductive WfD : List En → Prop
  | nil : WfD []
  | snoc {E : List En} {e : En} : WfD E → OkEn E e → DeOk E e → WfD (E ++ [e])
theorem WfD.wf {E : List En} (h : WfD E) : Wf E := by
  induction h with
  | nil => exact .nil
  | snoc _ h2 _ ih => exact .snoc ih h2
/-- E2 is E, grown. -/
def Ext (E E2 : List En) : Prop := ∃ X, E2 = E ++ X
theorem Ext.refl (E : List En) : Ext E E := ⟨[], by simp⟩
theorem Ext.trans {A B C : List En} (h : Ext A B) (k : Ext B C) : Ext A C := by
  obtain ⟨X, rfl⟩ := h
  obtain ⟨Y, rfl⟩ := k
  exact ⟨X ++ Y, by rw [List.append_assoc]⟩
theorem Ext.le {A B : List En} (h : Ext A B) : A.length ≤ B.length := by
  obtain ⟨X, rfl⟩ := h; simp
theorem Ext.ent {A B : List En} (h : Ext A B) {i : Nat} (hi : i ≤ A.length) : entAt B i = entAt A i := by
  obtain ⟨X, rfl⟩ := h
  unfold entAt
  by_cases h0 : i = 0
  · rw [if_pos h0, if_pos h0]
  · rw [if_neg h0, if_neg h0, List.getElem?_append_left (by omega)]
theorem txt_grow : ∀ (X A : List En) {i : Nat}, i ≤ A.length → txt (A ++ X) i = txt A i
  | [], A, i, _ => by rw [List.append_nil]
  | e :: X, A, i, hi => by
    have h := txt_grow X (A ++ [e]) (i := i) (by simp; omega)
    rw [List.append_assoc] at h
    rw [show A ++ e :: X = A ++ ([e] ++ X) from rfl, h, txt_snoc hi]
theorem Ext.txt {A B : List En} (h : Ext A B) {i : Nat} (hi : i ≤ A.length) : txt B i = txt A i := by
  obtain ⟨X, rfl⟩ := h
  exact txt_grow X A hi
theorem addF_ext (E : List En) (e : En) : Ext E (addF E e).1 := by
  unfold addF
  split
  · exact ⟨[e], rfl⟩
  · exact Ext.refl _
theorem DeOk.ext {A B : List En} {e : En} (h : DeOk A e) (hx : Ext A B) (ho : OkEn A e) : DeOk B e := by
  refine ⟨h.1, fun hk => ?_, h.2.2⟩
  rcases ho.kind with ⟨a, -⟩ | ⟨-, -, -, a, -, b, -⟩ | ⟨a, -⟩
  · omega
  · rw [hx.ent a, hx.ent b]; exact h.2.1 hk
  · omega
theorem WfD.at {E : List En} (h : WfD E) : ∀ i, 0 < i → i ≤ E.length → DeOk E (entAt E i) := by
  induction h with
  | nil => intro i h1 h2; simp at h2; omega
  | @snoc E e hE ho hd ih =>
    intro i h1 h2
    rw [List.length_append, List.length_singleton] at h2
    have hx : Ext E (E ++ [e]) := ⟨[e], rfl⟩
    by_cases hi : i ≤ E.length
    · rw [hx.ent hi]
      have hr := hE.wf.rule i h1 hi
      refine ⟨(ih i h1 hi).1, fun hk => ?_, (ih i h1 hi).2.2⟩
      rcases hr.cases with ⟨a, -⟩ | ⟨-, -, -, a, -, b, -⟩ | ⟨a, -⟩
      · omega
      · rw [hx.ent (by omega), hx.ent (by omega)]; exact (ih i h1 hi).2.1 hk
      · omega
    · obtain rfl : i = E.length + 1 := by omega
      rw [entAt_last]
      exact hd.ext hx ho
theorem fid_entry {E : List En} {r : Ru} (hf : fid r 1 E ≠ 0) : 0 < fid r 1 E ∧ fid r 1 E ≤ E.length ∧ (entAt E (fid r 1 E)).ru = r := by
  obtain ⟨j, e', h1, h2, h3⟩ := fid_le hf
  have hj := (List.getElem?_eq_some_iff.1 h2).1
  refine ⟨by omega, by omega, ?_⟩
  unfold entAt
  rw [if_neg (by omega), show fid r 1 E - 1 = j by omega, h2]
  exact h3
/-- An entry that is laid, or was there. -/
theorem addF_at {E : List En} (h : WfD E) {e : En} (ho : OkEn E e) (hd : DeOk E e) : WfD (addF E e).1 ∧ Ext E (addF E e).1 ∧ (addF E e).1.length ≤ E.length + 1 ∧ 0 < (addF E e).2 ∧ (addF E e).2 ≤ (addF E e).1.length ∧ (entAt (addF E e).1 (addF E e).2).ru = e.ru := by
  unfold addF
  by_cases hf : fid e.ru 1 E = 0
  · rw [if_pos hf]
    exact ⟨.snoc h ho hd, ⟨[e], rfl⟩, by simp, by simp, by simp, by rw [entAt_last]⟩
  · rw [if_neg hf]
    obtain ⟨a, b, c⟩ := fid_entry hf
    exact ⟨h, Ext.refl _, by simp, a, b, c⟩
theorem letE_de (E : List En) (b : Nat) : DeOk E (letE b) := by
  refine ⟨fun _ => ⟨rfl, rfl⟩, fun h => ?_, fun h => ?_⟩
  · have h' : (1 : Nat) = 2 := h
    omega
  · have h' : (1 : Nat) = 3 := h
    omega
theorem pairE_de (E : List En) (l r : Nat) : DeOk E (pairE E l r) := by
  refine ⟨fun h => ?_, fun _ => ⟨rfl, rfl⟩, fun h => ?_⟩
  · have h' : (2 : Nat) = 1 := h
    omega
  · have h' : (2 : Nat) = 3 := h
    omega
/-- A balanced text, with its depth. -/
structure Bal (E : List En) (i : Nat) (t : List Nat) (d : Nat) : Prop where
  pos : 0 < i
  le : i ≤ E.length
  txt : txt E i = t
  even : (entAt E i).even = true
  depth : (entAt E i).depth = d
theorem Bal.ext {A B : List En} {i d : Nat} {t : List Nat} (h : Bal A i t d) (hx : Ext A B) : Bal B i t d :=
  ⟨h.pos, Nat.le_trans h.le hx.le, by rw [hx.txt h.le]; exact h.txt, by rw [hx.ent h.le]; exact h.even, by rw [hx.ent h.le]; exact h.depth⟩
theorem let_bal {E : List En} (h : WfD E) {b : Nat} (hb : b < 256) : WfD (addF E (letE b)).1 ∧ Ext E (addF E (letE b)).1 ∧ (addF E (letE b)).1.length ≤ E.length + 1 ∧ Bal (addF E (letE b)).1 (addF E (letE b)).2 [b] 0 := by
  obtain ⟨a1, a2, a3, a4, a5, a6⟩ := addF_at h (letE_ok E hb) (letE_de E b)
  refine ⟨a1, a2, a3, a4, a5, ?_, ?_, ?_⟩
  · rcases (a1.wf.rule _ a4 a5).cases with ⟨-, -, -, -, -, g⟩ | ⟨g, -⟩ | ⟨g, -⟩
    · rw [g, a6]; rfl
    · rw [a6] at g; cases g
    · rw [a6] at g; cases g
  · exact ((a1.at _ a4 a5).1 (by rw [a6]; rfl)).2
  · exact ((a1.at _ a4 a5).1 (by rw [a6]; rfl)).1
theorem pair_bal {E : List En} (h : WfD E) {l r dl dr : Nat} {s t : List Nat} (hl : Bal E l s dl) (hr : Bal E r t dr) (hd : dl ≤ dr + 1 ∧ dr ≤ dl + 1) (hlen : s.length + t.length ≤ 1152921504606846976) :
    (pairF E l r).2.2 = 0 ∧ WfD (pairF E l r).1 ∧ Ext E (pairF E l r).1 ∧ (pairF E l r).1.length ≤ E.length + 1 ∧ Bal (pairF E l r).1 (pairF E l r).2.1 (s ++ t) (1 + max dl dr) := by
  have e1 : (entAt E l).w.len = s.length := by rw [(h.wf.get l hl.pos hl.le).1, hl.txt]; rfl
  have e2 : (entAt E r).w.len = t.length := by rw [(h.wf.get r hr.pos hr.le).1, hr.txt]; rfl
  have e : pairF E l r = ((addF E (pairE E l r)).1, (addF E (pairE E l r)).2, 0) := by
    unfold pairF
    rw [if_neg (by have := hl.pos; omega), if_neg (by have := hr.pos; omega), if_pos (by rw [e1, e2]; exact hlen)]
  rw [e]
  obtain ⟨a1, a2, a3, a4, a5, a6⟩ := addF_at h (pairE_ok h.wf hl.pos hr.pos hl.le hr.le (by rw [e1, e2]; exact hlen)) (pairE_de E l r)
  have hk : (entAt (addF E (pairE E l r)).1 (addF E (pairE E l r)).2).ru = ⟨2, 0, l, r, 0⟩ := a6
  obtain ⟨d1, d2⟩ := (a1.at _ a4 a5).2.1 (by rw [hk])
  rw [hk] at d1 d2
  dsimp only at d1 d2
  rw [a2.ent hl.le, a2.ent hr.le, hl.depth, hr.depth] at d1 d2
  rw [hl.even, hr.even] at d2
  refine ⟨rfl, a1, a2, a3, a4, a5, ?_, ?_, d1⟩
  · rcases (a1.wf.rule _ a4 a5).cases with ⟨g, -⟩ | ⟨-, -, -, -, -, -, -, g⟩ | ⟨g, -⟩
    · rw [hk] at g; cases g
    · rw [g, hk, a2.txt hl.le, a2.txt hr.le, hl.txt, hr.txt]
    · rw [hk] at g; cases g
  · rw [d2]
    have h1 : decide (-1 ≤ (dl : Int) - dr) = true := by simp; omega
    have h2 : decide ((dl : Int) - dr ≤ 1) = true := by simp; omega
    rw [h1, h2]; rfl
/-- How deep a text is halved. -/
def clg (n : Nat) : Nat := if n ≤ 1 then 0 else 1 + clg (n - n / 2)
termination_by n
decreasing_by omega
theorem clg_one {n : Nat} (h : n ≤ 1) : clg n = 0 := by rw [clg, if_pos h]
theorem clg_step {n : Nat} (h : 1 < n) : clg n = 1 + clg (n - n / 2) := by rw [clg, if_neg (by omega)]
theorem clg_mono : ∀ (n m : Nat), m ≤ n → clg m ≤ clg n := by
  intro n
  induction n using Nat.strongRecOn with
  | _ n ih =>
    intro m hm
    by_cases h1 : m ≤ 1
    · rw [clg_one h1]; exact Nat.zero_le _
    · rw [clg_step (by omega), clg_step (n := n) (by omega)]
      have := ih (n - n / 2) (by omega) (m - m / 2) (by omega)
      omega
theorem clg_near : ∀ (n : Nat), clg (n + 1) ≤ clg n + 1 := by
  intro n
  induction n using Nat.strongRecOn with
  | _ n ih =>
    by_cases h1 : n ≤ 1
    · rcases Nat.eq_zero_or_pos n with h0 | h0
      · subst h0; rw [clg_one (n := 0 + 1) (by omega)]; omega
      · obtain rfl : n = 1 := by omega
        rw [clg_step (by omega), clg_one (by omega)]; omega
    · rw [clg_step (n := n + 1) (by omega), clg_step (n := n) (by omega)]
      rcases Nat.mod_two_eq_zero_or_one n with h2 | h2
      · have e : n + 1 - (n + 1) / 2 = (n - n / 2) + 1 := by omega
        rw [e]
        have := ih (n - n / 2) (by omega)
        omega
      · have e : n + 1 - (n + 1) / 2 = n - n / 2 := by omega
        rw [e]; omega
end M
end Go.Proofs.Ytpjcfepngjpfbaa
namespace Go.Proofs.Ytpjcfepngjpfbaa
open Go.RowKit
namespace M
/-- A balanced text of depth 0 is a letter; any other one is a Pair. -/
theorem Bal.split {E : List En} (hE : WfD E) {i d : Nat} {t : List Nat} (h : Bal E i t d) (hd : 0 < d) :
    ∃ l r s1 t1 d1 d2, (entAt E i).ru = ⟨2, 0, l, r, 0⟩ ∧ Bal E l s1 d1 ∧ Bal E r t1 d2 ∧ t = s1 ++ t1 ∧ d = 1 + max d1 d2 ∧ d1 ≤ d2 + 1 ∧ d2 ≤ d1 + 1 := by
  have hdo := hE.at i h.pos h.le
  rcases (hE.wf.rule i h.pos h.le).cases with ⟨a, -⟩ | ⟨a, b, c1, c2, c3, c4, c5, c6⟩ | ⟨a, -⟩
  · have := (hdo.1 a).1
    rw [h.depth] at this; omega
  · obtain ⟨e1, e2⟩ := hdo.2.1 a
    rw [h.even] at e2
    rw [h.depth] at e1
    have e3 := e2.symm
    simp only [Bool.and_eq_true, decide_eq_true_eq] at e3
    obtain ⟨⟨⟨x1, x2⟩, x3⟩, x4⟩ := e3
    have hle := h.le
    refine ⟨(entAt E i).ru.left, (entAt E i).ru.right, M.txt E (entAt E i).ru.left, M.txt E (entAt E i).ru.right, (entAt E (entAt E i).ru.left).depth, (entAt E (entAt E i).ru.right).depth, ?_, ⟨c1, by omega, rfl, x1, rfl⟩, ⟨c3, by omega, rfl, x2, rfl⟩, ?_, e1, by omega, by omega⟩
    · generalize (entAt E i).ru = r at *
      obtain ⟨k, lt, l, r, tm⟩ := r
      dsimp only at *
      subst a b c5
      rfl
    · rw [← h.txt, c6]
  · have := hdo.2.2 a
    rw [h.even] at this; cases this
/-- The least length of a balanced text. -/
def lst : Nat → Nat × Nat
  | 0 => (1, 2)
  | d + 1 => ((lst d).2, (lst d).1 + (lst d).2)
theorem lst_mono1 (d : Nat) : (lst d).1 ≤ (lst d).2 := by
  cases d with
  | zero => decide
  | succ d => show (lst d).2 ≤ (lst d).1 + (lst d).2; omega
theorem lst_mono : ∀ (k d : Nat), (lst d).1 ≤ (lst (d + k)).1
  | 0, d => Nat.le_refl _
  | k + 1, d => Nat.le_trans (lst_mono k d) (show (lst (d + k)).1 ≤ (lst (d + k)).2 from lst_mono1 _)
theorem lst_two (d : Nat) : (lst (d + 2)).1 = (lst d).1 + (lst (d + 1)).1 := rfl
theorem Bal.least {E : List En} (hE : WfD E) : ∀ (d : Nat) {i : Nat} {t : List Nat}, Bal E i t d → (lst d).1 ≤ t.length := by
  intro d
  induction d using Nat.strongRecOn with
  | _ d ih =>
    intro i t h
    have hp := (hE.wf.get i h.pos h.le).2.2.1
    rw [h.txt] at hp
    match d, h, ih with
    | 0, _, _ => exact hp
    | 1, h, ih =>
      obtain ⟨l, r, s1, t1, d1, d2, -, hl, hr, rfl, hd, -⟩ := h.split hE (by omega)
      have p1 := (hE.wf.get l hl.pos hl.le).2.2.1
      have p2 := (hE.wf.get r hr.pos hr.le).2.2.1
      rw [hl.txt] at p1; rw [hr.txt] at p2
      rw [List.length_append]
      show 2 ≤ _; omega
    | d + 2, h, ih =>
      obtain ⟨l, r, s1, t1, d1, d2, -, hl, hr, rfl, hd, h1, h2⟩ := h.split hE (by omega)
      have i1 := ih d1 (by omega) hl
      have i2 := ih d2 (by omega) hr
      rw [List.length_append, lst_two]
      rcases Nat.le_total d1 d2 with g | g
      · obtain rfl : d2 = d + 1 := by omega
        have := lst_mono (d1 - d) d
        rw [show d + (d1 - d) = d1 by omega] at this
        omega
      · obtain rfl : d1 = d + 1 := by omega
        have := lst_mono (d2 - d) d
        rw [show d + (d2 - d) = d2 by omega] at this
        omega
theorem lst_87 : 1152921504606846976 < (lst 87).1 := by decide +kernel
/-- No text is deeper. -/
theorem Bal.deep {E : List En} (hE : WfD E) {i d : Nat} {t : List Nat} (h : Bal E i t d) : d ≤ 86 := by
  have h1 := h.least hE
  have h2 := (hE.wf.get i h.pos h.le).2.1
  rw [h.txt] at h2
  rcases Nat.lt_or_ge d 87 with g | g
  · omega
  · have := lst_mono (d - 87) 87
    rw [show 87 + (d - 87) = d by omega] at this
    have := lst_87
    omega
theorem Bal.len {E : List En} (hE : WfD E) {i d : Nat} {t : List Nat} (h : Bal E i t d) : t.length ≤ 1152921504606846976 ∧ 0 < t.length := by
  have h2 := hE.wf.get i h.pos h.le
  rw [h.txt] at h2
  exact ⟨h2.2.1, h2.2.2.1⟩
/-- The text of the empty ID is balanced, too. -/
structure Bal0 (E : List En) (i : Nat) (t : List Nat) : Prop where
  le : i ≤ E.length
  txt : txt E i = t
  even : (entAt E i).even = true
theorem Bal.zero {E : List En} {i d : Nat} {t : List Nat} (h : Bal E i t d) : Bal0 E i t := ⟨h.le, h.txt, h.even⟩
theorem Bal0.bal {E : List En} {i : Nat} {t : List Nat} (h : Bal0 E i t) (h0 : 0 < i) : Bal E i t (entAt E i).depth := ⟨h0, h.le, h.txt, h.even, rfl⟩
theorem Bal0.ext {A B : List En} {i : Nat} {t : List Nat} (h : Bal0 A i t) (hx : Ext A B) : Bal0 B i t := ⟨Nat.le_trans h.le hx.le, by rw [hx.txt h.le]; exact h.txt, by rw [hx.ent h.le]; exact h.even⟩
end M
end Go.Proofs.Ytpjcfepngjpfbaa
