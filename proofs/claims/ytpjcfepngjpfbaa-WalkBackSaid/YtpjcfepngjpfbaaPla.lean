/- The parts of a range of a text. No walk.
What a store knows of depths and balance; a store that has grown. No walk.
Balanced texts: what a Pair of them is; how deep they are. No walk.
Stacks of copies of texts: what they derive; a list's last element turned in place. No walk.
Stacks of copies of texts, read from below: what precedes an offset. No walk. -/
import Derived.Test.YtpjcfepngjpfbaaSop
import Derived.Test.YtpjcfepngjpfbaaCom
set_option linter.unusedVariables false
set_option linter.unusedSimpArgs false
namespace Go.Proofs.Ytpjcfepngjpfbaa
open Go.RowKit
namespace M
/-- A range of the text of a number, so many times. -/
structure Sp where
  id : Nat
  frm : Nat
  n : Nat
  times : Nat
def denS (E : List En) (s : Sp) : List Nat := rep s.times (((txt E s.id).drop s.frm).take s.n)
/-- What a stack of ranges derives: the last one first. -/
def den (E : List En) : List Sp → List Nat
  | [] => []
  | s :: L => den E L ++ denS E s
theorem den_snoc (E : List En) (L : List Sp) (s : Sp) : den E (L ++ [s]) = denS E s ++ den E L := by
  induction L with
  | nil => show den E [] ++ denS E s = denS E s ++ []; rw [List.append_nil]; rfl
  | cons a L ih => show den E (L ++ [s]) ++ denS E a = denS E s ++ (den E L ++ denS E a); rw [ih, List.append_assoc]
structure OkS (E : List En) (s : Sp) : Prop where
  pos : 0 < s.id
  le : s.id ≤ E.length
  rng : s.frm + s.n ≤ (txt E s.id).length
  one : s.n < (txt E s.id).length → s.times ≤ 1
def mu : List Sp → Nat
  | [] => 0
  | s :: L => 4 ^ s.id + mu L
theorem mu_append (L M : List Sp) : mu (L ++ M) = mu L + mu M := by
  induction L with
  | nil => simp [mu]
  | cons a L ih => show 4 ^ a.id + mu (L ++ M) = 4 ^ a.id + mu L + mu M; rw [ih]; omega
theorem mu_small {L : List Sp} {i : Nat} (h : ∀ s ∈ L, s.id < i) (hl : L.length ≤ 3) (h0 : 0 < i) : mu L < 4 ^ i := by
  have hp : ∀ s ∈ L, 4 ^ s.id ≤ 4 ^ (i - 1) := fun s hs => Nat.pow_le_pow_right (by omega) (by have := h s hs; omega)
  have hm : mu L ≤ L.length * 4 ^ (i - 1) := by
    clear h hl
    induction L with
    | nil => simp [mu]
    | cons a L ih =>
      have h1 := hp a (List.mem_cons_self ..)
      have h2 := ih (fun s hs => hp s (List.mem_cons_of_mem _ hs))
      show 4 ^ a.id + mu L ≤ (L.length + 1) * 4 ^ (i - 1)
      rw [Nat.succ_mul]; omega
  have e : 4 ^ i = 4 * 4 ^ (i - 1) := by
    rw [← Nat.pow_succ']; congr 1; omega
  have hpos : 0 < 4 ^ (i - 1) := Nat.pow_pos (by omega)
  have : L.length * 4 ^ (i - 1) ≤ 3 * 4 ^ (i - 1) := Nat.mul_le_mul_right _ hl
  omega
theorem take_drop_cat (s t : List Nat) (f n : Nat) : ((s ++ t).drop f).take n = (s.drop (min f s.length)).take (min (s.length - f) n) ++ (t.drop (f - s.length)).take (n - min (s.length - f) n) := by
  apply List.ext_getElem?
  intro j
  rw [List.getElem?_take, List.getElem?_drop, List.getElem?_append, List.getElem?_append, List.length_take, List.length_drop, List.getElem?_take, List.getElem?_take, List.getElem?_drop, List.getElem?_drop]
  by_cases h : f ≤ s.length
  · rw [Nat.min_eq_left h, Nat.sub_eq_zero_of_le h]
    by_cases hn : j < n
    · rw [if_pos hn]
      by_cases hj : f + j < s.length
      · rw [if_pos hj, if_pos (by omega), if_pos (by omega)]
      · rw [if_neg hj, if_neg (by omega), if_pos (by omega)]
        congr 1; omega
    · rw [if_neg hn]
      by_cases hj : j < min (min (s.length - f) n) (s.length - f)
      · omega
      · rw [if_neg hj, if_neg (by omega)]
  · rw [Nat.min_eq_right (show s.length ≤ f by omega), Nat.sub_eq_zero_of_le (show s.length ≤ f by omega), Nat.sub_self, Nat.zero_min, Nat.sub_zero, Nat.zero_min, if_neg (by omega : ¬ f + j < s.length), if_neg (by omega : ¬ j < 0), Nat.sub_zero]
    by_cases hn : j < n
    · rw [if_pos hn, if_pos hn]; congr 1; omega
    · rw [if_neg hn, if_neg hn]
theorem rep_drop (t : List Nat) (q m f : Nat) (hf : f ≤ t.length) : (rep (q + 1 + m) t).drop (q * t.length + f) = t.drop f ++ rep m t := by
  have e1 : rep (q + 1 + m) t = rep q t ++ (t ++ rep m t) := by rw [show q + 1 + m = q + (1 + m) by omega, rep_add, rep_add, rep_one]
  have e2 : (rep q t ++ (t ++ rep m t)).drop (q * t.length) = t ++ rep m t := by
    have h := rep_length q t
    rw [← h]; exact List.drop_left
  rw [e1, ← List.drop_drop, e2, List.drop_append_of_le_length hf]
theorem rep_take (t : List Nat) (a b m : Nat) (h0 : 0 < t.length) (hb : b ≤ t.length) (h : a * t.length + b ≤ m * t.length) : (rep m t).take (a * t.length + b) = rep a t ++ t.take b := by
  have ham : a ≤ m := by
    rcases Nat.lt_or_ge m a with h1 | h1
    · have := Nat.mul_le_mul_right t.length (show m + 1 ≤ a by omega)
      rw [Nat.succ_mul] at this
      omega
    · exact h1
  obtain ⟨k, rfl⟩ : ∃ k, m = a + k := ⟨m - a, by omega⟩
  rw [rep_add, List.take_append, rep_length, List.take_of_length_le (by rw [rep_length]; omega), Nat.add_sub_cancel_left]
  congr 1
  cases k with
  | zero =>
    have : b = 0 := by rw [Nat.add_zero] at h; omega
    subst this
    simp
  | succ k => rw [rep_succ, List.take_append_of_le_length hb]
/-- A range of a repeated text that lies in one copy. -/
theorem rep_in (t : List Nat) (k f n : Nat) (h0 : 0 < t.length) (h : f + n ≤ k * t.length) (hn : 0 < n) (h1 : f % t.length + n ≤ t.length) : ((rep k t).drop f).take n = (t.drop (f % t.length)).take n := by
  have hq : f / t.length < k := by rw [Nat.div_lt_iff_lt_mul h0]; omega
  obtain ⟨m, rfl⟩ : ∃ m, k = f / t.length + 1 + m := ⟨k - (f / t.length + 1), by omega⟩
  have e : f / t.length * t.length + f % t.length = f := by rw [Nat.mul_comm]; exact Nat.div_add_mod f t.length
  have hd := rep_drop t (f / t.length) m (f % t.length) (Nat.le_of_lt (Nat.mod_lt _ h0))
  rw [e] at hd
  rw [hd, List.take_append_of_le_length (by rw [List.length_drop]; omega)]
/-- One that does not: the end of a copy, whole copies, the beginning of a copy. -/
theorem rep_out (t : List Nat) (k f n : Nat) (h0 : 0 < t.length) (h : f + n ≤ k * t.length) (h1 : t.length < f % t.length + n) :
    ((rep k t).drop f).take n = (t.drop (f % t.length)).take ((t.length - f % t.length) % t.length) ++ (rep ((n - (t.length - f % t.length) % t.length) / t.length) t ++ t.take ((n - (t.length - f % t.length) % t.length) % t.length)) ∧ (t.length - f % t.length) % t.length ≤ n := by
  have hfm := Nat.mod_lt f h0
  have hq : f / t.length < k := by rw [Nat.div_lt_iff_lt_mul h0]; omega
  obtain ⟨m, rfl⟩ : ∃ m, k = f / t.length + 1 + m := ⟨k - (f / t.length + 1), by omega⟩
  have e : f / t.length * t.length + f % t.length = f := by rw [Nat.mul_comm]; exact Nat.div_add_mod f t.length
  have hd := rep_drop t (f / t.length) m (f % t.length) (Nat.le_of_lt hfm)
  rw [e] at hd
  rw [hd]
  have hb : n ≤ (t.length - f % t.length) + m * t.length := by
    rw [Nat.add_mul, Nat.add_mul, Nat.one_mul] at h
    omega
  by_cases hz : f % t.length = 0
  · rw [hz, Nat.sub_zero, Nat.mod_self, Nat.sub_zero, List.drop_zero, List.take_zero, List.nil_append]
    refine ⟨?_, Nat.zero_le _⟩
    have hr : t ++ rep m t = rep (m + 1) t := (rep_succ m t).symm
    rw [hr]
    have ht := rep_take t (n / t.length) (n % t.length) (m + 1) h0 (Nat.le_of_lt (Nat.mod_lt _ h0)) (by
      have e2 : n / t.length * t.length + n % t.length = n := by rw [Nat.mul_comm]; exact Nat.div_add_mod n t.length
      rw [e2, Nat.succ_mul]; omega)
    have e2 : n / t.length * t.length + n % t.length = n := by rw [Nat.mul_comm]; exact Nat.div_add_mod n t.length
    rwa [e2] at ht
  · have hh : (t.length - f % t.length) % t.length = t.length - f % t.length := Nat.mod_eq_of_lt (by omega)
    rw [hh]
    obtain ⟨r, hr⟩ : ∃ r, n - (t.length - f % t.length) = r := ⟨_, rfl⟩
    rw [hr]
    refine ⟨?_, by omega⟩
    rw [List.take_append, List.length_drop, hr, List.take_of_length_le (by rw [List.length_drop]; omega), List.take_of_length_le (show (t.drop (f % t.length)).length ≤ t.length - f % t.length by rw [List.length_drop]; exact Nat.le_refl _)]
    congr 1
    have e2 : r / t.length * t.length + r % t.length = r := by rw [Nat.mul_comm]; exact Nat.div_add_mod r t.length
    have ht := rep_take t (r / t.length) (r % t.length) m h0 (Nat.le_of_lt (Nat.mod_lt _ h0)) (by rw [e2]; omega)
    rwa [e2] at ht
/-- What halve lays on the stack. -/
def halveS (r : Ru) (l : Nat) (s : Sp) : List Sp := [⟨r.right, s.frm - l, s.n - min (l - s.frm) s.n, 1⟩, ⟨r.left, min s.frm l, min (l - s.frm) s.n, 1⟩]
/-- What divide lays on the stack. -/
def divideS (r : Ru) (l : Nat) (s : Sp) : List Sp :=
  if s.frm % l + s.n ≤ l then [⟨r.left, s.frm % l, s.n, 1⟩]
  else [⟨r.left, 0, (s.n - (l - s.frm % l) % l) % l, 1⟩, ⟨r.left, 0, l, (s.n - (l - s.frm % l) % l) / l⟩, ⟨r.left, s.frm % l, (l - s.frm % l) % l, 1⟩]
def splitS (r : Ru) (l : Nat) (s : Sp) : List Sp := if r.kind = 2 then halveS r l s else divideS r l s
theorem splitS_ok {E : List En} (h : Wf E) {s : Sp} (hs : OkS E s) (hn : 0 < s.n) (ht : 0 < s.times) (hlt : s.n < (txt E s.id).length) :
    (∀ x ∈ splitS (entAt E s.id).ru (txt E (entAt E s.id).ru.left).length s, OkS E x ∧ x.id < s.id) ∧ (splitS (entAt E s.id).ru (txt E (entAt E s.id).ru.left).length s).length ≤ 3 ∧ den E (splitS (entAt E s.id).ru (txt E (entAt E s.id).ru.left).length s) = denS E s := by
  have h1 : s.times = 1 := by have := hs.one hlt; omega
  have hd : denS E s = ((txt E s.id).drop s.frm).take s.n := by unfold denS; rw [h1, rep_one]
  rw [hd]
  have hR := hs.rng
  rcases (h.rule s.id hs.pos hs.le).cases with ⟨-, -, -, -, -, g⟩ | ⟨a, -, c, d, f, g, -, l⟩ | ⟨a, -, c, d, -, g, -, l⟩
  · rw [g] at hlt; simp at hlt; omega
  · unfold splitS halveS
    rw [if_pos a]
    generalize (entAt E s.id).ru = r at *
    rw [l, List.length_append] at hR
    refine ⟨?_, by simp, ?_⟩
    · intro x hx
      simp only [List.mem_cons, List.not_mem_nil, or_false] at hx
      rcases hx with rfl | rfl
      · exact ⟨⟨f, by have := hs.le; dsimp only; omega, by dsimp only; omega, fun _ => Nat.le_refl _⟩, g⟩
      · exact ⟨⟨c, by have := hs.le; dsimp only; omega, by dsimp only; omega, fun _ => Nat.le_refl _⟩, d⟩
    · rw [l, take_drop_cat]
      simp [den, denS, rep_one]
  · have h0 : 0 < (txt E (entAt E s.id).ru.left).length := (h.get _ c (by have := hs.le; omega)).2.2.1
    unfold splitS divideS
    rw [if_neg (by omega)]
    generalize (entAt E s.id).ru = r at *
    rw [l, rep_length] at hR
    have hfm := Nat.mod_lt s.frm h0
    split
    · rename_i hin
      refine ⟨?_, by simp, ?_⟩
      · intro x hx
        simp only [List.mem_cons, List.not_mem_nil, or_false] at hx
        subst hx
        exact ⟨⟨c, by have := hs.le; dsimp only; omega, hin, fun _ => Nat.le_refl _⟩, d⟩
      · rw [l, rep_in _ _ _ _ h0 hR hn hin]
        simp [den, denS, rep_one]
    · rename_i hin
      obtain ⟨e1, e2⟩ := rep_out _ _ _ _ h0 hR (by omega)
      refine ⟨?_, by simp, ?_⟩
      · intro x hx
        simp only [List.mem_cons, List.not_mem_nil, or_false] at hx
        rcases hx with rfl | rfl | rfl
        · refine ⟨⟨c, by have := hs.le; dsimp only; omega, ?_, fun _ => Nat.le_refl _⟩, d⟩
          dsimp only
          have := Nat.mod_lt (s.n - ((txt E r.left).length - s.frm % (txt E r.left).length) % (txt E r.left).length) h0
          omega
        · exact ⟨⟨c, by have := hs.le; dsimp only; omega, by dsimp only; omega, fun h => absurd h (Nat.lt_irrefl _)⟩, d⟩
        · refine ⟨⟨c, by have := hs.le; dsimp only; omega, ?_, fun _ => Nat.le_refl _⟩, d⟩
          dsimp only
          by_cases hz : s.frm % (txt E r.left).length = 0
          · rw [hz, Nat.sub_zero, Nat.mod_self]; omega
          · rw [show ((txt E r.left).length - s.frm % (txt E r.left).length) % (txt E r.left).length = (txt E r.left).length - s.frm % (txt E r.left).length from Nat.mod_eq_of_lt (by omega)]; omega
      · rw [l, e1]
        simp [den, denS, rep_one, List.take_of_length_le]
end M
end Go.Proofs.Ytpjcfepngjpfbaa
namespace Go.Proofs.Ytpjcfepngjpfbaa
open Go.RowKit
namespace M
/-- An entry's depth and balance are its rule's. -/
def DeOk (E : List En) (e : En) : Prop := (e.ru.kind = 1 → e.depth = 0 ∧ e.even = true) ∧
  (e.ru.kind = 2 → e.depth = 1 + max (entAt E e.ru.left).depth (entAt E e.ru.right).depth ∧ e.even = ((entAt E e.ru.left).even && (entAt E e.ru.right).even && decide (-1 ≤ ((entAt E e.ru.left).depth : Int) - (entAt E e.ru.right).depth) && decide (((entAt E e.ru.left).depth : Int) - (entAt E e.ru.right).depth ≤ 1))) ∧
  (e.ru.kind = 3 → e.even = false)
inductive WfD : List En → Prop
  | nil : WfD []
  | snoc {E : List En} {e : En} : WfD E → OkEn E e → DeOk E e → WfD (E ++ [e])
theorem WfD.wf {E : List En} (h : WfD E) : Wf E := by
  induction h with
  | nil => exact .nil
  | snoc _ h2 _ ih => exact .snoc ih h2
/-- E2 is E, grown. -/
def Ext (E E2 : List En) : Prop := ∃ X, E2 = E ++ X
theorem Ext.refl (E : List En) : Ext E E := ⟨[], by simp⟩
theorem Ext.trans {A B C : List En} (h : Ext A B) (k : Ext B C) : Ext A C := by
  obtain ⟨X, rfl⟩ := h
  obtain ⟨Y, rfl⟩ := k
  exact ⟨X ++ Y, by rw [List.append_assoc]⟩
theorem Ext.le {A B : List En} (h : Ext A B) : A.length ≤ B.length := by
  obtain ⟨X, rfl⟩ := h; simp
theorem Ext.ent {A B : List En} (h : Ext A B) {i : Nat} (hi : i ≤ A.length) : entAt B i = entAt A i := by
  obtain ⟨X, rfl⟩ := h
  unfold entAt
  by_cases h0 : i = 0
  · rw [if_pos h0, if_pos h0]
  · rw [if_neg h0, if_neg h0, List.getElem?_append_left (by omega)]
theorem txt_grow : ∀ (X A : List En) {i : Nat}, i ≤ A.length → txt (A ++ X) i = txt A i
  | [], A, i, _ => by rw [List.append_nil]
  | e :: X, A, i, hi => by
    have h := txt_grow X (A ++ [e]) (i := i) (by simp; omega)
    rw [List.append_assoc] at h
    rw [show A ++ e :: X = A ++ ([e] ++ X) from rfl, h, txt_snoc hi]
theorem Ext.txt {A B : List En} (h : Ext A B) {i : Nat} (hi : i ≤ A.length) : txt B i = txt A i := by
  obtain ⟨X, rfl⟩ := h
  exact txt_grow X A hi
theorem addF_ext (E : List En) (e : En) : Ext E (addF E e).1 := by
  unfold addF
  split
  · exact ⟨[e], rfl⟩
  · exact Ext.refl _
theorem DeOk.ext {A B : List En} {e : En} (h : DeOk A e) (hx : Ext A B) (ho : OkEn A e) : DeOk B e := by
  refine ⟨h.1, fun hk => ?_, h.2.2⟩
  rcases ho.kind with ⟨a, -⟩ | ⟨-, -, -, a, -, b, -⟩ | ⟨a, -⟩
  · omega
  · rw [hx.ent a, hx.ent b]; exact h.2.1 hk
  · omega
theorem WfD.at {E : List En} (h : WfD E) : ∀ i, 0 < i → i ≤ E.length → DeOk E (entAt E i) := by
  induction h with
  | nil => intro i h1 h2; simp at h2; omega
  | @snoc E e hE ho hd ih =>
    intro i h1 h2
    rw [List.length_append, List.length_singleton] at h2
    have hx : Ext E (E ++ [e]) := ⟨[e], rfl⟩
    by_cases hi : i ≤ E.length
    · rw [hx.ent hi]
      have hr := hE.wf.rule i h1 hi
      refine ⟨(ih i h1 hi).1, fun hk => ?_, (ih i h1 hi).2.2⟩
      rcases hr.cases with ⟨a, -⟩ | ⟨-, -, -, a, -, b, -⟩ | ⟨a, -⟩
      · omega
      · rw [hx.ent (by omega), hx.ent (by omega)]; exact (ih i h1 hi).2.1 hk
      · omega
    · obtain rfl : i = E.length + 1 := by omega
      rw [entAt_last]
      exact hd.ext hx ho
theorem fid_entry {E : List En} {r : Ru} (hf : fid r 1 E ≠ 0) : 0 < fid r 1 E ∧ fid r 1 E ≤ E.length ∧ (entAt E (fid r 1 E)).ru = r := by
  obtain ⟨j, e', h1, h2, h3⟩ := fid_le hf
  have hj := (List.getElem?_eq_some_iff.1 h2).1
  refine ⟨by omega, by omega, ?_⟩
  unfold entAt
  rw [if_neg (by omega), show fid r 1 E - 1 = j by omega, h2]
  exact h3
/-- An entry that is laid, or was there. -/
theorem addF_at {E : List En} (h : WfD E) {e : En} (ho : OkEn E e) (hd : DeOk E e) : WfD (addF E e).1 ∧ Ext E (addF E e).1 ∧ (addF E e).1.length ≤ E.length + 1 ∧ 0 < (addF E e).2 ∧ (addF E e).2 ≤ (addF E e).1.length ∧ (entAt (addF E e).1 (addF E e).2).ru = e.ru := by
  unfold addF
  by_cases hf : fid e.ru 1 E = 0
  · rw [if_pos hf]
    exact ⟨.snoc h ho hd, ⟨[e], rfl⟩, by simp, by simp, by simp, by rw [entAt_last]⟩
  · rw [if_neg hf]
    obtain ⟨a, b, c⟩ := fid_entry hf
    exact ⟨h, Ext.refl _, by simp, a, b, c⟩
theorem letE_de (E : List En) (b : Nat) : DeOk E (letE b) := by
  refine ⟨fun _ => ⟨rfl, rfl⟩, fun h => ?_, fun h => ?_⟩
  · have h' : (1 : Nat) = 2 := h
    omega
  · have h' : (1 : Nat) = 3 := h
    omega
theorem pairE_de (E : List En) (l r : Nat) : DeOk E (pairE E l r) := by
  refine ⟨fun h => ?_, fun _ => ⟨rfl, rfl⟩, fun h => ?_⟩
  · have h' : (2 : Nat) = 1 := h
    omega
  · have h' : (2 : Nat) = 3 := h
    omega
/-- A balanced text, with its depth. -/
structure Bal (E : List En) (i : Nat) (t : List Nat) (d : Nat) : Prop where
  pos : 0 < i
  le : i ≤ E.length
  txt : txt E i = t
  even : (entAt E i).even = true
  depth : (entAt E i).depth = d
theorem Bal.ext {A B : List En} {i d : Nat} {t : List Nat} (h : Bal A i t d) (hx : Ext A B) : Bal B i t d :=
  ⟨h.pos, Nat.le_trans h.le hx.le, by rw [hx.txt h.le]; exact h.txt, by rw [hx.ent h.le]; exact h.even, by rw [hx.ent h.le]; exact h.depth⟩
theorem let_bal {E : List En} (h : WfD E) {b : Nat} (hb : b < 256) : WfD (addF E (letE b)).1 ∧ Ext E (addF E (letE b)).1 ∧ (addF E (letE b)).1.length ≤ E.length + 1 ∧ Bal (addF E (letE b)).1 (addF E (letE b)).2 [b] 0 := by
  obtain ⟨a1, a2, a3, a4, a5, a6⟩ := addF_at h (letE_ok E hb) (letE_de E b)
  refine ⟨a1, a2, a3, a4, a5, ?_, ?_, ?_⟩
  · rcases (a1.wf.rule _ a4 a5).cases with ⟨-, -, -, -, -, g⟩ | ⟨g, -⟩ | ⟨g, -⟩
    · rw [g, a6]; rfl
    · rw [a6] at g; cases g
    · rw [a6] at g; cases g
  · exact ((a1.at _ a4 a5).1 (by rw [a6]; rfl)).2
  · exact ((a1.at _ a4 a5).1 (by rw [a6]; rfl)).1
theorem pair_bal {E : List En} (h : WfD E) {l r dl dr : Nat} {s t : List Nat} (hl : Bal E l s dl) (hr : Bal E r t dr) (hd : dl ≤ dr + 1 ∧ dr ≤ dl + 1) (hlen : s.length + t.length ≤ 1152921504606846976) :
    (pairF E l r).2.2 = 0 ∧ WfD (pairF E l r).1 ∧ Ext E (pairF E l r).1 ∧ (pairF E l r).1.length ≤ E.length + 1 ∧ Bal (pairF E l r).1 (pairF E l r).2.1 (s ++ t) (1 + max dl dr) := by
  have e1 : (entAt E l).w.len = s.length := by rw [(h.wf.get l hl.pos hl.le).1, hl.txt]; rfl
  have e2 : (entAt E r).w.len = t.length := by rw [(h.wf.get r hr.pos hr.le).1, hr.txt]; rfl
  have e : pairF E l r = ((addF E (pairE E l r)).1, (addF E (pairE E l r)).2, 0) := by
    unfold pairF
    rw [if_neg (by have := hl.pos; omega), if_neg (by have := hr.pos; omega), if_pos (by rw [e1, e2]; exact hlen)]
  rw [e]
  obtain ⟨a1, a2, a3, a4, a5, a6⟩ := addF_at h (pairE_ok h.wf hl.pos hr.pos hl.le hr.le (by rw [e1, e2]; exact hlen)) (pairE_de E l r)
  have hk : (entAt (addF E (pairE E l r)).1 (addF E (pairE E l r)).2).ru = ⟨2, 0, l, r, 0⟩ := a6
  obtain ⟨d1, d2⟩ := (a1.at _ a4 a5).2.1 (by rw [hk])
  rw [hk] at d1 d2
  dsimp only at d1 d2
  rw [a2.ent hl.le, a2.ent hr.le, hl.depth, hr.depth] at d1 d2
  rw [hl.even, hr.even] at d2
  refine ⟨rfl, a1, a2, a3, a4, a5, ?_, ?_, d1⟩
  · rcases (a1.wf.rule _ a4 a5).cases with ⟨g, -⟩ | ⟨-, -, -, -, -, -, -, g⟩ | ⟨g, -⟩
    · rw [hk] at g; cases g
    · rw [g, hk, a2.txt hl.le, a2.txt hr.le, hl.txt, hr.txt]
    · rw [hk] at g; cases g
  · rw [d2]
    have h1 : decide (-1 ≤ (dl : Int) - dr) = true := by simp; omega
    have h2 : decide ((dl : Int) - dr ≤ 1) = true := by simp; omega
    rw [h1, h2]; rfl
/-- How deep a text is halved. -/
def clg (n : Nat) : Nat := if n ≤ 1 then 0 else 1 + clg (n - n / 2)
termination_by n
decreasing_by omega
theorem clg_one {n : Nat} (h : n ≤ 1) : clg n = 0 := by rw [clg, if_pos h]
theorem clg_step {n : Nat} (h : 1 < n) : clg n = 1 + clg (n - n / 2) := by rw [clg, if_neg (by omega)]
theorem clg_mono : ∀ (n m : Nat), m ≤ n → clg m ≤ clg n := by
  intro n
  induction n using Nat.strongRecOn with
  | _ n ih =>
    intro m hm
    by_cases h1 : m ≤ 1
    · rw [clg_one h1]; exact Nat.zero_le _
    · rw [clg_step (by omega), clg_step (n := n) (by omega)]
      have := ih (n - n / 2) (by omega) (m - m / 2) (by omega)
      omega
theorem clg_near : ∀ (n : Nat), clg (n + 1) ≤ clg n + 1 := by
  intro n
  induction n using Nat.strongRecOn with
  | _ n ih =>
    by_cases h1 : n ≤ 1
    · rcases Nat.eq_zero_or_pos n with h0 | h0
      · subst h0; rw [clg_one (n := 0 + 1) (by omega)]; omega
      · obtain rfl : n = 1 := by omega
        rw [clg_step (by omega), clg_one (by omega)]; omega
    · rw [clg_step (n := n + 1) (by omega), clg_step (n := n) (by omega)]
      rcases Nat.mod_two_eq_zero_or_one n with h2 | h2
      · have e : n + 1 - (n + 1) / 2 = (n - n / 2) + 1 := by omega
        rw [e]
        have := ih (n - n / 2) (by omega)
        omega
      · have e : n + 1 - (n + 1) / 2 = n - n / 2 := by omega
        rw [e]; omega
end M
end Go.Proofs.Ytpjcfepngjpfbaa
namespace Go.Proofs.Ytpjcfepngjpfbaa
open Go.RowKit
namespace M
/-- A balanced text of depth 0 is a letter; any other one is a Pair. -/
theorem Bal.split {E : List En} (hE : WfD E) {i d : Nat} {t : List Nat} (h : Bal E i t d) (hd : 0 < d) :
    ∃ l r s1 t1 d1 d2, (entAt E i).ru = ⟨2, 0, l, r, 0⟩ ∧ Bal E l s1 d1 ∧ Bal E r t1 d2 ∧ t = s1 ++ t1 ∧ d = 1 + max d1 d2 ∧ d1 ≤ d2 + 1 ∧ d2 ≤ d1 + 1 := by
  have hdo := hE.at i h.pos h.le
  rcases (hE.wf.rule i h.pos h.le).cases with ⟨a, -⟩ | ⟨a, b, c1, c2, c3, c4, c5, c6⟩ | ⟨a, -⟩
  · have := (hdo.1 a).1
    rw [h.depth] at this; omega
  · obtain ⟨e1, e2⟩ := hdo.2.1 a
    rw [h.even] at e2
    rw [h.depth] at e1
    have e3 := e2.symm
    simp only [Bool.and_eq_true, decide_eq_true_eq] at e3
    obtain ⟨⟨⟨x1, x2⟩, x3⟩, x4⟩ := e3
    have hle := h.le
    refine ⟨(entAt E i).ru.left, (entAt E i).ru.right, M.txt E (entAt E i).ru.left, M.txt E (entAt E i).ru.right, (entAt E (entAt E i).ru.left).depth, (entAt E (entAt E i).ru.right).depth, ?_, ⟨c1, by omega, rfl, x1, rfl⟩, ⟨c3, by omega, rfl, x2, rfl⟩, ?_, e1, by omega, by omega⟩
    · generalize (entAt E i).ru = r at *
      obtain ⟨k, lt, l, r, tm⟩ := r
      dsimp only at *
      subst a b c5
      rfl
    · rw [← h.txt, c6]
  · have := hdo.2.2 a
    rw [h.even] at this; cases this
/-- The least length of a balanced text. -/
def lst : Nat → Nat × Nat
  | 0 => (1, 2)
  | d + 1 => ((lst d).2, (lst d).1 + (lst d).2)
theorem lst_mono1 (d : Nat) : (lst d).1 ≤ (lst d).2 := by
  cases d with
  | zero => decide
  | succ d => show (lst d).2 ≤ (lst d).1 + (lst d).2; omega
theorem lst_mono : ∀ (k d : Nat), (lst d).1 ≤ (lst (d + k)).1
  | 0, d => Nat.le_refl _
  | k + 1, d => Nat.le_trans (lst_mono k d) (show (lst (d + k)).1 ≤ (lst (d + k)).2 from lst_mono1 _)
theorem lst_two (d : Nat) : (lst (d + 2)).1 = (lst d).1 + (lst (d + 1)).1 := rfl
theorem Bal.least {E : List En} (hE : WfD E) : ∀ (d : Nat) {i : Nat} {t : List Nat}, Bal E i t d → (lst d).1 ≤ t.length := by
  intro d
  induction d using Nat.strongRecOn with
  | _ d ih =>
    intro i t h
    have hp := (hE.wf.get i h.pos h.le).2.2.1
    rw [h.txt] at hp
    match d, h, ih with
    | 0, _, _ => exact hp
    | 1, h, ih =>
      obtain ⟨l, r, s1, t1, d1, d2, -, hl, hr, rfl, hd, -⟩ := h.split hE (by omega)
      have p1 := (hE.wf.get l hl.pos hl.le).2.2.1
      have p2 := (hE.wf.get r hr.pos hr.le).2.2.1
      rw [hl.txt] at p1; rw [hr.txt] at p2
      rw [List.length_append]
      show 2 ≤ _; omega
    | d + 2, h, ih =>
      obtain ⟨l, r, s1, t1, d1, d2, -, hl, hr, rfl, hd, h1, h2⟩ := h.split hE (by omega)
      have i1 := ih d1 (by omega) hl
      have i2 := ih d2 (by omega) hr
      rw [List.length_append, lst_two]
      rcases Nat.le_total d1 d2 with g | g
      · obtain rfl : d2 = d + 1 := by omega
        have := lst_mono (d1 - d) d
        rw [show d + (d1 - d) = d1 by omega] at this
        omega
      · obtain rfl : d1 = d + 1 := by omega
        have := lst_mono (d2 - d) d
        rw [show d + (d2 - d) = d2 by omega] at this
        omega
theorem lst_87 : 1152921504606846976 < (lst 87).1 := by decide +kernel
/-- No text is deeper. -/
theorem Bal.deep {E : List En} (hE : WfD E) {i d : Nat} {t : List Nat} (h : Bal E i t d) : d ≤ 86 := by
  have h1 := h.least hE
  have h2 := (hE.wf.get i h.pos h.le).2.1
  rw [h.txt] at h2
  rcases Nat.lt_or_ge d 87 with g | g
  · omega
  · have := lst_mono (d - 87) 87
    rw [show 87 + (d - 87) = d by omega] at this
    have := lst_87
    omega
theorem Bal.len {E : List En} (hE : WfD E) {i d : Nat} {t : List Nat} (h : Bal E i t d) : t.length ≤ 1152921504606846976 ∧ 0 < t.length := by
  have h2 := hE.wf.get i h.pos h.le
  rw [h.txt] at h2
  exact ⟨h2.2.1, h2.2.2.1⟩
/-- The text of the empty ID is balanced, too. -/
structure Bal0 (E : List En) (i : Nat) (t : List Nat) : Prop where
  le : i ≤ E.length
  txt : txt E i = t
  even : (entAt E i).even = true
theorem Bal.zero {E : List En} {i d : Nat} {t : List Nat} (h : Bal E i t d) : Bal0 E i t := ⟨h.le, h.txt, h.even⟩
theorem Bal0.bal {E : List En} {i : Nat} {t : List Nat} (h : Bal0 E i t) (h0 : 0 < i) : Bal E i t (entAt E i).depth := ⟨h0, h.le, h.txt, h.even, rfl⟩
theorem Bal0.ext {A B : List En} {i : Nat} {t : List Nat} (h : Bal0 A i t) (hx : Ext A B) : Bal0 B i t := ⟨Nat.le_trans h.le hx.le, by rw [hx.txt h.le]; exact h.txt, by rw [hx.ent h.le]; exact h.even⟩
end M
end Go.Proofs.Ytpjcfepngjpfbaa
namespace Go.Proofs.Ytpjcfepngjpfbaa
open Go.RowKit
/-- The last element of a list of the call's own is turned in place. -/
theorem SlA.last {α : Type} {B₀ : Nat} {W : World} {e : TypeId} {size : Nat} {enc : α → List Value} (he : ∀ a, (enc a).length = size) {g n cap : Nat} {l : List α} {x y : α} (h : SlA B₀ W e size enc (.slice (some ⟨g, 0, none⟩) n cap) (l ++ [x])) {j : Nat} (hj : j < size) {u : Value} (hy : enc y = (enc x).set j u) :
    SlA B₀ (W.setCell ⟨g, l.length * size + j, none⟩ u) e size enc (.slice (some ⟨g, 0, none⟩) n cap) (l ++ [y]) := by
  refine ⟨flatMap_len he _, ?_⟩
  rcases h.2 with ⟨hv, -⟩ | ⟨g', c, cur, hv, hb, hg, h1, h2, h3, h4⟩
  · cases hv
  · rw [List.length_append, List.length_singleton] at hv h1 h4
    cases hv
    refine .inr ⟨g, cap, cur.setIfInBounds (l.length * size + j) u, by simp, hb, heap_set0 _ hg, by simpa using h1, h2, by simpa using h3, ?_⟩
    rw [List.length_append, List.length_singleton, Array.toList_setIfInBounds, List.take_set, h4, List.flatMap_append, List.flatMap_append]
    have e1 : (l.flatMap enc).length = l.length * size := flatMap_len he l
    rw [List.set_append_right _ _ (by omega), e1, Nat.add_sub_cancel_left]
    simp [hy]
namespace M
/-- So many copies of a text. -/
structure Cp where
  id : Nat
  times : Nat
/-- What a stack derives: the last one first. -/
def dn (E : List En) : List Cp → List Nat
  | [] => []
  | c :: L => dn E L ++ rep c.times (txt E c.id)
theorem dn_snoc (E : List En) (L : List Cp) (c : Cp) : dn E (L ++ [c]) = rep c.times (txt E c.id) ++ dn E L := by
  induction L with
  | nil => show dn E [] ++ rep c.times (txt E c.id) = rep c.times (txt E c.id) ++ []; rw [List.append_nil]; rfl
  | cons a L ih => show dn E (L ++ [c]) ++ rep a.times (txt E a.id) = rep c.times (txt E c.id) ++ (dn E L ++ rep a.times (txt E a.id)); rw [ih, List.append_assoc]
/-- What is left of a stack when its uppermost text is taken once. -/
def popC (L : List Cp) (c : Cp) : List Cp := if c.times = 1 then L else L ++ [⟨c.id, c.times - 1⟩]
theorem dn_pop (E : List En) (L : List Cp) (c : Cp) (h : 0 < c.times) : dn E (L ++ [c]) = txt E c.id ++ dn E (popC L c) := by
  unfold popC
  rw [dn_snoc]
  by_cases h1 : c.times = 1
  · rw [if_pos h1, h1, rep_one]
  · rw [if_neg h1, dn_snoc]
    obtain ⟨k, hk⟩ : ∃ k, c.times = k + 1 := ⟨c.times - 1, by omega⟩
    rw [hk, rep_succ, Nat.add_sub_cancel, List.append_assoc]
/-- An entry of a stack. -/
structure OkC (E : List En) (c : Cp) : Prop where
  pos : 0 < c.id
  le : c.id ≤ E.length
  one : 0 < c.times
  most : c.times ≤ 1152921504606846976
/-- Stacks do not grow high: who stands high has a small number. -/
structure StkC (E : List En) (L : List Cp) : Prop where
  ok : ∀ c ∈ L, OkC E c
  low : ∀ (p : Nat) (h : p < L.length), p + 1 + 3 * L[p].id ≤ 3 * E.length + 3
theorem StkC.nil (E : List En) : StkC E [] := ⟨fun c h => (by cases h), fun p h => (by cases h)⟩
theorem StkC.init {E : List En} {L : List Cp} {c : Cp} (h : StkC E (L ++ [c])) : StkC E L :=
  ⟨fun x hx => h.ok x (List.mem_append_left _ hx), fun p hp => by
    have := h.low p (by rw [List.length_append]; omega)
    rwa [List.getElem_append_left hp] at this⟩
theorem StkC.top {E : List En} {L : List Cp} {c : Cp} (h : StkC E (L ++ [c])) : OkC E c ∧ L.length + 1 + 3 * c.id ≤ 3 * E.length + 3 := by
  refine ⟨h.ok c (by simp), ?_⟩
  have := h.low L.length (by simp)
  simpa using this
theorem StkC.push {E : List En} {L : List Cp} (h : StkC E L) {c : Cp} (hc : OkC E c) (hl : L.length + 1 + 3 * c.id ≤ 3 * E.length + 3) : StkC E (L ++ [c]) := by
  refine ⟨fun x hx => ?_, fun p hp => ?_⟩
  · rcases List.mem_append.1 hx with g | g
    · exact h.ok x g
    · rw [List.mem_singleton.1 g]; exact hc
  · by_cases g : p < L.length
    · rw [List.getElem_append_left g]; exact h.low p g
    · have e : p = L.length := by simp at hp; omega
      subst e
      simpa using hl
theorem StkC.pop {E : List En} {L : List Cp} {c : Cp} (h : StkC E (L ++ [c])) : StkC E (popC L c) ∧ (popC L c).length ≤ L.length + 1 := by
  unfold popC
  split
  · exact ⟨h.init, by omega⟩
  · rename_i h1
    have ht := h.top
    exact ⟨h.init.push ⟨ht.1.pos, ht.1.le, by have := ht.1.one; dsimp only; omega, by have := ht.1.most; dsimp only; omega⟩ ht.2, by simp⟩
theorem StkC.len {E : List En} {L : List Cp} (h : StkC E L) : L.length ≤ 3 * E.length + 3 := by
  rcases List.eq_nil_or_concat L with rfl | ⟨L', c, rfl⟩
  · simp
  · rw [List.concat_eq_append] at h ⊢
    have := h.top.2
    rw [List.length_append, List.length_singleton]; omega
/-- How much work a stack is. -/
def wkC (E : List En) : List Cp → Nat
  | [] => 0
  | c :: L => wkC E L + c.times * (2 * (txt E c.id).length - 1)
theorem wkC_snoc (E : List En) (L : List Cp) (c : Cp) : wkC E (L ++ [c]) = wkC E L + c.times * (2 * (txt E c.id).length - 1) := by
  induction L with
  | nil => simp [wkC]
  | cons a L ih => show wkC E (L ++ [c]) + _ = wkC E L + _ + _; rw [ih]; omega
theorem wkC_pop (E : List En) (L : List Cp) (c : Cp) (h : 0 < c.times) : wkC E (L ++ [c]) = (2 * (txt E c.id).length - 1) + wkC E (popC L c) := by
  unfold popC
  rw [wkC_snoc]
  by_cases h1 : c.times = 1
  · rw [if_pos h1, h1]; omega
  · rw [if_neg h1, wkC_snoc]
    obtain ⟨k, hk⟩ : ∃ k, c.times = k + 1 := ⟨c.times - 1, by omega⟩
    rw [hk, Nat.add_sub_cancel, Nat.succ_mul]; dsimp only; omega
/-- A Pair's parts are less work. -/
theorem wk_pair {a b : Nat} (ha : 0 < a) (hb : 0 < b) : (2 * a - 1) + (2 * b - 1) < 2 * (a + b) - 1 := by omega
theorem wk_power {t a : Nat} (ht : 2 ≤ t) (ha : 0 < a) : t * (2 * a - 1) < 2 * (t * a) - 1 := by
  have h1 : t * (2 * a - 1) = 2 * (t * a) - t := by rw [Nat.mul_sub, Nat.mul_one]; congr 1; rw [Nat.mul_left_comm]
  have h2 : t ≤ t * a := Nat.le_mul_of_pos_right _ ha
  omega
/-- What follows an offset of a power. -/
theorem rep_drop_at {t : List Nat} (ht : 0 < t.length) {n f : Nat} (hf : f < n * t.length) : (rep n t).drop f = t.drop (f % t.length) ++ rep (n - 1 - f / t.length) t := by
  have hq : f / t.length < n := Nat.div_lt_of_lt_mul (by rw [Nat.mul_comm]; exact hf)
  have h := rep_drop t (f / t.length) (n - 1 - f / t.length) (f % t.length) (Nat.le_of_lt (Nat.mod_lt _ ht))
  rw [show f / t.length + 1 + (n - 1 - f / t.length) = n by omega, Nat.mul_comm, Nat.div_add_mod] at h
  exact h
end M
end Go.Proofs.Ytpjcfepngjpfbaa
namespace Go.Proofs.Ytpjcfepngjpfbaa
open Go.RowKit
namespace M
theorem rep_snocB (n : Nat) (t : List Nat) : rep (n + 1) t = rep n t ++ t := by
  induction n with
  | zero => rw [rep_one]; rfl
  | succ n ih => rw [rep_succ, ih, ← List.append_assoc, ← rep_succ, ih]
/-- What a stack derives: the first one first. -/
def up (E : List En) : List Cp → List Nat
  | [] => []
  | c :: L => rep c.times (txt E c.id) ++ up E L
theorem up_append (E : List En) (L K : List Cp) : up E (L ++ K) = up E L ++ up E K := by
  induction L with
  | nil => rfl
  | cons a L ih => show rep a.times (txt E a.id) ++ up E (L ++ K) = (rep a.times (txt E a.id) ++ up E L) ++ up E K; rw [ih, List.append_assoc]
theorem up_snoc (E : List En) (L : List Cp) (c : Cp) : up E (L ++ [c]) = up E L ++ rep c.times (txt E c.id) := by
  rw [up_append]; show up E L ++ (rep c.times (txt E c.id) ++ []) = _; rw [List.append_nil]
theorem up_pop (E : List En) (L : List Cp) (c : Cp) (h : 0 < c.times) : up E (L ++ [c]) = up E (popC L c) ++ txt E c.id := by
  unfold popC
  rw [up_snoc]
  by_cases h1 : c.times = 1
  · rw [if_pos h1, h1, rep_one]
  · rw [if_neg h1, up_snoc]
    obtain ⟨k, hk⟩ : ∃ k, c.times = k + 1 := ⟨c.times - 1, by omega⟩
    rw [hk, rep_snocB, Nat.add_sub_cancel, List.append_assoc]
/-- What precedes an offset of a power. -/
theorem rep_take_at {t : List Nat} (ht : 0 < t.length) {n f : Nat} (h0 : 0 < f) (hf : f ≤ n * t.length) : (f - 1) / t.length < n ∧ 0 < f - (f - 1) / t.length * t.length ∧ f - (f - 1) / t.length * t.length ≤ t.length ∧ (f - 1) / t.length * t.length < f ∧ (rep n t).take f = rep ((f - 1) / t.length) t ++ t.take (f - (f - 1) / t.length * t.length) := by
  obtain ⟨q, hq⟩ : ∃ q, (f - 1) / t.length = q := ⟨_, rfl⟩
  have hm := Nat.div_add_mod (f - 1) t.length
  have hml := Nat.mod_lt (f - 1) ht
  rw [hq, Nat.mul_comm] at hm
  rw [hq]
  have hqn : q < n := by
    rw [← hq]
    exact Nat.div_lt_of_lt_mul (by rw [Nat.mul_comm]; omega)
  refine ⟨hqn, by omega, by omega, by omega, ?_⟩
  obtain ⟨k, rfl⟩ : ∃ k, n = q + (k + 1) := ⟨n - q - 1, by omega⟩
  have e : rep (q + (k + 1)) t = rep q t ++ (t ++ rep k t) := by
    rw [rep_add, rep_succ]
  rw [e, List.take_append, rep_length, List.take_of_length_le (by rw [rep_length]; omega), List.take_append_of_le_length (by omega)]
end M
end Go.Proofs.Ytpjcfepngjpfbaa
