/- The pieces of a range of a balanced text: which they are, that they are adjacent, how many. No walk. -/
import Derived.Test.YtpjcfepngjpfbaaPla
set_option linter.unusedVariables false
set_option linter.unusedSimpArgs false
namespace Go.Proofs.Ytpjcfepngjpfbaa
open Go.RowKit
namespace M
/-- The pieces of the letters f, .., t - 1 in the subtree i that begins at a: offsets and IDs. -/
def pcF (E : List En) (f t i a : Nat) : List (Nat × Nat) :=
  if min t (a + (txt E i).length) ≤ max f a then [] else if f ≤ a ∧ a + (txt E i).length ≤ t then [(a, i)] else
    (if (entAt E i).ru.left < i then pcF E f t (entAt E i).ru.left a else []) ++ (if (entAt E i).ru.right < i then pcF E f t (entAt E i).ru.right (a + (txt E (entAt E i).ru.left).length) else [])
termination_by i
theorem pcF_skip {E : List En} {f t i a : Nat} (h : min t (a + (txt E i).length) ≤ max f a) : pcF E f t i a = [] := by rw [pcF, if_pos h]
theorem pcF_in {E : List En} {f t i a : Nat} (h : ¬ min t (a + (txt E i).length) ≤ max f a) (h2 : f ≤ a ∧ a + (txt E i).length ≤ t) : pcF E f t i a = [(a, i)] := by rw [pcF, if_neg h, if_pos h2]
/-- What an inner node is. -/
structure PcN (E : List En) (i l r : Nat) : Prop where
  left : (entAt E i).ru.left = l
  right : (entAt E i).ru.right = r
  kind : (entAt E i).ru.kind = 2
  l0 : 0 < l
  ll : l < i
  r0 : 0 < r
  rl : r < i
  le : (entAt E l).even = true
  re : (entAt E r).even = true
  txt : M.txt E i = M.txt E l ++ M.txt E r
  lp : 0 < (M.txt E l).length
  rp : 0 < (M.txt E r).length
  dl : (entAt E l).depth < (entAt E i).depth
  dr : (entAt E r).depth < (entAt E i).depth
theorem even_split {E : List En} (h : WfD E) {i : Nat} (h0 : 0 < i) (hi : i ≤ E.length) (he : (entAt E i).even = true) : (txt E i).length = 1 ∨ ∃ l r, PcN E i l r := by
  have hdo := h.at i h0 hi
  rcases (h.wf.rule i h0 hi).cases with ⟨-, -, -, -, -, g⟩ | ⟨a, -, c1, c2, c3, c4, -, c6⟩ | ⟨a, -⟩
  · exact .inl (by rw [g]; rfl)
  · right
    obtain ⟨e1, e2⟩ := hdo.2.1 a
    rw [he] at e2
    have e3 := e2.symm
    simp only [Bool.and_eq_true, decide_eq_true_eq] at e3
    obtain ⟨⟨⟨x1, x2⟩, x3⟩, x4⟩ := e3
    exact ⟨_, _, rfl, rfl, a, c1, by omega, c3, by omega, x1, x2, c6, (h.wf.get _ c1 (by omega)).2.2.1, (h.wf.get _ c3 (by omega)).2.2.1, by omega, by omega⟩
  · have := hdo.2.2 a
    rw [he] at this; cases this
theorem pcF_step {E : List En} {f t i a l r : Nat} (hn : PcN E i l r) (h : ¬ min t (a + (txt E i).length) ≤ max f a) (h2 : ¬ (f ≤ a ∧ a + (txt E i).length ≤ t)) : pcF E f t i a = pcF E f t l a ++ pcF E f t r (a + (txt E l).length) := by
  rw [pcF, if_neg h, if_neg h2, hn.left, hn.right, if_pos hn.ll, if_pos hn.rl]
/-- A leaf is inside or outside. -/
theorem leaf_in {E : List En} {f t i a : Nat} (h1 : (txt E i).length = 1) (h : ¬ min t (a + (txt E i).length) ≤ max f a) : f ≤ a ∧ a + (txt E i).length ≤ t := by omega
theorem zero_skip {E : List En} {f t a : Nat} : min t (a + (txt E 0).length) ≤ max f a := by
  rw [txt_zero]; simp only [List.length_nil]; omega
theorem pcF_cases {E : List En} (h : WfD E) {f t i a : Nat} (hi : i ≤ E.length) (he : (entAt E i).even = true) :
    (min t (a + (txt E i).length) ≤ max f a ∧ pcF E f t i a = []) ∨ (¬ min t (a + (txt E i).length) ≤ max f a ∧ 0 < i ∧ (f ≤ a ∧ a + (txt E i).length ≤ t) ∧ pcF E f t i a = [(a, i)]) ∨
    (¬ min t (a + (txt E i).length) ≤ max f a ∧ 0 < i ∧ ¬ (f ≤ a ∧ a + (txt E i).length ≤ t) ∧ ∃ l r, PcN E i l r ∧ pcF E f t i a = pcF E f t l a ++ pcF E f t r (a + (txt E l).length)) := by
  by_cases h1 : min t (a + (txt E i).length) ≤ max f a
  · exact .inl ⟨h1, pcF_skip h1⟩
  · have h0 : 0 < i := Nat.pos_of_ne_zero (fun e => by subst e; exact h1 zero_skip)
    by_cases h2 : f ≤ a ∧ a + (txt E i).length ≤ t
    · exact .inr (.inl ⟨h1, h0, h2, pcF_in h1 h2⟩)
    · rcases even_split h h0 hi he with h3 | ⟨l, r, hn⟩
      · exact absurd (leaf_in h3 h1) h2
      · exact .inr (.inr ⟨h1, h0, h2, l, r, hn, pcF_step hn h1 h2⟩)
theorem pcF_empty {E : List En} {f i a : Nat} : pcF E f f i a = [] := pcF_skip (by omega)
/-- The specification's recursion makes the same. -/
theorem pcF_ref {E : List En} (h : WfD E) {f t i a : Nat} (hft : f ≤ t) (h0 : 0 < i) (hi : i ≤ E.length) (he : (entAt E i).even = true) (h1 : f < a + (txt E i).length) (h2 : a < t) :
    (f ≤ a ∧ a + (txt E i).length ≤ t ∧ pcF E f t i a = [(a, i)]) ∨ (¬ (f ≤ a ∧ a + (txt E i).length ≤ t) ∧ ∃ l r, PcN E i l r ∧ pcF E f t i a = pcF E f t l a ++ pcF E f t r (a + (txt E l).length)) := by
  have hpos := (h.wf.get i h0 hi).2.2.1
  by_cases hc : f ≤ a ∧ a + (txt E i).length ≤ t
  · exact .inl ⟨hc.1, hc.2, pcF_in (by omega) hc⟩
  · refine .inr ⟨hc, ?_⟩
    rcases even_split h h0 hi he with h3 | ⟨l, r, hn⟩
    · exact absurd (by omega) hc
    · refine ⟨l, r, hn, ?_⟩
      by_cases h4 : min t (a + (txt E i).length) ≤ max f a
      · have : f = t := by omega
        subst this
        rw [pcF_empty, pcF_empty, pcF_empty]; rfl
      · exact pcF_step hn h4 hc
/-- The letters of a list of pieces. -/
def pcT (E : List En) (L : List (Nat × Nat)) : List Nat := L.flatMap fun p => txt E p.2
theorem pcT_append (E : List En) (A B : List (Nat × Nat)) : pcT E (A ++ B) = pcT E A ++ pcT E B := by unfold pcT; rw [List.flatMap_append]
theorem rng_append (s1 s2 : List Nat) (f t a : Nat) : ((s1 ++ s2).take (t - a)).drop (f - a) = (s1.take (t - a)).drop (f - a) ++ (s2.take (t - (a + s1.length))).drop (f - (a + s1.length)) := by
  rw [List.take_append, List.drop_append, show t - a - s1.length = t - (a + s1.length) by omega]
  congr 1
  by_cases h : s1.length ≤ t - a
  · rw [List.length_take, Nat.min_eq_right h, show f - a - s1.length = f - (a + s1.length) by omega]
  · rw [show t - (a + s1.length) = 0 by omega]; simp
/-- The pieces' letters are the range's. -/
theorem pcF_txt {E : List En} (h : WfD E) {f t : Nat} : ∀ (i a : Nat), i ≤ E.length → (entAt E i).even = true → pcT E (pcF E f t i a) = ((txt E i).take (t - a)).drop (f - a) := by
  intro i
  induction i using Nat.strongRecOn with
  | _ i ih =>
    intro a hi he
    rcases pcF_cases h (f := f) (t := t) (a := a) hi he with ⟨h1, h2⟩ | ⟨h1, -, h2, h3⟩ | ⟨-, -, -, l, r, hn, h3⟩
    · rw [h2]
      symm
      rw [show pcT E [] = [] from rfl, List.drop_eq_nil_iff, List.length_take]
      omega
    · rw [h3]
      have e1 : f - a = 0 := by omega
      rw [e1, List.drop_zero, List.take_of_length_le (by omega)]
      show txt E i ++ [] = _
      rw [List.append_nil]
    · rw [h3, pcT_append, ih l hn.ll a (by have := hn.ll; omega) hn.le, ih r hn.rl _ (by have := hn.rl; omega) hn.re, hn.txt, rng_append]
/-- Pieces that lie side by side, from p to q. -/
def Adj (E : List En) : Nat → Nat → List (Nat × Nat) → Prop
  | p, q, [] => p = q
  | p, q, x :: L => x.1 = p ∧ Adj E (p + (txt E x.2).length) q L
theorem Adj.append {E : List En} : ∀ {A B : List (Nat × Nat)} {p q r : Nat}, Adj E p q A → Adj E q r B → Adj E p r (A ++ B)
  | [], B, p, q, r, h1, h2 => by have h1' : p = q := h1; subst h1'; exact h2
  | x :: A, B, p, q, r, h1, h2 => ⟨h1.1, Adj.append h1.2 h2⟩
theorem Adj.len {E : List En} : ∀ {A : List (Nat × Nat)} {p q : Nat}, Adj E p q A → p + (pcT E A).length = q
  | [], p, q, h => by have h1 : p = q := h; rw [h1]; rfl
  | x :: A, p, q, h => by
    have := Adj.len h.2
    have e : pcT E (x :: A) = txt E x.2 ++ pcT E A := rfl
    rw [e, List.length_append]; omega
theorem Adj.split {E : List En} : ∀ {A B : List (Nat × Nat)} {p q : Nat}, Adj E p q (A ++ B) → Adj E (p + (pcT E A).length) q B
  | [], B, p, q, h => h
  | x :: A, B, p, q, h => by
    have := Adj.split (A := A) h.2
    have e : pcT E (x :: A) = txt E x.2 ++ pcT E A := rfl
    rw [e, List.length_append, ← Nat.add_assoc]; exact this
theorem Adj.next {E : List En} {ys pre : List (Nat × Nat)} {x : Nat × Nat} {p q : Nat} (h : Adj E p q ys) (hp : pre ++ [x] <+: ys) : x.1 = p + (pcT E pre).length ∧ x.1 + (txt E x.2).length ≤ q := by
  obtain ⟨T, rfl⟩ := hp
  rw [List.append_assoc] at h
  have h2 := h.split
  have h3 := h2.2
  refine ⟨h2.1, ?_⟩
  have h4 := h3.len
  rw [h2.1]; omega
theorem pcF_adj {E : List En} (h : WfD E) {f t : Nat} (hft : f ≤ t) : ∀ (i a : Nat), i ≤ E.length → (entAt E i).even = true → Adj E (max a (min f (a + (txt E i).length))) (max a (min t (a + (txt E i).length))) (pcF E f t i a) := by
  intro i
  induction i using Nat.strongRecOn with
  | _ i ih =>
    intro a hi he
    rcases pcF_cases h (f := f) (t := t) (a := a) hi he with ⟨h1, h2⟩ | ⟨h1, -, h2, h3⟩ | ⟨h1, -, -, l, r, hn, h3⟩
    · rw [h2]
      show _ = _
      omega
    · rw [h3]
      refine ⟨?_, ?_⟩
      · dsimp only; omega
      · show _ = _
        dsimp only; omega
    · have il := ih l hn.ll a (by have := hn.ll; omega) hn.le
      have ir := ih r hn.rl (a + (txt E l).length) (by have := hn.rl; omega) hn.re
      have hlen : (txt E i).length = (txt E l).length + (txt E r).length := by rw [hn.txt, List.length_append]
      rw [h3, hlen]
      by_cases c1 : t ≤ a + (txt E l).length
      · have hs : pcF E f t r (a + (txt E l).length) = [] := pcF_skip (by omega)
        rw [hs, List.append_nil]
        rw [show max a (min f (a + ((txt E l).length + (txt E r).length))) = max a (min f (a + (txt E l).length)) by omega, show max a (min t (a + ((txt E l).length + (txt E r).length))) = max a (min t (a + (txt E l).length)) by omega]
        exact il
      · by_cases c2 : a + (txt E l).length ≤ f
        · have hs : pcF E f t l a = [] := pcF_skip (by omega)
          rw [hs, List.nil_append]
          rw [show max a (min f (a + ((txt E l).length + (txt E r).length))) = max (a + (txt E l).length) (min f (a + (txt E l).length + (txt E r).length)) by omega, show max a (min t (a + ((txt E l).length + (txt E r).length))) = max (a + (txt E l).length) (min t (a + (txt E l).length + (txt E r).length)) by omega]
          exact ir
        · refine Adj.append (q := a + (txt E l).length) ?_ ?_
          · rw [show max a (min f (a + ((txt E l).length + (txt E r).length))) = max a (min f (a + (txt E l).length)) by omega]
            have e : max a (min t (a + (txt E l).length)) = a + (txt E l).length := by omega
            rw [e] at il
            exact il
          · rw [show max a (min t (a + ((txt E l).length + (txt E r).length))) = max (a + (txt E l).length) (min t (a + (txt E l).length + (txt E r).length)) by omega]
            have e : max (a + (txt E l).length) (min f (a + (txt E l).length + (txt E r).length)) = a + (txt E l).length := by omega
            rw [e] at ir
            exact ir
theorem pcF_adj0 {E : List En} (h : WfD E) {f t i : Nat} (hft : f ≤ t) (ht : t ≤ (txt E i).length) (hi : i ≤ E.length) (he : (entAt E i).even = true) : Adj E f t (pcF E f t i 0) := by
  have := pcF_adj h hft i 0 hi he
  rw [show max 0 (min f (0 + (txt E i).length)) = f by omega, show max 0 (min t (0 + (txt E i).length)) = t by omega] at this
  exact this
/-- How many pieces there are. -/
theorem pcF_one {E : List En} (h : WfD E) {f t : Nat} : ∀ (i a : Nat), i ≤ E.length → (entAt E i).even = true → (f ≤ a ∨ a + (txt E i).length ≤ t) → (pcF E f t i a).length ≤ (entAt E i).depth + 1 := by
  intro i
  induction i using Nat.strongRecOn with
  | _ i ih =>
    intro a hi he hs
    rcases pcF_cases h (f := f) (t := t) (a := a) hi he with ⟨h1, h2⟩ | ⟨h1, -, h2, h3⟩ | ⟨h1, -, -, l, r, hn, h3⟩
    · rw [h2]; simp
    · rw [h3]; simp
    · have hlen : (txt E i).length = (txt E l).length + (txt E r).length := by rw [hn.txt, List.length_append]
      have hdl := hn.dl; have hdr := hn.dr
      rw [h3, List.length_append]
      rcases hs with hs | hs
      · -- the left child is inside or holds the range's end
        have ir := ih r hn.rl (a + (txt E l).length) (by have := hn.rl; omega) hn.re (.inl (by omega))
        have il := ih l hn.ll a (by have := hn.ll; omega) hn.le (.inl hs)
        by_cases c : a + (txt E l).length ≤ t
        · have e : (pcF E f t l a).length ≤ 1 := by
            rcases pcF_cases h (f := f) (t := t) (a := a) (i := l) (by have := hn.ll; omega) hn.le with ⟨-, g⟩ | ⟨-, -, -, g⟩ | ⟨-, -, g, -⟩
            · rw [g]; simp
            · rw [g]; simp
            · exact absurd ⟨hs, c⟩ g
          omega
        · have e : pcF E f t r (a + (txt E l).length) = [] := pcF_skip (by omega)
          rw [e] at ir ⊢; simp; omega
      · have ir := ih r hn.rl (a + (txt E l).length) (by have := hn.rl; omega) hn.re (.inr (by omega))
        have il := ih l hn.ll a (by have := hn.ll; omega) hn.le (.inr (by omega))
        by_cases c : f ≤ a + (txt E l).length
        · have e : (pcF E f t r (a + (txt E l).length)).length ≤ 1 := by
            rcases pcF_cases h (f := f) (t := t) (a := a + (txt E l).length) (i := r) (by have := hn.rl; omega) hn.re with ⟨-, g⟩ | ⟨-, -, -, g⟩ | ⟨-, -, g, -⟩
            · rw [g]; simp
            · rw [g]; simp
            · exact absurd ⟨c, by omega⟩ g
          omega
        · have e : pcF E f t l a = [] := pcF_skip (by omega)
          rw [e] at il ⊢; simp; omega
theorem pcF_many {E : List En} (h : WfD E) {f t : Nat} : ∀ (i a : Nat), i ≤ E.length → (entAt E i).even = true → (pcF E f t i a).length ≤ 2 * (entAt E i).depth + 1 := by
  intro i
  induction i using Nat.strongRecOn with
  | _ i ih =>
    intro a hi he
    rcases pcF_cases h (f := f) (t := t) (a := a) hi he with ⟨h1, h2⟩ | ⟨h1, -, h2, h3⟩ | ⟨h1, -, -, l, r, hn, h3⟩
    · rw [h2]; simp
    · rw [h3]; simp
    · have hlen : (txt E i).length = (txt E l).length + (txt E r).length := by rw [hn.txt, List.length_append]
      have hdl := hn.dl; have hdr := hn.dr
      rw [h3, List.length_append]
      by_cases c1 : t ≤ a + (txt E l).length
      · have e : pcF E f t r (a + (txt E l).length) = [] := pcF_skip (by omega)
        have il := ih l hn.ll a (by have := hn.ll; omega) hn.le
        rw [e]; simp; omega
      · by_cases c2 : a + (txt E l).length ≤ f
        · have e : pcF E f t l a = [] := pcF_skip (by omega)
          have ir := ih r hn.rl (a + (txt E l).length) (by have := hn.rl; omega) hn.re
          rw [e]; simp; omega
        · have il := pcF_one h (f := f) (t := t) l a (by have := hn.ll; omega) hn.le (.inr (by omega))
          have ir := pcF_one h (f := f) (t := t) r (a + (txt E l).length) (by have := hn.rl; omega) hn.re (.inl (by omega))
          omega
/-- Between two rounds of walk's pieces: a stack of nodes (id, at), the top last. -/
def remN (E : List En) (f t : Nat) (L : List (Nat × Nat)) : List (Nat × Nat) := L.foldr (fun n S => S ++ pcF E f t n.1 n.2) []
theorem foldr_out {α β : Type} (g : α → List β) : ∀ (L : List α) (S : List β), L.foldr (fun n S => S ++ g n) S = S ++ L.foldr (fun n S => S ++ g n) []
  | [], S => by simp
  | x :: L, S => by
    show L.foldr _ S ++ g x = S ++ (L.foldr _ [] ++ g x)
    rw [foldr_out g L S, List.append_assoc]
theorem remN_snoc (E : List En) (f t : Nat) (L : List (Nat × Nat)) (n : Nat × Nat) : remN E f t (L ++ [n]) = pcF E f t n.1 n.2 ++ remN E f t L := by
  unfold remN
  rw [List.foldr_append]
  simp only [List.foldr_cons, List.foldr_nil, List.nil_append]
  exact foldr_out (fun n : Nat × Nat => pcF E f t n.1 n.2) L _
def wkN (E : List En) : List (Nat × Nat) → Nat
  | [] => 0
  | n :: L => (if (txt E n.1).length = 0 then 1 else 2 * (txt E n.1).length - 1) + wkN E L
theorem wkN_append (E : List En) : ∀ (A B : List (Nat × Nat)), wkN E (A ++ B) = wkN E A + wkN E B
  | [], B => by simp [wkN]
  | n :: A, B => by show _ + wkN E (A ++ B) = _ + wkN E A + wkN E B; rw [wkN_append E A B, Nat.add_assoc]
theorem wkN_one (E : List En) (n : Nat × Nat) : 0 < wkN E [n] := by
  show 0 < (if (txt E n.1).length = 0 then 1 else 2 * (txt E n.1).length - 1) + 0
  split <;> omega
/-- A stack of nodes that fits. -/
structure StkN (E : List En) (id : Nat) (L : List (Nat × Nat)) : Prop where
  ok : ∀ n ∈ L, n.1 ≤ E.length ∧ (entAt E n.1).even = true ∧ n.2 + (txt E n.1).length ≤ (txt E id).length
  at_ : ∀ k (h : k < L.length), k + (L[k]).1 ≤ id
theorem StkN.start {E : List En} {id : Nat} (hi : id ≤ E.length) (he : (entAt E id).even = true) : StkN E id [(id, 0)] :=
  ⟨fun n hn => by rw [List.mem_singleton.1 hn]; exact ⟨hi, he, by simp⟩, fun k h => by
    have : k = 0 := by simp at h; omega
    subst this; simp⟩
theorem StkN.len {E : List En} {id : Nat} {L : List (Nat × Nat)} (h : StkN E id L) : L.length ≤ id + 1 := by
  by_cases h0 : L.length = 0
  · omega
  · have := h.at_ (L.length - 1) (by omega); omega
theorem StkN.pop {E : List En} {id : Nat} {L : List (Nat × Nat)} {n : Nat × Nat} (h : StkN E id (L ++ [n])) : StkN E id L := by
  refine ⟨fun m hm => h.ok m (List.mem_append_left _ hm), fun k hk => ?_⟩
  have := h.at_ k (by simp; omega)
  rwa [List.getElem_append_left hk] at this
theorem StkN.top {E : List En} {id : Nat} {L : List (Nat × Nat)} {n : Nat × Nat} (h : StkN E id (L ++ [n])) : L.length + n.1 ≤ id := by
  have := h.at_ L.length (by simp)
  simpa using this
theorem StkN.push {E : List En} {id : Nat} {L : List (Nat × Nat)} {n : Nat × Nat} (h : StkN E id L) (ho : n.1 ≤ E.length ∧ (entAt E n.1).even = true ∧ n.2 + (txt E n.1).length ≤ (txt E id).length) (ht : L.length + n.1 ≤ id) : StkN E id (L ++ [n]) := by
  refine ⟨fun m hm => ?_, fun k hk => ?_⟩
  · rcases List.mem_append.1 hm with hm | hm
    · exact h.ok m hm
    · rw [List.mem_singleton.1 hm]; exact ho
  · by_cases hkl : k < L.length
    · rw [List.getElem_append_left hkl]; exact h.at_ k hkl
    · have : k = L.length := by simp at hk; omega
      subst this; simpa using ht
theorem wkN_pair {E : List En} {i l r a b c : Nat} (hn : PcN E i l r) : wkN E [(l, a)] + wkN E [(r, b)] < wkN E [(i, c)] := by
  have hlen : (txt E i).length = (txt E l).length + (txt E r).length := by rw [hn.txt, List.length_append]
  have h1 := hn.lp; have h2 := hn.rp
  show ((if (txt E l).length = 0 then 1 else 2 * (txt E l).length - 1) + 0) + ((if (txt E r).length = 0 then 1 else 2 * (txt E r).length - 1) + 0) < (if (txt E i).length = 0 then 1 else 2 * (txt E i).length - 1) + 0
  rw [if_neg (by omega), if_neg (by omega), if_neg (by omega)]
  omega
end M
end Go.Proofs.Ytpjcfepngjpfbaa
