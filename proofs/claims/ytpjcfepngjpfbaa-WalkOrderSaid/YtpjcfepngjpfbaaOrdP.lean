/- The rules that an ID reaches, children first; sets of numbers as bits in words. No walk. -/
import Derived.Test.YtpjcfepngjpfbaaSop
set_option linter.unusedVariables false
set_option linter.unusedSimpArgs false
namespace Go.Proofs.Ytpjcfepngjpfbaa
open Go.RowKit
namespace M
/-- Completes i behind what is complete: S, then what i reaches and S lacks. -/
def ordF (E : List En) (i : Nat) (S : List Nat) : List Nat :=
  if i = 0 ∨ i ∈ S then S else
    (if (entAt E i).ru.right < i then ordF E (entAt E i).ru.right (if (entAt E i).ru.left < i then ordF E (entAt E i).ru.left S else S) else (if (entAt E i).ru.left < i then ordF E (entAt E i).ru.left S else S)) ++ [i]
termination_by i
theorem ordF_in {E : List En} {i : Nat} {S : List Nat} (h : i = 0 ∨ i ∈ S) : ordF E i S = S := by
  rw [ordF, if_pos h]
theorem refs_lt {E : List En} (h : Wf E) {i : Nat} (h0 : 0 < i) (hi : i ≤ E.length) : (entAt E i).ru.left < i ∧ (entAt E i).ru.right < i := by
  rcases (h.rule i h0 hi).cases with ⟨-, -, a, b, -⟩ | ⟨-, -, -, a, -, b, -⟩ | ⟨-, -, -, a, b, -⟩ <;> omega
theorem ordF_step {E : List En} (h : Wf E) {i : Nat} (h0 : 0 < i) (hi : i ≤ E.length) {S : List Nat} (hn : i ∉ S) : ordF E i S = ordF E (entAt E i).ru.right (ordF E (entAt E i).ru.left S) ++ [i] := by
  obtain ⟨h1, h2⟩ := refs_lt h h0 hi
  rw [ordF, if_neg (by rintro (h | h); · omega
                       · exact hn h), if_pos h2, if_pos h1]
theorem ordF_sub {E : List En} : ∀ (i : Nat) (S : List Nat), ∀ x ∈ S, x ∈ ordF E i S := by
  intro i
  induction i using Nat.strongRecOn with
  | _ i ih =>
    intro S x hx
    rw [ordF]
    split
    · exact hx
    · refine List.mem_append_left _ ?_
      split
      · rename_i h
        refine ih _ h _ _ ?_
        split
        · rename_i h; exact ih _ h _ _ hx
        · exact hx
      · split
        · rename_i h; exact ih _ h _ _ hx
        · exact hx
theorem ordF_mem {E : List En} : ∀ (i : Nat) (S : List Nat), ∀ x ∈ ordF E i S, x ∈ S ∨ (0 < x ∧ x ≤ i) := by
  intro i
  induction i using Nat.strongRecOn with
  | _ i ih =>
    intro S x hx
    rw [ordF] at hx
    split at hx
    · exact .inl hx
    · rename_i hi
      rcases List.mem_append.1 hx with hx | hx
      · have key : x ∈ (if (entAt E i).ru.left < i then ordF E (entAt E i).ru.left S else S) → x ∈ S ∨ (0 < x ∧ x ≤ i) := by
          intro hx
          split at hx
          · rename_i h
            rcases ih _ h _ _ hx with h' | h'
            · exact .inl h'
            · exact .inr ⟨h'.1, by omega⟩
          · exact .inl hx
        split at hx
        · rename_i h
          rcases ih _ h _ _ hx with h' | h'
          · exact key h'
          · exact .inr ⟨h'.1, by omega⟩
        · exact key hx
      · rw [List.mem_singleton.1 hx]
        exact .inr ⟨by omega, Nat.le_refl _⟩
theorem ordF_self {E : List En} {i : Nat} (h0 : 0 < i) (S : List Nat) : i ∈ ordF E i S := by
  rw [ordF]
  split
  · rename_i h; rcases h with h | h
    · omega
    · exact h
  · exact List.mem_append_right _ (List.mem_singleton.2 rfl)
/-- The first reference of x that S lacks. -/
def nxR (E : List En) (x : Nat) (S : List Nat) : Nat :=
  if (entAt E x).ru.left ≠ 0 ∧ (entAt E x).ru.left ∉ S then (entAt E x).ru.left else if (entAt E x).ru.right ≠ 0 ∧ (entAt E x).ru.right ∉ S then (entAt E x).ru.right else 0
theorem nxR_lt {E : List En} (h : Wf E) {x : Nat} (h0 : 0 < x) (hx : x ≤ E.length) {S : List Nat} (hy : nxR E x S ≠ 0) : nxR E x S < x ∧ nxR E x S ∉ S := by
  obtain ⟨h1, h2⟩ := refs_lt h h0 hx
  unfold nxR at hy ⊢
  split
  · rename_i h; exact ⟨h1, h.2⟩
  · split
    · rename_i h; exact ⟨h2, h.2⟩
    · rename_i a b; rw [if_neg a, if_neg b] at hy; exact absurd rfl hy
theorem ordF_push {E : List En} (h : Wf E) {x : Nat} (h0 : 0 < x) (hx : x ≤ E.length) {S : List Nat} (hn : x ∉ S) (hy : nxR E x S ≠ 0) : ordF E x (ordF E (nxR E x S) S) = ordF E x S := by
  obtain ⟨h1, h2⟩ := refs_lt h h0 hx
  have hlt := (nxR_lt h h0 hx hy).1
  have hn2 : x ∉ ordF E (nxR E x S) S := fun hm => by
    rcases ordF_mem _ _ _ hm with h' | h'
    · exact hn h'
    · omega
  rw [ordF_step h h0 hx hn2, ordF_step h h0 hx hn]
  congr 1
  unfold nxR at hy ⊢
  split
  · rename_i hl
    rw [ordF_in (.inr (ordF_self (Nat.pos_of_ne_zero hl.1) S))]
  · rename_i hl
    have hl' : (entAt E x).ru.left = 0 ∨ (entAt E x).ru.left ∈ S := by
      by_cases h' : (entAt E x).ru.left = 0
      · exact .inl h'
      · exact .inr (by by_cases h3 : (entAt E x).ru.left ∈ S
                       · exact h3
                       · exact absurd ⟨h', h3⟩ hl)
    split
    · rename_i hr
      have hl2 : (entAt E x).ru.left = 0 ∨ (entAt E x).ru.left ∈ ordF E (entAt E x).ru.right S := hl'.imp id (fun h' => ordF_sub _ _ _ h')
      rw [ordF_in hl2, ordF_in (.inr (ordF_self (Nat.pos_of_ne_zero hr.1) S)), ordF_in hl']
    · rename_i hr
      rw [if_neg hl, if_neg hr] at hy
      exact absurd rfl hy
theorem nxR_none {E : List En} {x : Nat} {S : List Nat} (hy : nxR E x S = 0) : ((entAt E x).ru.left = 0 ∨ (entAt E x).ru.left ∈ S) ∧ ((entAt E x).ru.right = 0 ∨ (entAt E x).ru.right ∈ S) := by
  unfold nxR at hy
  split at hy
  · rename_i h; exact absurd hy h.1
  · rename_i hl
    split at hy
    · rename_i h; exact absurd hy h.1
    · rename_i hr
      refine ⟨?_, ?_⟩
      · by_cases h' : (entAt E x).ru.left = 0
        · exact .inl h'
        · by_cases h3 : (entAt E x).ru.left ∈ S
          · exact .inr h3
          · exact absurd ⟨h', h3⟩ hl
      · by_cases h' : (entAt E x).ru.right = 0
        · exact .inl h'
        · by_cases h3 : (entAt E x).ru.right ∈ S
          · exact .inr h3
          · exact absurd ⟨h', h3⟩ hr
theorem ordF_done {E : List En} (h : Wf E) {x : Nat} (h0 : 0 < x) (hx : x ≤ E.length) {S : List Nat} (hn : x ∉ S) (hy : nxR E x S = 0) : ordF E x S = S ++ [x] := by
  obtain ⟨hl, hr⟩ := nxR_none hy
  rw [ordF_step h h0 hx hn, ordF_in hl, ordF_in hr]
theorem ordF_last {E : List En} (h : Wf E) {i : Nat} (h0 : 0 < i) (hi : i ≤ E.length) : ∃ pre, ordF E i [] = pre ++ [i] := ⟨_, ordF_step h h0 hi (by simp)⟩
theorem nodup_le : ∀ (n : Nat) (l : List Nat), l.Nodup → (∀ x ∈ l, 0 < x ∧ x ≤ n) → l.length ≤ n
  | 0, l, _, hb => by
    cases l with
    | nil => simp
    | cons a l => have := hb a (by simp); omega
  | n + 1, l, hn, hb => by
    have h1 := nodup_le n (l.erase (n + 1)) (hn.erase _) (fun x hx => by
      have := (hn.mem_erase_iff).1 hx
      have h2 := hb x this.2
      have h3 := this.1
      omega)
    have h2 := List.length_erase (a := n + 1) (l := l)
    split at h2 <;> omega
/-- Between two rounds of walk.Rules: pre is out, L is the stack. -/
structure RlI (E : List En) (id : Nat) (pre L : List Nat) : Prop where
  tot : L.foldr (fun x S => ordF E x S) pre = ordF E id []
  nodup : (pre ++ L).Nodup
  bd : ∀ x ∈ pre ++ L, 0 < x ∧ x ≤ id
  dec : L.Pairwise (· > ·)
theorem RlI.start {E : List En} {id : Nat} (h0 : 0 < id) : RlI E id [] [id] :=
  ⟨rfl, by simp, by simp; exact h0, by simp⟩
theorem RlI.len {E : List En} {id : Nat} {pre L : List Nat} (h : RlI E id pre L) : pre.length + L.length ≤ id := by
  have := nodup_le id _ h.nodup h.bd
  rwa [List.length_append] at this
theorem RlI.top {E : List En} {id : Nat} {pre L : List Nat} {x : Nat} (h : RlI E id pre (L ++ [x])) : 0 < x ∧ x ≤ id ∧ x ∉ pre := by
  have h1 := h.bd x (by simp)
  refine ⟨h1.1, h1.2, fun hm => ?_⟩
  have h2 := h.nodup
  rw [List.nodup_append] at h2
  exact h2.2.2 x hm x (by simp) rfl
theorem RlI.push {E : List En} (hE : Wf E) {id : Nat} {pre L : List Nat} {x : Nat} (h : RlI E id pre (L ++ [x])) (hid : id ≤ E.length) (hy : nxR E x pre ≠ 0) : RlI E id pre (L ++ [x] ++ [nxR E x pre]) := by
  obtain ⟨t1, t2, t3⟩ := h.top
  obtain ⟨y1, y2⟩ := nxR_lt hE t1 (by omega) hy
  have hd := h.dec
  have hgt : ∀ z ∈ L ++ [x], nxR E x pre < z := by
    intro z hz
    rw [List.pairwise_append] at hd
    rcases List.mem_append.1 hz with hz | hz
    · have := hd.2.2 z hz x (by simp); omega
    · rw [List.mem_singleton.1 hz]; exact y1
  refine ⟨?_, ?_, ?_, ?_⟩
  · rw [List.foldr_append, List.foldr_append]
    simp only [List.foldr_cons, List.foldr_nil]
    rw [ordF_push hE t1 (by omega) t3 hy]
    have := h.tot
    rw [List.foldr_append] at this
    exact this
  · rw [← List.append_assoc, List.nodup_append]
    refine ⟨h.nodup, by simp, fun a ha b hb => ?_⟩
    rw [List.mem_singleton.1 hb]
    rcases List.mem_append.1 ha with ha | ha
    · exact fun e => y2 (e ▸ ha)
    · have := hgt a ha; omega
  · intro z hz
    rw [← List.append_assoc] at hz
    rcases List.mem_append.1 hz with hz | hz
    · exact h.bd z hz
    · rw [List.mem_singleton.1 hz]; exact ⟨Nat.pos_of_ne_zero hy, by omega⟩
  · rw [List.pairwise_append]
    exact ⟨hd, by simp, fun a ha b hb => by rw [List.mem_singleton.1 hb]; exact hgt a ha⟩
theorem RlI.out {E : List En} (hE : Wf E) {id : Nat} {pre L : List Nat} {x : Nat} (h : RlI E id pre (L ++ [x])) (hid : id ≤ E.length) (hy : nxR E x pre = 0) : RlI E id (pre ++ [x]) L := by
  obtain ⟨t1, t2, t3⟩ := h.top
  have hp : (pre ++ [x] ++ L).Perm (pre ++ (L ++ [x])) := by
    rw [List.append_assoc]
    exact List.Perm.append_left pre List.perm_append_comm
  refine ⟨?_, hp.nodup_iff.2 h.nodup, fun z hz => h.bd z (hp.mem_iff.1 hz), (List.pairwise_append.1 h.dec).1⟩
  have := h.tot
  rw [List.foldr_append] at this
  simp only [List.foldr_cons, List.foldr_nil] at this
  rw [ordF_done hE t1 (by omega) t3 hy] at this
  exact this
theorem RlI.pre {E : List En} : ∀ {L pre : List Nat}, pre <+: L.foldr (fun x S => ordF E x S) pre := by
  have key : ∀ (i : Nat) (S : List Nat), S <+: ordF E i S := by
    intro i
    induction i using Nat.strongRecOn with
    | _ i ih =>
      intro S
      rw [ordF]
      split
      · exact List.prefix_refl _
      · refine List.IsPrefix.trans ?_ (List.prefix_append _ _)
        have k1 : S <+: (if (entAt E i).ru.left < i then ordF E (entAt E i).ru.left S else S) := by
          split
          · rename_i h; exact ih _ h S
          · exact List.prefix_refl _
        split
        · rename_i h; exact k1.trans (ih _ h _)
        · exact k1
  intro L
  induction L with
  | nil => intro pre; exact List.prefix_refl _
  | cons a L ih => intro pre; exact ih.trans (key a _)
theorem RlI.le {E : List En} {id : Nat} {pre L : List Nat} (h : RlI E id pre L) : pre <+: ordF E id [] := by rw [← h.tot]; exact RlI.pre
/-- What may come next. -/
structure RlN (E : List En) (id : Nat) (pre : List Nat) (x : Nat) : Prop where
  next : pre ++ [x] <+: ordF E id []
  pos : 0 < x
  le : x ≤ id
  new : x ∉ pre
  left : (entAt E x).ru.left = 0 ∨ (entAt E x).ru.left ∈ pre
  right : (entAt E x).ru.right = 0 ∨ (entAt E x).ru.right ∈ pre
theorem RlI.next {E : List En} (hE : Wf E) {id : Nat} {pre L : List Nat} {x : Nat} (h : RlI E id pre (L ++ [x])) (hid : id ≤ E.length) (hy : nxR E x pre = 0) : RlN E id pre x := by
  obtain ⟨t1, t2, t3⟩ := h.top
  obtain ⟨n1, n2⟩ := nxR_none hy
  exact ⟨(h.out hE hid hy).le, t1, t2, t3, n1, n2⟩
/-- Word j of a set of numbers. -/
def wdS (S : List Nat) (j : Nat) : Nat := S.foldl (fun a x => if x / 64 = j then a ||| 2 ^ (x % 64) else a) 0
theorem wdS_snoc (S : List Nat) (x j : Nat) : wdS (S ++ [x]) j = if x / 64 = j then wdS S j ||| 2 ^ (x % 64) else wdS S j := by
  unfold wdS; rw [List.foldl_append]; rfl
theorem wdS_lt (S : List Nat) (j : Nat) : wdS S j < 2 ^ 64 := by
  have key : ∀ (S : List Nat) (a : Nat), a < 2 ^ 64 → S.foldl (fun a x => if x / 64 = j then a ||| 2 ^ (x % 64) else a) a < 2 ^ 64 := by
    intro S
    induction S with
    | nil => intro a h; exact h
    | cons x S ih =>
      intro a h
      refine ih _ ?_
      dsimp only
      split
      · exact Nat.or_lt_two_pow h (Nat.pow_lt_pow_right (by omega) (Nat.mod_lt _ (by omega)))
      · exact h
  exact key S 0 (by decide)
theorem wdS_bit (S : List Nat) (x : Nat) : (wdS S (x / 64)).testBit (x % 64) = decide (x ∈ S) := by
  have key : ∀ (S : List Nat) (a : Nat), (S.foldl (fun a y => if y / 64 = x / 64 then a ||| 2 ^ (y % 64) else a) a).testBit (x % 64) = (a.testBit (x % 64) || decide (x ∈ S)) := by
    intro S
    induction S with
    | nil => intro a; simp
    | cons y S ih =>
      intro a
      show (S.foldl _ (if y / 64 = x / 64 then a ||| 2 ^ (y % 64) else a)).testBit (x % 64) = _
      rw [ih]
      by_cases hxy : x = y
      · subst hxy
        rw [if_pos rfl, Nat.testBit_or, Nat.testBit_two_pow_self]
        simp
      · have hd : decide (x ∈ y :: S) = decide (x ∈ S) := by simp [hxy]
        rw [hd]
        split
        · rename_i h
          have hne : y % 64 ≠ x % 64 := by omega
          rw [Nat.testBit_or, Nat.testBit_two_pow_of_ne hne]
          simp
        · rfl
  unfold wdS
  rw [key S 0]; simp
theorem wdS_test (S : List Nat) (x : Nat) : (wdS S (x / 64) >>> (x % 64)) &&& 1 = if x ∈ S then 1 else 0 := by
  have h := wdS_bit S x
  rw [Nat.testBit_eq_decide_div_mod_eq] at h
  rw [Nat.and_one_is_mod, Nat.shiftRight_eq_div_pow]
  generalize wdS S (x / 64) / 2 ^ (x % 64) = v at h ⊢
  by_cases hm : x ∈ S
  · rw [if_pos hm]
    rw [decide_eq_true hm] at h
    exact of_decide_eq_true h
  · rw [if_neg hm]
    rw [decide_eq_false hm] at h
    have h2 := of_decide_eq_false h
    omega
end M
end Go.Proofs.Ytpjcfepngjpfbaa
