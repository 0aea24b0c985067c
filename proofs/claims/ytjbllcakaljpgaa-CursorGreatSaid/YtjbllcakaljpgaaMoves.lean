/- The cursor's moves by lines, each as what it makes of the cursor's block; what the law about lines asks of them. No walk. -/
import Derived.Test.YtjbllcakaljpgaaNlP
import Derived.Below
import Derived.WalkKit
import Derived.Lib.Hide
import Derived.Test.YtjbllcakaljpgaaNextL
namespace Go.Proofs.Ytjbllcakaljpgaa
open Go.RowKit
namespace M
theorem nlp_one : ∀ (t : List Nat), 0 < t.count 10 → nlp t 1 = hdT t + 1
  | [], h => by simp at h
  | c :: t, h => by
    show 1 + nlp t (if c = 10 then 0 else 0 + 1) = hdT (c :: t) + 1
    by_cases hc : c = 10
    · subst hc
      rw [if_pos rfl, nlp_zero]
      simp [hdT, List.findIdx_cons]
    · rw [if_neg hc]
      rw [List.count_cons_of_ne (by simpa using hc)] at h
      have hb : (c == 10) = false := by simpa using hc
      have := nlp_one t h
      rw [Nat.zero_add, this]
      simp only [hdT, List.findIdx_cons, hb, cond_false]
      omega
/-- The next line begins behind the first line feed that follows. -/
theorem nlp_next (t : List Nat) {a : Nat} (ha : a ≤ t.length) (h : 0 < (t.drop a).count 10) : nlp t ((t.take a).count 10 + 1) = a + hdT (t.drop a) + 1 := by
  have e : t.take a ++ t.drop a = t := List.take_append_drop a t
  have h1 := nlp_right (t.take a) (t.drop a) ((t.take a).count 10 + 1) (by omega)
  rw [e, List.length_take, Nat.min_eq_left ha, Nat.add_sub_cancel_left, nlp_one _ h] at h1
  rw [h1]; omega
theorem tl_last {t : List Nat} {j : Nat} (hj : 0 < j) (h : t[j - 1]? = some 10) : tlT (t.take j) = 0 := by
  have hlt := (List.getElem?_eq_some_iff.1 h).1
  have e : t.take j = t.take (j - 1) ++ [10] := by
    have h1 := List.take_add_one (l := t) (i := j - 1)
    rw [show j - 1 + 1 = j by omega, h] at h1
    exact h1
  rw [e]
  simp [tlT, List.findIdx_cons]
/-- The letters behind the last line feed. -/
theorem tl_cut (s : List Nat) : (s.take (s.length - tlT s)).count 10 = s.count 10 ∧ tlT (s.take (s.length - tlT s)) = 0 := by
  have hr : ∀ r : List Nat, (r.drop (r.findIdx (· == 10))).count 10 = r.count 10 ∧ (r.drop (r.findIdx (· == 10))).findIdx (· == 10) = 0 := by
    intro r
    induction r with
    | nil => exact ⟨rfl, rfl⟩
    | cons c r ih =>
      by_cases hc : c = 10
      · subst hc
        simp [List.findIdx_cons]
      · have hb : (c == 10) = false := by simpa using hc
        rw [List.findIdx_cons, hb]
        simp only [cond_false, List.drop_succ_cons]
        rw [List.count_cons_of_ne (by simpa using hc)]
        exact ih
  have h := hr s.reverse
  have e : (s.reverse.drop (tlT s)).reverse = s.take (s.length - tlT s) := by
    rw [List.reverse_drop]; simp
  have h1 := h.1
  have h2 := h.2
  rw [List.count_reverse] at h1
  constructor
  · rw [← e, List.count_reverse]; exact h1
  · unfold tlT
    rw [show s.take (s.length - s.reverse.findIdx (· == 10)) = (s.reverse.drop (s.reverse.findIdx (· == 10))).reverse from e.symm, List.reverse_reverse]
    exact h2
theorem count_take_le (t : List Nat) {i j : Nat} (h : i ≤ j) : (t.take i).count 10 ≤ (t.take j).count 10 := by
  have : t.take i = (t.take j).take i := by rw [List.take_take, Nat.min_eq_left h]
  rw [this]
  exact List.Sublist.count_le _ (List.take_sublist _ _)
end M
end Go.Proofs.Ytjbllcakaljpgaa
namespace Go.Proofs.Ytjbllcakaljpgaa
open Go.RowKit
/-- Nothing that lay has turned but block C. -/
structure BC (C : Nat) (A B : World) : Prop where
  os : B.os = A.os
  tape : B.tape = A.tape
  output : B.output = A.output
  size : A.heap.size ≤ B.heap.size
  block : ∀ k, k < A.heap.size → k ≠ C → B.heap[k]? = A.heap[k]?
theorem BC.of {C : Nat} {A B : World} (h : Below A.heap.size A B) : BC C A B := ⟨h.os, h.tape, h.output, h.size, fun k hk _ => h.block k hk⟩
theorem BC.refl (C : Nat) (A : World) : BC C A A := .of (Below.refl _ _)
theorem BC.trans {C : Nat} {A B D : World} (h : BC C A B) (k : BC C B D) : BC C A D :=
  ⟨k.os.trans h.os, k.tape.trans h.tape, k.output.trans h.output, Nat.le_trans h.size k.size, fun i hi hc => (k.block i (Nat.lt_of_lt_of_le hi h.size) hc).trans (h.block i hi hc)⟩
theorem BC.set {C : Nat} {A B : World} (h : BC C A B) {p : Addr} (hp : A.heap.size ≤ p.block ∨ p.block = C) (u : Value) : BC C A (B.setCell p u) :=
  ⟨h.os, h.tape, h.output, Nat.le_trans h.size (by simp [World.setCell]), fun k hk hc => (Below.heap_setCell _ _ _ _ (by omega)).trans (h.block k hk hc)⟩
theorem BC.obj {C : Nat} {A B : World} (h : BC C A B) {k : Nat} (hc : k ≠ C) {o : Obj} (ho : A.heap[k]? = some o) : B.heap[k]? = some o := (h.block k (Array.getElem?_eq_some_iff.1 ho).1 hc).trans ho
/-- Where that block holds again what it held, nothing has turned. -/
theorem BC.close {C : Nat} {A B : World} (h : BC C A B) (hc : B.heap[C]? = A.heap[C]?) : Below A.heap.size A B :=
  ⟨h.os, h.tape, h.output, h.size, fun k hk => by
    by_cases e : k = C
    · subst e; exact hc
    · exact h.block k hk e⟩
theorem BC.grown {C : Nat} {A B : World} (h : A.grownBy B (some C)) : BC C A B := ⟨h.os, h.tape, h.output, h.size, fun k hk hne => h.block k hk (fun e => hne (Option.some.inj e))⟩
end Go.Proofs.Ytjbllcakaljpgaa
namespace Go.Proofs.Ytjbllcakaljpgaa
open Go.RowKit Go.Lib
namespace M
theorem StAt.bc {n0 B most c b' id len k : Nat} {W W' : World} {E : List En} (h : StAt n0 W B most E) (hc : CuC W c b' id len k) (hb : BC c W W') : StAt n0 W' B most E := by
  obtain ⟨lv, mb, k1, k2, k3, k4⟩ := h
  refine ⟨lv, mb, hb.obj (ne_type k1 hc (by decide)) k1, SlA.keep k2 (fun k cs fz h => hb.obj (ne_type h hc (by decide)) h), ?_, k4⟩
  obtain ⟨es, cc, h5, h6⟩ := k3
  refine ⟨es, cc, hb.obj (fun e => ?_) h5, h6⟩
  subst e; unfold CuC at hc; rw [hc] at h5; cases h5
theorem CuC.bc {c d b' id' len' k' : Nat} {W W' : World} (h : CuC W d b' id' len' k') (hb : BC c W W') (hn : d ≠ c) : CuC W' d b' id' len' k' := hb.obj hn h
theorem WtC.bc {c g b' id len k : Nat} {W W' : World} {u : Wt} (h : WtC W g u) (hc : CuC W c b' id len k) (hb : BC c W W') : WtC W' g u := hb.obj (ne_type h hc (by decide)) h
theorem below_bc {n c : Nat} {A W W' : World} (h : Below n A W) (hb : BC c W W') (hn : n ≤ c) (hs : n ≤ W.heap.size) : Below n A W' :=
  ⟨hb.os.trans h.os, hb.tape.trans h.tape, hb.output.trans h.output, Nat.le_trans h.size hb.size, fun k hk => (hb.block k (by omega) (by omega)).trans (h.block k hk)⟩
theorem MovP.bc {c b' id len k : Nat} {W w' : World} {o : Option Nat} {e : Ending} (h : CuC W c b' id len k) (m : MovP c W o e w') : e = .returned (.bool o.isSome) ∧ CuC w' c b' id len (o.getD k) ∧ BC c W w' := by
  cases o with
  | none =>
    obtain ⟨rfl, hb⟩ := m
    exact ⟨rfl, below_block hb h, .of hb⟩
  | some j =>
    obtain ⟨rfl, w1, hb, rfl⟩ := m
    exact ⟨rfl, CuC.move (below_block hb h) j, (BC.of hb).set (p := ⟨c, 3, none⟩) (.inr rfl) _⟩
theorem count_cut (t : List Nat) (a : Nat) : t.count 10 = (t.take a).count 10 + (t.drop a).count 10 := by
  rw [← List.count_append, List.take_append_drop]
theorem nxF_some {t : List Nat} {a : Nat} (ha : a ≤ t.length) (h : 0 < (t.drop a).count 10) : nxF t a = some (a + hdT (t.drop a) + 1) := by
  unfold nxF
  rw [if_neg (by have := count_cut t a; omega), nlp_next t ha h]
theorem nxF_none {t : List Nat} {a : Nat} (h : (t.drop a).count 10 = 0) : nxF t a = none := by
  unfold nxF
  rw [if_pos (by have := count_cut t a; omega)]
theorem nx_at {t : List Nat} {a : Nat} (ha : a ≤ t.length) (h : 0 < (t.drop a).count 10) : a + hdT (t.drop a) + 1 ≤ t.length ∧ (t.take (a + hdT (t.drop a) + 1)).count 10 = (t.take a).count 10 + 1 ∧ tlT (t.take (a + hdT (t.drop a) + 1)) = 0 ∧ t[a + hdT (t.drop a)]? = some 10 := by
  obtain ⟨h1, h2, h3⟩ := nlp_spec t ((t.take a).count 10 + 1) (by omega) (by have := count_cut t a; omega)
  rw [nlp_next t ha h] at h1 h2 h3
  rw [Nat.add_sub_cancel] at h3
  exact ⟨(List.getElem?_eq_some_iff.1 h3).1, h1, tl_last (by omega) (by rw [Nat.add_sub_cancel]; exact h3), h3⟩
theorem tl_le (t : List Nat) (a : Nat) : tlT (t.take a) ≤ a := by
  have h1 : tlT (t.take a) ≤ (t.take a).reverse.length := List.findIdx_le_length
  rw [List.length_reverse] at h1
  exact Nat.le_trans h1 (List.length_take_le _ _)
theorem tl_pos_count {s : List Nat} (h : tlT s = 0) (h0 : 0 < s.length) : 0 < s.count 10 := by
  have hr : 0 < s.reverse.length := by simpa using h0
  have h1 : tlT s < s.reverse.length := by rw [h]; exact hr
  have h2 := List.findIdx_getElem (p := (· == 10)) (xs := s.reverse) (w := h1)
  have h3 : (10 : Nat) ∈ s := by
    have h4 : s.reverse[s.reverse.findIdx (· == 10)]'h1 = 10 := by simpa using h2
    rw [← List.mem_reverse, ← h4]
    exact List.getElem_mem h1
  exact List.count_pos_iff.2 h3
/-- Where PrevLine leads. -/
theorem pv_cases {t : List Nat} {a : Nat} (ha : a ≤ t.length) :
    (a = 0 ∧ pvF t a = none ∧ tlT (t.take a) = 0 ∧ (t.take a).count 10 = 0) ∨
    (0 < a ∧ 0 < tlT (t.take a) ∧ pvF t a = some (a - tlT (t.take a)) ∧ (t.take (a - tlT (t.take a))).count 10 = (t.take a).count 10 ∧ tlT (t.take (a - tlT (t.take a))) = 0) ∨
    (0 < a ∧ tlT (t.take a) = 0 ∧ 0 < (t.take a).count 10 ∧ ∃ p, pvF t a = some p ∧ p < a ∧ (t.take p).count 10 = (t.take a).count 10 - 1 ∧ tlT (t.take p) = 0) := by
  rcases Nat.eq_zero_or_pos a with h0 | h0
  · subst h0
    left
    simp [pvF, tlT]
  · right
    rcases Nat.eq_zero_or_pos (tlT (t.take a)) with h1 | h1
    · right
      have hc := tl_pos_count h1 (by rw [List.length_take]; omega)
      refine ⟨h0, h1, hc, nlp t ((t.take a).count 10 - 1), ?_, ?_, ?_⟩
      · unfold pvF; rw [if_neg (by omega), if_pos hc]
      · rcases Nat.lt_or_ge (nlp t ((t.take a).count 10 - 1)) a with g | g
        · exact g
        · exfalso
          rcases Nat.eq_zero_or_pos ((t.take a).count 10 - 1) with g2 | g2
          · rw [g2, nlp_zero] at g; omega
          · have h3 := count_take_le t g
            have := (nlp_spec t ((t.take a).count 10 - 1) g2 (by have := count_cut t a; omega)).1
            omega
      · rcases Nat.eq_zero_or_pos ((t.take a).count 10 - 1) with g2 | g2
        · rw [g2, nlp_zero]; simp [tlT]
        · obtain ⟨q1, q2, q3⟩ := nlp_spec t ((t.take a).count 10 - 1) g2 (by have := count_cut t a; omega)
          exact ⟨q1, tl_last q2 q3⟩
    · left
      have hl : (t.take a).length = a := by rw [List.length_take]; omega
      obtain ⟨q1, q2⟩ := tl_cut (t.take a)
      rw [hl, List.take_take, Nat.min_eq_left (by omega)] at q1 q2
      exact ⟨h0, h1, by unfold pvF; rw [if_pos h1], q1, q2⟩
end M
end Go.Proofs.Ytjbllcakaljpgaa
