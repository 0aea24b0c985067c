/- Texts and their weights. No program. -/
namespace Go.Proofs.Ytplccefjljdjnaa
namespace M
def Q : Nat := 2305843009213693951
def bs : Nat := 1103515245
def stepM (m c v b : Nat) : Nat := (v * c + (b + 1)) % m
theorem foldM_lt {m c : Nat} (hm : 0 < m) : ∀ (t : List Nat) (v : Nat), v < m → t.foldl (stepM m c) v < m
  | [], v, h => h
  | b :: t, v, _ => foldM_lt hm t _ (Nat.mod_lt _ hm)
theorem foldM_eq (m c : Nat) : ∀ (t : List Nat) (v : Nat), t.foldl (stepM m c) v % m = (v * c ^ t.length + t.foldl (stepM m c) 0) % m
  | [], v => by simp
  | b :: t, v => by
    rw [List.foldl_cons, List.foldl_cons, foldM_eq m c t (stepM m c v b), List.length_cons, Nat.pow_succ]
    rw [Nat.add_mod (v * _) , foldM_eq m c t (stepM m c 0 b), ← Nat.add_mod]
    have h1 : ∀ x : Nat, (x % m * c ^ t.length + t.foldl (stepM m c) 0) % m = (x * c ^ t.length + t.foldl (stepM m c) 0) % m := fun x => by
      rw [Nat.add_mod, Nat.mod_mul_mod, ← Nat.add_mod]
    unfold stepM at h1 ⊢
    rw [h1, Nat.zero_mul, Nat.zero_add]
    have h2 : ∀ A X : Nat, (A + ((b + 1) % m * c ^ t.length + X)) % m = (A + ((b + 1) * c ^ t.length + X)) % m := fun A X => by
      rw [← Nat.add_assoc, ← Nat.add_assoc, Nat.add_mod, Nat.add_mod A, Nat.mod_mul_mod, ← Nat.add_mod A, ← Nat.add_mod]
    rw [h2, Nat.add_mul, Nat.mul_assoc, Nat.mul_comm c, Nat.add_assoc]
/-- The digest's value of a text. -/
def dgv (t : List Nat) : Nat := t.foldl (stepM Q bs) 0
structure Dg where
  v : Nat
  s : Nat
def joinD (a b : Dg) : Dg := ⟨(a.v * b.s + b.v) % Q, a.s * b.s % Q⟩
def dg (t : List Nat) : Dg := ⟨dgv t, bs ^ t.length % Q⟩
structure Wt where
  len : Nat
  lines : Nat
  head : Nat
  tail : Nat
  d : Dg
def hdT (t : List Nat) : Nat := t.findIdx (· == 10)
def tlT (t : List Nat) : Nat := t.reverse.findIdx (· == 10)
def wt (t : List Nat) : Wt := ⟨t.length, t.count 10, hdT t, tlT t, dg t⟩
def joinW (a b : Wt) : Wt := ⟨a.len + b.len, a.lines + b.lines, if a.lines = 0 then a.len + b.head else a.head, if b.lines = 0 then b.len + a.tail else b.tail, joinD a.d b.d⟩
/-- A text, k times. -/
def rep (k : Nat) (t : List Nat) : List Nat := (List.replicate k t).flatten
theorem rep_zero (t : List Nat) : rep 0 t = [] := rfl
theorem rep_one (t : List Nat) : rep 1 t = t := by simp [rep]
theorem rep_succ (k : Nat) (t : List Nat) : rep (k + 1) t = t ++ rep k t := by simp [rep, List.replicate_succ]
theorem rep_add (j k : Nat) (t : List Nat) : rep (j + k) t = rep j t ++ rep k t := by
  induction j with
  | zero => rw [Nat.zero_add]; rfl
  | succ j ih => rw [Nat.succ_add, rep_succ, ih, rep_succ, List.append_assoc]
theorem rep_length (k : Nat) (t : List Nat) : (rep k t).length = k * t.length := by simp [rep]
theorem rep_mul (j k : Nat) (t : List Nat) : rep j (rep k t) = rep (j * k) t := by
  induction j with
  | zero => rw [Nat.zero_mul]; rfl
  | succ j ih => rw [rep_succ, ih, Nat.succ_mul, Nat.add_comm, rep_add]
theorem Q_pos : 0 < Q := by decide
theorem dgv_lt (t : List Nat) : dgv t < Q := foldM_lt Q_pos t 0 Q_pos
theorem dgv_append (s t : List Nat) : dgv (s ++ t) = (dgv s * (bs ^ t.length % Q) + dgv t) % Q := by
  have h := foldM_eq Q bs t (dgv s)
  have h2 : dgv (s ++ t) = t.foldl (stepM Q bs) (dgv s) := by unfold dgv; rw [List.foldl_append]
  rw [h2, ← Nat.mod_eq_of_lt (foldM_lt Q_pos t (dgv s) (dgv_lt s)), h]
  show (dgv s * bs ^ t.length + dgv t) % Q = _
  rw [Nat.add_mod, Nat.mul_mod, Nat.add_mod (dgv s * (bs ^ t.length % Q)), Nat.mul_mod (dgv s) (bs ^ t.length % Q), Nat.mod_mod]
theorem dg_append (s t : List Nat) : dg (s ++ t) = joinD (dg s) (dg t) := by
  unfold dg joinD
  simp only [Dg.mk.injEq]
  refine ⟨dgv_append s t, ?_⟩
  rw [List.length_append, Nat.pow_add, Nat.mul_mod]
theorem hdT_append (s t : List Nat) : hdT (s ++ t) = if s.count 10 = 0 then s.length + hdT t else hdT s := by
  unfold hdT
  rw [List.findIdx_append]
  by_cases h : s.count 10 = 0
  · have h2 : ¬ (s.findIdx (· == 10) < s.length) := by
      rw [List.findIdx_lt_length]
      rintro ⟨x, hx, e⟩
      have : x = 10 := by simpa using e
      subst this
      exact (List.count_eq_zero.1 h) hx
    rw [if_neg h2, if_pos h, Nat.add_comm]
  · have h2 : s.findIdx (· == 10) < s.length := by
      rw [List.findIdx_lt_length]
      exact ⟨10, List.count_pos_iff.1 (Nat.pos_of_ne_zero h), by simp⟩
    rw [if_pos h2, if_neg h]
theorem tlT_append (s t : List Nat) : tlT (s ++ t) = if t.count 10 = 0 then t.length + tlT s else tlT t := by
  have := hdT_append t.reverse s.reverse
  rw [← List.reverse_append] at this
  unfold hdT at this
  unfold tlT
  rw [this, List.count_reverse, List.length_reverse]
theorem wt_append (s t : List Nat) : wt (s ++ t) = joinW (wt s) (wt t) := by
  unfold wt joinW
  simp only [Wt.mk.injEq]
  exact ⟨by simp, by simp, hdT_append s t, tlT_append s t, dg_append s t⟩
/-- A weight's fields fit each other. -/
structure Good (w : Wt) : Prop where
  none : w.lines = 0 → w.head = w.len ∧ w.tail = w.len
  some : 0 < w.lines → w.head + w.tail + w.lines ≤ w.len
  one : w.lines = 1 → w.head + w.tail + 1 = w.len
theorem Good.join {a b : Wt} (ha : Good a) (hb : Good b) : Good (joinW a b) := by
  obtain ⟨a1, a2, a3⟩ := ha
  obtain ⟨b1, b2, b3⟩ := hb
  obtain ⟨al, an, ah, at', ad⟩ := a
  obtain ⟨bl, bn, bh, bt, bd⟩ := b
  dsimp only at *
  unfold joinW
  refine ⟨fun h => ?_, fun h => ?_, fun h => ?_⟩
  all_goals
    dsimp only at *
    split <;> split <;> omega
theorem good_wt (t : List Nat) : Good (wt t) := by
  induction t with
  | nil => exact ⟨fun _ => ⟨rfl, rfl⟩, fun h => by simp [wt] at h, fun h => by simp [wt] at h⟩
  | cons b t ih =>
    have e : b :: t = [b] ++ t := rfl
    rw [e, wt_append]
    refine Good.join ?_ ih
    by_cases h : b = 10
    · subst h
      exact ⟨fun h => by simp [wt] at h, fun _ => by simp [wt, hdT, tlT, List.findIdx_cons], fun _ => by simp [wt, hdT, tlT, List.findIdx_cons]⟩
    · have h0 : [b].count 10 = 0 := by simp [List.count_cons, h]
      have hb : (b == 10) = false := by simpa using h
      have h1 : hdT [b] = 1 := by simp [hdT, List.findIdx_cons, hb]
      have h2 : tlT [b] = 1 := by simp [tlT, List.findIdx_cons, hb]
      refine ⟨fun _ => ⟨by simp [wt, h1], by simp [wt, h2]⟩, fun hh => ?_, fun hh => ?_⟩
      · have : 0 < [b].count 10 := hh
        omega
      · have : [b].count 10 = 1 := hh
        omega
end M
end Go.Proofs.Ytplccefjljdjnaa
