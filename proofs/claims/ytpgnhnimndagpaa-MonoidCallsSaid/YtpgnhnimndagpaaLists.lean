/- Lists and folds: no program. -/
namespace Go.Proofs.Ytpgnhnimndagpaa
def catB (L : List ByteArray) : ByteArray := L.foldl (· ++ ·) ⟨#[]⟩
def lenB (L : List ByteArray) : Nat := (L.map ByteArray.size).sum
theorem foldl_size (L : List ByteArray) : ∀ s : ByteArray, (L.foldl (· ++ ·) s).size = s.size + lenB L := by
  induction L with
  | nil => intro s; simp [lenB]
  | cons a L ih => intro s; simp only [List.foldl_cons, ih]; simp [lenB]; omega
theorem take_snoc {α β : Type} (f : β → α → β) (b : β) (L : List α) (j : Nat) (hj : j < L.length) : (L.take (j + 1)).foldl f b = f ((L.take j).foldl f b) L[j] := by
  rw [List.take_succ_eq_append_getElem hj, List.foldl_append]; rfl
theorem lenB_take (L : List ByteArray) (j : Nat) : lenB (L.take j) ≤ lenB L := by
  conv => rhs; rw [← List.take_append_drop j L]
  simp [lenB, -List.take_append_drop]
theorem lenB_at (L : List ByteArray) (j : Nat) (hj : j < L.length) : lenB (L.take j) + L[j].size ≤ lenB L := by
  have h := lenB_take L (j + 1)
  rw [List.take_succ_eq_append_getElem hj] at h
  rw [lenB, List.map_append, List.sum_append] at h
  simpa [lenB, -List.map_take] using h
theorem ba_empty (s : ByteArray) : (⟨#[]⟩ : ByteArray) ++ s = s := ByteArray.empty_append
/-- The fold of a list, its first element first. -/
def fold1 {α : Type} (f : α → α → α) (u : α) : List α → α
  | [] => u
  | a :: l => l.foldl f a
theorem fold1_succ {α : Type} (f : α → α → α) (u : α) (L : List α) (j : Nat) (h0 : 0 < j) (hj : j < L.length) : fold1 f u (L.take (j + 1)) = f (fold1 f u (L.take j)) L[j] := by
  cases L with
  | nil => simp at hj
  | cons a L =>
    obtain ⟨i, rfl⟩ : ∃ i, j = i + 1 := ⟨j - 1, by omega⟩
    simp only [List.take_succ_cons, fold1, List.getElem_cons_succ]
    exact take_snoc f a L i (by simpa using hj)
theorem fold1_one {α : Type} (f : α → α → α) (u : α) (L : List α) (j : Nat) (h0 : ¬ 0 < j) (hj : j < L.length) : fold1 f u (L.take (j + 1)) = L[j] := by
  obtain rfl : j = 0 := by omega
  cases L with
  | nil => simp at hj
  | cons a L => simp [fold1]
end Go.Proofs.Ytpgnhnimndagpaa
