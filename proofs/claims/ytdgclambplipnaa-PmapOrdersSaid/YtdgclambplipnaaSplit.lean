/- A sorted list parts at a key. No program. -/
import Derived.Test.YtdgclambplipnaaAsks
namespace Go.Proofs.Ytdgclambplipnaa
open Go.RowKit
variable {κ : Type} {lt : κ → κ → Bool} (hs : Strict lt)
include hs

/-- What the split of a sorted list at a key says: A: less; B: not less. -/
theorem split_at (k : κ) (L : List (κ × Int)) (hL : Sorted lt L) : ∃ A B, L = A ++ B ∧ (L.takeWhile fun p => lt p.1 k) = A ∧ (∀ q ∈ A, lt q.1 k = true) ∧
    ((B = [] ∧ ceilL lt k L = none ∧ lookL lt k L = none ∧ floorL lt k L = A.getLast?) ∨
     (∃ b B', B = b :: B' ∧ lt b.1 k = false ∧ ceilL lt k L = some b ∧ ((b.1 = k ∧ lookL lt k L = some b ∧ floorL lt k L = some b) ∨ (lt k b.1 = true ∧ lookL lt k L = none ∧ floorL lt k L = A.getLast?)))) := by
  refine ⟨L.takeWhile fun p => lt p.1 k, L.dropWhile fun p => lt p.1 k, (List.takeWhile_append_dropWhile).symm, rfl, ?_, ?_⟩
  · intro q hq
    exact List.all_eq_true.1 (List.all_takeWhile (p := fun p : κ × Int => lt p.1 k) (l := L)) q hq
  have hA : ∀ q ∈ L.takeWhile (fun p => lt p.1 k), lt q.1 k = true := fun q hq => List.all_eq_true.1 (List.all_takeWhile (p := fun p : κ × Int => lt p.1 k) (l := L)) q hq
  have e : L = L.takeWhile (fun p => lt p.1 k) ++ L.dropWhile (fun p => lt p.1 k) := (List.takeWhile_append_dropWhile).symm
  have hhd := List.head?_dropWhile_not (p := fun p : κ × Int => lt p.1 k) (l := L)
  generalize L.takeWhile (fun p => lt p.1 k) = A at *
  generalize L.dropWhile (fun p => lt p.1 k) = B at *
  subst e
  cases B with
  | nil =>
    left
    refine ⟨rfl, ?_, ?_, ?_⟩
    · exact List.find?_eq_none.2 fun q hq => by simp [hA q (by simpa using hq)]
    · exact List.find?_eq_none.2 fun q hq => by simp [hA q (by simpa using hq)]
    · unfold floorL
      rw [takeWhile_append_all _ _ fun q hq => by simp [hs.asymm (hA q hq)]]
      simp
  | cons b B' =>
    right
    have hb : lt b.1 k = false := by simpa using hhd
    have hsb := sorted_node hL
    refine ⟨b, B', rfl, hb, ?_, ?_⟩
    · unfold ceilL
      rw [find_append_none _ _ fun q hq => by simp [hA q hq], List.find?_cons_of_pos (by simp [hb])]
    · by_cases c : lt k b.1 = true
      · right
        refine ⟨c, ?_, ?_⟩
        · unfold lookL
          rw [find_append_none _ _ fun q hq => by simp [hA q hq], List.find?_cons_of_neg (by simp [c])]
          exact List.find?_eq_none.2 fun q hq => by simp [hs.trans _ _ _ c (hsb.2.2.2 q hq)]
        · unfold floorL
          rw [takeWhile_append_all _ _ fun q hq => by simp [hs.asymm (hA q hq)], List.takeWhile_cons, if_neg (by simp [c])]
          simp
      · left
        have ek := hs.total k b.1 (by simpa using c) hb
        refine ⟨ek.symm, ?_, ?_⟩
        · unfold lookL
          rw [find_append_none _ _ fun q hq => by simp [hA q hq], List.find?_cons_of_pos (by simp [hb]; simpa using c)]
        · unfold floorL
          rw [takeWhile_append_all _ _ fun q hq => by simp [hs.asymm (hA q hq)], List.takeWhile_cons, if_pos (by simpa using c)]
          have : B'.takeWhile (fun p => !lt k p.1) = [] := by
            cases B' with
            | nil => rfl
            | cons d B'' =>
              rw [List.takeWhile_cons, if_neg]
              have := hsb.2.2.2 d List.mem_cons_self
              rw [← ek] at this; simp [this]
          rw [this]
          simp
end Go.Proofs.Ytdgclambplipnaa
