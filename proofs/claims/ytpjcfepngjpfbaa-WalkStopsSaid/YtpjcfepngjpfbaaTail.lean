/- The rest of a drawn region whose operations wait one for the other: a plain list. No program. -/
import Derived.Test.YtpjcfepngjpfbaaOrdHeld
import Derived.TacticsIn
namespace Go.Proofs.Ytpjcfepngjpfbaa
section
variable {F : Fence} {n : Nat} {P : Program} {ops : Array Oper} {Q : Exit → Act → World → Prop} {S : World → Prop}

/-- From number m on each operation alone may come up. -/
def lineB (ops : Array Oper) : Nat → Array Bool → Nat → Bool
  | 0, listed, m => m == ops.size && Region.ready .any ops listed == []
  | k + 1, listed, m => Region.ready .any ops listed == [m] && decide (m < ops.size) && lineB ops k (listed.setIfInBounds m true) (m + 1)

theorem line_any : ∀ (k m : Nat) {listed : Array Bool} {a : Act} {w : World}, lineB ops k listed m = true → wpListIn F n P ops Q (ops.toList.drop m) a w → wpAnyIn F n P .any ops Q k listed a w
  | 0, m, listed, a, w, hl, h => by
    simp only [lineB, Bool.and_eq_true, beq_iff_eq] at hl
    obtain ⟨rfl, hr⟩ := hl
    rw [List.drop_of_length_le (by simp)] at h
    exact ⟨hr, h⟩
  | k + 1, m, listed, a, w, hl, h => by
    simp only [lineB, Bool.and_eq_true, beq_iff_eq, decide_eq_true_eq] at hl
    obtain ⟨⟨hr, hm⟩, hl⟩ := hl
    refine ⟨fun e => (by rw [hr] at e; cases e), fun i hi => ?_⟩
    rw [hr] at hi
    obtain rfl : i = m := by simpa using hi
    have hd : ops.toList.drop i = ops[i] :: ops.toList.drop (i + 1) := by
      rw [List.drop_eq_getElem_cons (by simpa using hm)]; simp
    rw [hd] at h
    unfold wpOpIn
    rw [Array.getElem?_eq_getElem hm]
    simp only [wpListIn] at h
    show if Region.wanted ops[i] (yielded ops a.tmps) = true then _ else _
    split
    · rename_i hw
      rw [if_pos hw] at h
      exact Oper.wpIn_mono (fun _ _ => line_any k (i + 1) hl) h
    · rename_i hw
      rw [if_neg hw] at h
      exact ⟨h.1, line_any k (i + 1) hl h.2⟩

def lineOk (ops : Array Oper) (k : Nat) (listed : Array Bool) (m : Nat) : Bool := lineB ops (k + 1) listed m && bar ops listed m

/-- Behind what has been taken the rest is walked as a list. -/
theorem AnyH.tail (m : Nat) {k : Nat} {listed : Array Bool} {a : Act} {w : World} (hl : lineOk ops k listed m = true) (h : wpListIn F n P ops Q (ops.toList.drop m) a w) : AnyH F n P ops Q S (k + 1) listed a w := by
  unfold lineOk at hl
  simp only [Bool.and_eq_true] at hl
  obtain ⟨hl, hb⟩ := hl
  have hl0 := hl
  simp only [lineB, Bool.and_eq_true, beq_iff_eq] at hl
  obtain ⟨⟨hr, -⟩, -⟩ := hl
  refine ⟨fun e => (by rw [hr] at e; cases e), fun i hi => ?_⟩
  rw [hr] at hi
  obtain rfl : i = m := by simpa using hi
  have hh := (line_any (k + 1) i hl0 h).2 i (by rw [hr]; simp)
  exact wpOpIn_mono (fun _ _ x => .inr ⟨hb, x⟩) hh
theorem AnyH.tailL {l : List Oper} (m : Nat) {k : Nat} {listed : Array Bool} {a : Act} {w : World} (hl : lineOk l.toArray k listed m = true) (h : wpListIn F n P l.toArray Q (l.drop m) a w) : AnyH F n P l.toArray Q S (k + 1) listed a w :=
  AnyH.tail m hl (by simpa using h)
end
end Go.Proofs.Ytpjcfepngjpfbaa
