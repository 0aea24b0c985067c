/- What a new transaction does to the player as a whole. No walk. -/
import Derived.Test.YtlfodhejpbjfcaaDoSz
namespace Go.Proofs.Ytlfodhejpbjfcaa
open Go.RowKit
namespace S
theorem TxAt.lt {W : World} {b : Nat} {x : Tx} (h : TxAt W b x) : x.t < W.heap.size ∧ x.r < W.heap.size ∧ x.c < W.heap.size := ⟨(Array.getElem?_eq_some_iff.1 h.1).1, h.2.2.1.lt, h.2.2.2.1.lt⟩
theorem BxAt.lt {W : World} {X : Bx} (h : BxAt W X) : X.b < W.heap.size ∧ X.m < W.heap.size := ⟨(Array.getElem?_eq_some_iff.1 h.1).1, h.2.2.lt⟩
/-- Behind a begin: the program's call (w1), the reference's call (w2), the player's block written (w3). -/
theorem PlAt.begun {K p k : Nat} {n0 : Lo} {W w1 w2 w3 : World} {X : Bx} {Vs : List Ver} {m : Sl} {rs : Nat → R5} {f : Slots} {x : Tx} {t : RT} (hP : PlAt K n0 W p X Vs m rs f) (hk : k < 4)
    (hx : TxAt w1 X.b x) (hb1 : Below W.heap.size W w1) (g1 : W.heap.size ≤ x.t) (g2 : W.heap.size ≤ x.r) (g3 : W.heap.size ≤ x.c) (hb : Below w1.heap.size w1 w2) (hI : TxInv X.N x t) (hS : Sz (K + 1) x t)
    {r : R5} (hr : RtAt w2 r.2.1 r.2.2.1 r.2.2.2.1 t) (hr1 : r.1 = t.began) (hr2 : r.2.2.2.2 = t.done)
    (hB : BC p w2 w3) (p3 : PlC w3 p X.b m (up (tsOf f) k (some ⟨x.t, 0, none⟩)) (up rs k r)) :
    PlAt (K + 1) n0 w3 p X Vs m (up rs k r) (up f k (some (x, t))) ∧ Fr n0 W w3 := by
  obtain ⟨h1, h2, h3, h4, h5, ⟨z1, z2, z3, z4, z5⟩, h6, h7⟩ := hP
  have b2 : Below W.heap.size W w2 := Below.step hb1 hb
  have p2 : PlC w2 p X.b m (tsOf f) rs := box_below b2 h1
  have hsz : W.heap.size ≤ w3.heap.size := Nat.le_trans b2.size hB.size
  have hXl := h3.lt
  have ap : ∀ {i}, i < 4 → ∀ {y}, f i = some y → Tx.apart x y.1 := fun {i} hi {y} hy => by
    obtain ⟨l1, l2, l3⟩ := (h6 i hi y hy).1.lt
    exact ⟨by omega, by omega, by omega, by omega, by omega⟩
  refine ⟨⟨?_, (h2.below b2).player p2 hB, (h3.below b2).player p2 hB, h4, h5.mono (by omega), ⟨z1, z2, z3, z4.grow hsz, z5⟩, ?_, ?_⟩, ?_⟩
  · rw [← tsOf_up' f k (x, t)]; exact p3
  · intro j hj y hy
    by_cases e : j = k
    · subst e
      simp only [up, if_true] at hy ⊢
      cases hy
      exact ⟨(hx.below hb).player p2 hB, ⟨by show X.m ≠ x.r; omega, by show X.m ≠ x.c; omega⟩, hI, hS, hr.player p2 hB, hr1, hr2, z4.new g1, z4.new g2, z4.new g3⟩
    · simp only [up, if_neg e] at hy ⊢
      obtain ⟨t1, t2, t3, t4, t5, t6, t7, t8, t9, t10⟩ := h6 j hj y hy
      exact ⟨(t1.below b2).player p2 hB, t2, t3, t4.mono (by omega), (t5.below b2).player p2 hB, t6, t7, t8, t9, t10⟩
  · intro i j hi hj hij y z hy hz
    by_cases e1 : i = k
    · have e2 : j ≠ k := fun e => hij (e1.trans e.symm)
      subst e1
      simp only [up, if_true, if_neg e2] at hy hz
      cases hy
      exact ap hj hz
    · by_cases e2 : j = k
      · subst e2
        simp only [up, if_true, if_neg e1] at hy hz
        cases hz
        exact (ap hi hy).symm
      · simp only [up, if_neg e1, if_neg e2] at hy hz
        exact h7 i j hi hj hij y z hy hz
  · refine ⟨hB.os.trans b2.os, hB.tape.trans b2.tape, hB.output.trans b2.output, hsz, fun i hi hn => ?_, fun t a b c => (KeepT.below b2).trans (p2.keepT hB c)⟩
    have hne : i ≠ p := fun e => by subst e; rcases hn with hn | hn; exact absurd z1.1 (by omega); exact z1.2 hn
    exact (hB.block i (Nat.lt_of_lt_of_le hi b2.size) hne).trans (b2.block i hi)
end S
end Go.Proofs.Ytlfodhejpbjfcaa
