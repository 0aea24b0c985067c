/- PmapOrders: the plain law. -/
import Derived.Test.YtdgclambplipnaaChgRep
import Derived.Test.YtdgclambplipnaaDropPlain
namespace Go.Proofs.Ytdgclambplipnaa
open Go.RowKit
namespace ii

def hf (k : Int) : Int := k.tdiv 2
/-- l is sorted, its keys are S, and at each key stands half of it. -/
def KS (l : List (Int × Int)) (S : Int → Prop) : Prop := Sorted lt l ∧ (∀ p ∈ l, p.2 = hf p.1) ∧ ∀ k, k ∈ l.map Prod.fst ↔ S k
theorem KS.nil : KS [] fun _ => False := ⟨by simp [Sorted], by simp, by simp⟩
theorem KS.cong {l : List (Int × Int)} {S S' : Int → Prop} (h : KS l S) (e : ∀ k, S k ↔ S' k) : KS l S' := ⟨h.1, h.2.1, fun k => (h.2.2 k).trans (e k)⟩
theorem KS.put {l : List (Int × Int)} {S : Int → Prop} (h : KS l S) (k : Int) : KS (insL lt k (hf k) l) fun x => x = k ∨ S x :=
  ⟨insL_sorted st h.1, fun p hp => by
    rcases insL_mem hp with rfl | hp
    · rfl
    · exact h.2.1 p hp, fun x => insL_keys.trans (or_congr Iff.rfl (h.2.2 x))⟩
theorem KS.map {l : List (Int × Int)} {S : Int → Prop} (h : KS l S) : l = (l.map Prod.fst).map fun k => (k, hf k) := by
  rw [List.map_map]
  conv => lhs; rw [← List.map_id l]
  exact List.map_congr_left fun p hp => by
    have := h.2.1 p hp
    show p = (p.1, hf p.1)
    rw [← this]
theorem KS.uniq {a b : List (Int × Int)} {S : Int → Prop} (h : KS a S) (k : KS b S) : a = b := by
  have e : a.map Prod.fst = b.map Prod.fst := inc_unique (List.pairwise_map.2 (inc_of h.1)) (List.pairwise_map.2 (inc_of k.1)) fun x => (h.2.2 x).trans (k.2.2 x).symm
  rw [h.map, k.map, e]
theorem KS.absent {l : List (Int × Int)} {S : Int → Prop} {k : Int} (h : KS l S) (hn : lookL lt k l = none) : ¬ S k := by
  intro hk
  obtain ⟨p, hp, rfl⟩ := List.mem_map.1 ((h.2.2 k).2 hk)
  have := List.find?_eq_none.1 hn p hp
  simp [lt] at this
theorem KS.back {l : List (Int × Int)} {S : Int → Prop} {k v : Int} (h : KS l S) (hk : ¬ S k) : delL lt k (insL lt k v l) = l := by
  refine KS.uniq (S := S) ⟨delL_sorted (insL_sorted st h.1), fun p hp => ?_, fun x => ⟨fun hx => ?_, fun hx => ?_⟩⟩ h
  · obtain ⟨h1, h2⟩ := List.mem_filter.1 hp
    rcases insL_mem h1 with rfl | h1
    · simp [lt] at h2
    · exact h.2.1 p h1
  · obtain ⟨p, hp, rfl⟩ := List.mem_map.1 hx
    obtain ⟨h1, h2⟩ := List.mem_filter.1 hp
    rcases insL_mem h1 with rfl | h1
    · simp [lt] at h2
    · exact (h.2.2 _).1 (List.mem_map_of_mem h1)
  · have hx2 : x ∈ (insL lt k v l).map Prod.fst := insL_keys.2 (.inr ((h.2.2 x).2 hx))
    obtain ⟨p, hp, rfl⟩ := List.mem_map.1 hx2
    have hne : p.1 ≠ k := fun e => hk (e ▸ hx)
    refine List.mem_map_of_mem (List.mem_filter.2 ⟨hp, ?_⟩)
    simp [lt]; omega

/-- The keys that the first and the second way have put ahead of round j. -/
def SA (L : List Int) (j : Nat) (k : Int) : Prop := ∃ i, i < j ∧ L[i]? = some k
def SB (L : List Int) (s j : Nat) (k : Int) : Prop := ∃ i, i < j ∧ L[L.length - 1 - (i + s) % L.length]? = some k
theorem SA_zero (L : List Int) (k : Int) : False ↔ SA L 0 k := by simp [SA]
theorem SB_zero (L : List Int) (s : Nat) (k : Int) : False ↔ SB L s 0 k := by simp [SB]
theorem SA_succ (L : List Int) {j : Nat} (h : j < L.length) (k : Int) : (k = L[j] ∨ SA L j k) ↔ SA L (j + 1) k := by
  unfold SA
  constructor
  · rintro (rfl | ⟨i, hi, e⟩)
    · exact ⟨j, by omega, by simp [h]⟩
    · exact ⟨i, by omega, e⟩
  · rintro ⟨i, hi, e⟩
    by_cases hij : i = j
    · subst hij
      rw [List.getElem?_eq_getElem h] at e
      simp only [Option.some.injEq] at e
      exact .inl e.symm
    · exact .inr ⟨i, by omega, e⟩
theorem SB_succ (L : List Int) (s : Nat) {j q : Nat} (hq : q = L.length - 1 - (j + s) % L.length) (h : q < L.length) (k : Int) : (k = L[q] ∨ SB L s j k) ↔ SB L s (j + 1) k := by
  unfold SB
  constructor
  · rintro (rfl | ⟨i, hi, e⟩)
    · exact ⟨j, by omega, by rw [← hq, List.getElem?_eq_getElem h]⟩
    · exact ⟨i, by omega, e⟩
  · rintro ⟨i, hi, e⟩
    by_cases hij : i = j
    · subst hij
      rw [← hq, List.getElem?_eq_getElem h] at e
      simp only [Option.some.injEq] at e
      exact .inl e.symm
    · exact .inr ⟨i, by omega, e⟩
theorem SB_SA (L : List Int) (s : Nat) (k : Int) : SB L s L.length k ↔ SA L L.length k := by
  unfold SA SB
  constructor
  · rintro ⟨i, hi, e⟩
    exact ⟨_, by have := Nat.mod_lt (i + s) (show 0 < L.length by omega); omega, e⟩
  · rintro ⟨j, hj, e⟩
    have h0 : 0 < L.length := by omega
    have hs := Nat.mod_lt s h0
    refine ⟨(L.length - 1 - j + (L.length - s % L.length)) % L.length, Nat.mod_lt _ h0, ?_⟩
    have e2 : ((L.length - 1 - j + (L.length - s % L.length)) % L.length + s) % L.length = L.length - 1 - j := by
      rw [Nat.mod_add_mod]
      have h1 := Nat.div_add_mod s L.length
      have e3 : L.length - 1 - j + (L.length - s % L.length) + s = L.length - 1 - j + L.length * (s / L.length + 1) := by
        rw [Nat.mul_add, Nat.mul_one]; omega
      rw [e3, Nat.add_mul_mod_self_left, Nat.mod_eq_of_lt (by omega)]
    rw [e2]
    rw [show L.length - 1 - (L.length - 1 - j) = j by omega]
    exact e
end ii
end Go.Proofs.Ytdgclambplipnaa
