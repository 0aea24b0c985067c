/- The reference's Changed is Changed: plain laws. -/
import Derived.Test.YtdgclambplipnaaRefChg
namespace Go.Proofs.Ytdgclambplipnaa
open Go.RowKit
namespace ii

def insAll (A L : List (Int × Int)) : List (Int × Int) := L.foldl (fun a p => insL lt p.1 p.2 a) A
theorem insAll_ok : ∀ (L A : List (Int × Int)), Sorted lt A → OkL ok A → OkL ok L → Sorted lt (insAll A L) ∧ OkL ok (insAll A L) ∧ putAll (rep kf A) (rep kf L) = rep kf (insAll A L)
  | [], A, h1, h2, _ => ⟨h1, h2, rfl⟩
  | p :: L, A, h1, h2, h3 => by
    have hp := h3 p (List.mem_cons_self ..)
    have h4 : OkL ok (insL lt p.1 p.2 A) := fun q hq => by
      rcases insL_mem hq with rfl | hq
      · exact hp
      · exact h2 q hq
    obtain ⟨a, b, c⟩ := insAll_ok L (insL lt p.1 p.2 A) (insL_sorted st h1) h4 (fun q hq => h3 q (List.mem_cons_of_mem _ hq))
    refine ⟨a, b, ?_⟩
    show putAll (putR (kf p.1) p.2 (rep kf A)) (rep kf L) = _
    rw [rep_put km hp st h2 h1]
    exact c
theorem insL_keys {k v : Int} : ∀ {l : List (Int × Int)} {q : Int}, q ∈ (insL lt k v l).map Prod.fst ↔ q = k ∨ q ∈ l.map Prod.fst
  | [], q => by simp [insL]
  | p :: l, q => by
    simp only [insL]
    by_cases h1 : lt k p.1
    · rw [if_pos h1]; simp
    · rw [if_neg h1]
      by_cases h2 : lt p.1 k
      · rw [if_pos h2, List.map_cons, List.mem_cons, insL_keys (l := l), List.map_cons, List.mem_cons]
        constructor
        · rintro (h | h | h)
          · exact .inr (.inl h)
          · exact .inl h
          · exact .inr (.inr h)
        · rintro (h | h | h)
          · exact .inr (.inl h)
          · exact .inl h
          · exact .inr (.inr h)
      · rw [if_neg h2]
        have e : p.1 = k := by simp [lt] at h1 h2; omega
        simp [e]
theorem insAll_keys : ∀ {L A : List (Int × Int)} {q : Int}, q ∈ (insAll A L).map Prod.fst ↔ q ∈ A.map Prod.fst ∨ q ∈ L.map Prod.fst
  | [], A, q => by simp [insAll]
  | p :: L, A, q => by
    show q ∈ (insAll (insL lt p.1 p.2 A) L).map Prod.fst ↔ _
    rw [insAll_keys (L := L), insL_keys, List.map_cons, List.mem_cons]
    constructor
    · rintro ((h | h) | h)
      · exact .inr (.inl h)
      · exact .inl h
      · exact .inr (.inr h)
    · rintro (h | h | h)
      · exact .inl (.inr h)
      · exact .inl (.inl h)
      · exact .inr h
theorem lk_drop {k : Int} : ∀ {X : List (Int × Int)}, Inc X → lk k X = match X[(X.takeWhile fun p => decide (p.1 < k)).length]? with | some p => if p.1 = k then some p.2 else none | none => none
  | [], _ => rfl
  | x :: xs, h => by
    obtain ⟨h1, h2⟩ := List.pairwise_cons.1 h
    by_cases hx : x.1 < k
    · rw [lk_n (by omega), lk_drop h2, List.takeWhile_cons_of_pos (by simpa using hx)]
      rfl
    · rw [List.takeWhile_cons_of_neg (by simpa using hx)]
      show _ = if x.1 = k then some x.2 else none
      by_cases e : x.1 = k
      · rw [lk_y e, if_pos e]
      · rw [if_neg e]
        exact lk_none fun z hz => by
          rcases List.mem_cons.1 hz with rfl | hz
          · omega
          · have := h1 z hz; omega
theorem getR_lk {k : Int} (hk : ok k) {X : List (Int × Int)} (hs : Sorted lt X) (ho : OkL ok X) : getR (kf k) (rep kf X) = match lk k X with | some v => (v, true) | none => (0, false) := by
  unfold getR
  rw [rep_ceil km hk ho, lk_drop (inc_of hs)]
  have e : (X.takeWhile fun p => lt p.1 k) = X.takeWhile fun p => decide (p.1 < k) := rfl
  rw [e]
  generalize (X.takeWhile fun p => decide (p.1 < k)).length = c
  have hr : (rep kf X)[c]? = (X[c]?).map fun p => (kf p.1, p.2) := by unfold rep; rw [List.getElem?_map]
  rw [hr]
  cases hx : X[c]? with
  | none => rfl
  | some p =>
    have hp := ho p (List.mem_of_getElem? hx)
    simp only [Option.map_some]
    by_cases h : p.1 = k
    · rw [if_pos ((km.same p.1 k hp hk).2 h), if_pos h]
    · rw [if_neg (fun e => h ((km.same p.1 k hp hk).1 e)), if_neg h]
theorem difR_lk {k : Int} (hk : ok k) {X Y : List (Int × Int)} (hx : Sorted lt X) (ox : OkL ok X) (hy : Sorted lt Y) (oy : OkL ok Y) : difR (rep kf X) (rep kf Y) (kf k) = true ↔ lk k X ≠ lk k Y := by
  unfold difR
  rw [getR_lk hk hx ox, getR_lk hk hy oy]
  cases lk k X <;> cases lk k Y <;> simp
theorem refChg_eq {X Y : List (Int × Int)} (hx : Sorted lt X) (ox : OkL ok X) (hy : Sorted lt Y) (oy : OkL ok Y) : refChg (rep kf X) (rep kf Y) = (chg X Y).map kf := by
  obtain ⟨s1, o1, e1⟩ := insAll_ok X [] (by simp [Sorted]) (fun p h => by cases h) ox
  obtain ⟨s2, o2, e2⟩ := insAll_ok Y (insAll [] X) s1 o1 oy
  unfold refChg
  have e1' : putAll [] (rep kf X) = rep kf (insAll [] X) := e1
  rw [e1', e2]
  have hU : chg X Y = ((insAll (insAll [] X) Y).filter fun p => difR (rep kf X) (rep kf Y) (kf p.1)).map Prod.fst := by
    refine inc_unique (chg_inc X Y (inc_of hx) (inc_of hy)) ?_ fun k => ?_
    · exact List.pairwise_map.2 ((inc_of s2).filter _)
    · rw [chg_mem X Y (inc_of hx) (inc_of hy)]
      constructor
      · intro h
        have hk : k ∈ (insAll (insAll [] X) Y).map Prod.fst := by
          rw [insAll_keys, insAll_keys]
          by_cases h1 : lk k X = none
          · right; rw [← lk_mem]; exact fun h2 => h (h1.trans h2.symm)
          · left; right; exact lk_mem.1 h1
        obtain ⟨p, hp, rfl⟩ := List.mem_map.1 hk
        exact List.mem_map.2 ⟨p, List.mem_filter.2 ⟨hp, (difR_lk (o2 p hp) hx ox hy oy).2 h⟩, rfl⟩
      · intro h
        obtain ⟨p, hp, rfl⟩ := List.mem_map.1 h
        obtain ⟨hp, hd⟩ := List.mem_filter.1 hp
        exact (difR_lk (o2 p hp) hx ox hy oy).1 hd
  rw [hU]
  unfold rep
  simp [List.filter_map, Function.comp_def]
end ii
end Go.Proofs.Ytdgclambplipnaa
