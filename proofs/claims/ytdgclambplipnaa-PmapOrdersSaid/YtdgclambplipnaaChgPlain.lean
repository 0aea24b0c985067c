/- What differs between two sorted lists: plain laws. No program. -/
import Derived.Test.YtdgclambplipnaaAsks
import Derived.Test.YtdgclambplipnaaDoii
namespace Go.Proofs.Ytdgclambplipnaa
open Go.RowKit
namespace ii

def chg : List (Int × Int) → List (Int × Int) → List Int
  | [], ys => ys.map Prod.fst
  | x :: xs, [] => (x :: xs).map Prod.fst
  | x :: xs, y :: ys => if x.1 < y.1 then x.1 :: chg xs (y :: ys) else if y.1 < x.1 then y.1 :: chg (x :: xs) ys else if x.2 = y.2 then chg xs ys else x.1 :: chg xs ys
termination_by a b => a.length + b.length
theorem chg_nil (ys : List (Int × Int)) : chg [] ys = ys.map Prod.fst := by unfold chg; rfl
theorem chg_nil2 (xs : List (Int × Int)) : chg xs [] = xs.map Prod.fst := by cases xs <;> unfold chg <;> rfl
theorem chg_cons (x : Int × Int) (xs : List (Int × Int)) (y : Int × Int) (ys : List (Int × Int)) : chg (x :: xs) (y :: ys) = if x.1 < y.1 then x.1 :: chg xs (y :: ys) else if y.1 < x.1 then y.1 :: chg (x :: xs) ys else if x.2 = y.2 then chg xs ys else x.1 :: chg xs ys := by
  rw [chg]
theorem chg_self : ∀ X : List (Int × Int), chg X X = []
  | [] => by rw [chg_nil]; rfl
  | x :: xs => by rw [chg_cons, if_neg (by omega), if_neg (by omega), if_pos rfl]; exact chg_self xs

def Inc (l : List (Int × Int)) : Prop := l.Pairwise fun a b => a.1 < b.1
theorem inc_of {l : List (Int × Int)} (h : Sorted lt l) : Inc l := h.imp fun h => by simpa [lt] using h
def lk (k : Int) : List (Int × Int) → Option Int
  | [] => none
  | x :: xs => if x.1 = k then some x.2 else lk k xs
theorem lk_y {k : Int} {x : Int × Int} {xs : List (Int × Int)} (h : x.1 = k) : lk k (x :: xs) = some x.2 := by rw [lk, if_pos h]
theorem lk_n {k : Int} {x : Int × Int} {xs : List (Int × Int)} (h : ¬ x.1 = k) : lk k (x :: xs) = lk k xs := by rw [lk, if_neg h]
theorem lk_none {k : Int} : ∀ {X : List (Int × Int)}, (∀ x ∈ X, k < x.1) → lk k X = none
  | [], _ => rfl
  | x :: xs, h => by
    have := h x (List.mem_cons_self ..)
    rw [lk, if_neg (by omega)]; exact lk_none fun y hy => h y (List.mem_cons_of_mem _ hy)
theorem lk_mem {k : Int} : ∀ {X : List (Int × Int)}, lk k X ≠ none ↔ k ∈ X.map Prod.fst
  | [] => by simp [lk]
  | x :: xs => by
    rw [lk]
    by_cases h : x.1 = k
    · rw [if_pos h]; simp [h]
    · rw [if_neg h, List.map_cons, List.mem_cons, lk_mem (X := xs)]
      constructor
      · exact .inr
      · rintro (e | e)
        · exact absurd e.symm h
        · exact e
theorem chg_mem : ∀ (X Y : List (Int × Int)), Inc X → Inc Y → ∀ k, k ∈ chg X Y ↔ lk k X ≠ lk k Y
  | [], ys, _, _, k => by
    rw [chg_nil, ← lk_mem]; simp [lk]; exact ne_comm
  | x :: xs, [], _, _, k => by
    rw [chg_nil2, ← lk_mem]; simp [lk]
  | x :: xs, y :: ys, hx, hy, k => by
    obtain ⟨hx1, hx2⟩ := List.pairwise_cons.1 hx
    obtain ⟨hy1, hy2⟩ := List.pairwise_cons.1 hy
    rw [chg_cons]
    by_cases h1 : x.1 < y.1
    · rw [if_pos h1, List.mem_cons, chg_mem xs (y :: ys) hx2 hy k]
      by_cases hk : x.1 = k
      · have e1 : lk k (y :: ys) = none := lk_none fun z hz => by
          rcases List.mem_cons.1 hz with rfl | hz
          · omega
          · have := hy1 z hz; omega
        rw [e1, lk_y hk]; simp [hk]
      · rw [lk_n hk]
        constructor
        · rintro (e | e)
          · exact absurd e.symm hk
          · exact e
        · exact .inr
    · rw [if_neg h1]
      by_cases h2 : y.1 < x.1
      · rw [if_pos h2, List.mem_cons, chg_mem (x :: xs) ys hx hy2 k]
        by_cases hk : y.1 = k
        · have e1 : lk k (x :: xs) = none := lk_none fun z hz => by
            rcases List.mem_cons.1 hz with rfl | hz
            · omega
            · have := hx1 z hz; omega
          rw [e1, lk_y hk]; simp [hk]
        · rw [lk_n (x := y) hk]
          constructor
          · rintro (e | e)
            · exact absurd e.symm hk
            · exact e
          · exact .inr
      · have hxy : x.1 = y.1 := by omega
        rw [if_neg h2]
        by_cases hk : x.1 = k
        · have e1 : lk k xs = none := lk_none fun z hz => by have := hx1 z hz; omega
          have e2 : lk k ys = none := lk_none fun z hz => by have := hy1 z hz; omega
          have hh := chg_mem xs ys hx2 hy2 k
          rw [e1, e2] at hh
          rw [lk_y hk, lk_y (x := y) (by omega)]
          by_cases h3 : x.2 = y.2
          · rw [if_pos h3, hh]; simp [h3]
          · rw [if_neg h3]; simp [hk, h3]
        · rw [lk_n hk, lk_n (x := y) (by omega)]
          have hh := chg_mem xs ys hx2 hy2 k
          by_cases h3 : x.2 = y.2
          · rw [if_pos h3, hh]
          · rw [if_neg h3, List.mem_cons, hh]
            constructor
            · rintro (e | e)
              · exact absurd e.symm hk
              · exact e
            · exact .inr
termination_by X Y => X.length + Y.length
theorem chg_keys {X Y : List (Int × Int)} (hx : Inc X) (hy : Inc Y) {k : Int} (h : k ∈ chg X Y) : k ∈ X.map Prod.fst ∨ k ∈ Y.map Prod.fst := by
  have h := (chg_mem X Y hx hy k).1 h
  by_cases h1 : lk k X = none
  · right; rw [← lk_mem]; exact fun h2 => h (h1.trans h2.symm)
  · left; exact lk_mem.1 h1
theorem key_lt {x : Int × Int} {xs : List (Int × Int)} (h : ∀ z ∈ xs, x.1 < z.1) {k : Int} (hk : k ∈ xs.map Prod.fst) : x.1 < k := by
  obtain ⟨z, hz, rfl⟩ := List.mem_map.1 hk; exact h z hz
theorem chg_inc : ∀ (X Y : List (Int × Int)), Inc X → Inc Y → (chg X Y).Pairwise (· < ·)
  | [], ys, _, hy => by rw [chg_nil]; exact List.pairwise_map.2 hy
  | x :: xs, [], hx, _ => by rw [chg_nil2]; exact List.pairwise_map.2 hx
  | x :: xs, y :: ys, hx, hy => by
    obtain ⟨hx1, hx2⟩ := List.pairwise_cons.1 hx
    obtain ⟨hy1, hy2⟩ := List.pairwise_cons.1 hy
    rw [chg_cons]
    by_cases h1 : x.1 < y.1
    · rw [if_pos h1]
      refine List.Pairwise.cons (fun k hk => ?_) (chg_inc xs (y :: ys) hx2 hy)
      rcases chg_keys hx2 hy hk with h | h
      · exact key_lt hx1 h
      · rcases List.mem_cons.1 h with rfl | h
        · exact h1
        · have := key_lt hy1 h; omega
    · rw [if_neg h1]
      by_cases h2 : y.1 < x.1
      · rw [if_pos h2]
        refine List.Pairwise.cons (fun k hk => ?_) (chg_inc (x :: xs) ys hx hy2)
        rcases chg_keys hx hy2 hk with h | h
        · rcases List.mem_cons.1 h with rfl | h
          · exact h2
          · have := key_lt hx1 h; omega
        · exact key_lt hy1 h
      · rw [if_neg h2]
        by_cases h3 : x.2 = y.2
        · rw [if_pos h3]; exact chg_inc xs ys hx2 hy2
        · rw [if_neg h3]
          refine List.Pairwise.cons (fun k hk => ?_) (chg_inc xs ys hx2 hy2)
          rcases chg_keys hx2 hy2 hk with h | h
          · exact key_lt hx1 h
          · have := key_lt hy1 h; omega
termination_by X Y => X.length + Y.length
theorem inc_unique : ∀ {a b : List Int}, a.Pairwise (· < ·) → b.Pairwise (· < ·) → (∀ k, k ∈ a ↔ k ∈ b) → a = b
  | [], [], _, _, _ => rfl
  | [], y :: b, _, _, h => by have := (h y).2 (List.mem_cons_self ..); simp at this
  | x :: a, [], _, _, h => by have := (h x).1 (List.mem_cons_self ..); simp at this
  | x :: a, y :: b, ha, hb, h => by
    obtain ⟨ha1, ha2⟩ := List.pairwise_cons.1 ha
    obtain ⟨hb1, hb2⟩ := List.pairwise_cons.1 hb
    have e : x = y := by
      have h1 := List.mem_cons.1 ((h x).1 (List.mem_cons_self ..))
      have h2 := List.mem_cons.1 ((h y).2 (List.mem_cons_self ..))
      rcases h1 with h1 | h1
      · exact h1
      · rcases h2 with h2 | h2
        · exact h2.symm
        · have := hb1 x h1; have := ha1 y h2; omega
    subst e
    congr 1
    refine inc_unique ha2 hb2 fun k => ⟨fun hk => ?_, fun hk => ?_⟩
    · rcases List.mem_cons.1 ((h k).1 (List.mem_cons_of_mem _ hk)) with rfl | h1
      · have := ha1 k hk; omega
      · exact h1
    · rcases List.mem_cons.1 ((h k).2 (List.mem_cons_of_mem _ hk)) with rfl | h1
      · have := hb1 k hk; omega
      · exact h1
end ii
end Go.Proofs.Ytdgclambplipnaa
