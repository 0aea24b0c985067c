/- The reference's versions: Last, Begin, New. -/
import Derived.Test.YtlfodhejpbjfcaaRefOrd
import Derived.Test.YtlfodhejpbjfcaaCommitPlain
import Derived.Test.YtlfodhejpbjfcaaRefS2
import Derived.Test.YtlfodhejpbjfcaaNamed
namespace Go.Proofs.Ytlfodhejpbjfcaa
open Go.RowKit
namespace S
abbrev Nm := List (ByteArray × Int)
theorem strict_sd : Strict sd.lt := strict_str
theorem beq_eq (a b : ByteArray) : (a.toList == b.toList) = decide (a = b) := by
  by_cases h : a = b
  · subst h; simp
  · rw [decide_eq_false h, beq_eq_false_iff_ne]; exact fun e => h (bytes_ext e)
theorem same_key (a b : ByteArray) : (!sd.lt a b && !sd.lt b a) = decide (b = a) := by
  by_cases h : b = a
  · subst h; simp [strict_sd.irrefl]
  · rw [decide_eq_false h]
    cases h1 : sd.lt a b <;> cases h2 : sd.lt b a <;> simp
    exact h (strict_sd.total _ _ h2 h1)
theorem find_getA {ν : Type} (s : ByteArray) (l : List (ByteArray × ν)) (f : ByteArray × ν → Bool) (hf : ∀ p, f p = decide (p.1 = s)) : l.find? f = (getA s l).map fun v => (s, v) := by
  induction l with
  | nil => rfl
  | cons p l ih =>
    rw [List.find?_cons, getA, hf]
    by_cases e : p.1 = s
    · rw [decide_eq_true e, if_pos e]; simp only [Option.map_some]; rw [← e]
    · rw [decide_eq_false e, if_neg e]; exact ih
theorem lookL_getA (s : ByteArray) (l : Nm) : lookL sd.lt s l = (getA s l).map fun v => (s, v) := find_getA s l _ fun p => same_key s p.1
theorem findR_getA (s : ByteArray) (l : Nm) : findR s l = (getA s l).map fun v => (s, v) := find_getA s l _ fun p => beq_eq p.1 s
theorem inR_iff (s : ByteArray) (l : List ByteArray) : inR s l = true ↔ s ∈ l := by
  unfold inR
  rw [List.any_eq_true]
  constructor
  · rintro ⟨x, hx, h⟩
    rw [beq_eq, decide_eq_true_eq] at h
    exact h ▸ hx
  · intro h
    exact ⟨s, h, by simp⟩
theorem getA_none_lt {s : ByteArray} {l : Nm} (h : ∀ p ∈ l, sd.lt s p.1 = true) : getA s l = none := getA_none fun p hp e => by have := h p hp; rw [e, strict_sd.irrefl] at this; cases this
theorem getA_ins {s t : ByteArray} {x : Int} : ∀ {l : Nm}, Sorted sd.lt l → getA t (insL sd.lt s x l) = if s = t then some x else getA t l
  | [], _ => by simp only [insL, getA]
  | p :: l, h => by
    have h2 := List.pairwise_cons.1 h
    rw [insL]
    split
    · rename_i hlt
      rw [getA]
    · rename_i hn
      split
      · rename_i hlt
        rw [getA, getA_ins h2.2, getA]
        by_cases e : p.1 = t
        · rw [if_pos e, if_pos e, if_neg (fun e2 : s = t => by rw [e2, ← e, strict_sd.irrefl] at hlt; cases hlt)]
        · rw [if_neg e, if_neg e]
      · rename_i hn2
        have e : p.1 = s := strict_sd.total _ _ (by simpa using hn2) (by simpa using hn)
        rw [getA, getA, e]
        by_cases e2 : s = t
        · rw [if_pos e2, if_pos e2]
        · rw [if_neg e2, if_neg e2, if_neg e2]
theorem getA_del {s t : ByteArray} : ∀ {l : Nm}, getA t (delL sd.lt s l) = if s = t then none else getA t l
  | [] => by simp [delL, getA]
  | p :: l => by
    have ih := getA_del (s := s) (t := t) (l := l)
    unfold delL at ih ⊢
    rw [List.filter_cons]
    by_cases e : p.1 = s
    · subst e
      rw [if_neg (by simp [strict_sd.irrefl]), ih, getA]
      by_cases e2 : p.1 = t
      · rw [if_pos e2, if_pos e2]
      · rw [if_neg e2, if_neg e2, if_neg e2]
    · have h1 := same_key s p.1
      rw [decide_eq_false e] at h1
      have h2 : (sd.lt s p.1 || sd.lt p.1 s) = true := by
        cases a : sd.lt s p.1 <;> cases b : sd.lt p.1 s <;> simp_all
      rw [if_pos h2, getA, ih, getA]
      by_cases e2 : p.1 = t
      · rw [if_pos e2, if_pos e2, if_neg (fun e3 => e (e2.trans e3.symm))]
      · rw [if_neg e2, if_neg e2]
theorem sorted_ext : ∀ {l l' : Nm}, Sorted sd.lt l → Sorted sd.lt l' → (∀ s, getA s l = getA s l') → l = l'
  | [], [], _, _, _ => rfl
  | [], q :: l', _, _, h => by have := h q.1; rw [getA, getA, if_pos rfl] at this; cases this
  | p :: l, [], _, _, h => by have := h p.1; rw [getA, getA, if_pos rfl] at this; cases this
  | p :: l, q :: l', h1, h2, h => by
    have a1 := List.pairwise_cons.1 h1
    have a2 := List.pairwise_cons.1 h2
    have e : p.1 = q.1 := by
      refine strict_sd.total _ _ ?_ ?_
      · cases c : sd.lt p.1 q.1 with
        | false => rfl
        | true =>
          have := h p.1
          rw [getA, if_pos rfl, getA_none_lt (l := q :: l') (fun r hr => by
            rcases List.mem_cons.1 hr with rfl | hr
            · exact c
            · exact strict_sd.trans _ _ _ c (a2.1 r hr))] at this
          cases this
      · cases c : sd.lt q.1 p.1 with
        | false => rfl
        | true =>
          have := h q.1
          rw [getA_none_lt (l := p :: l) (fun r hr => by
            rcases List.mem_cons.1 hr with rfl | hr
            · exact c
            · exact strict_sd.trans _ _ _ c (a1.1 r hr)), getA, if_pos rfl] at this
          cases this
    have ev : p.2 = q.2 := by
      have := h p.1
      rw [getA, if_pos rfl, getA, if_pos e.symm] at this
      exact Option.some.inj this
    have et : l = l' := sorted_ext a1.2 a2.2 fun s => by
      by_cases es : p.1 = s
      · subst es
        rw [getA_none_lt a1.1, getA_none_lt (fun r hr => by rw [e]; exact a2.1 r hr)]
      · have := h s
        rwa [getA, if_neg es, getA, if_neg (fun x => es (e.trans x))] at this
    rw [et, show p = q from Prod.ext e ev]
theorem findF_getA {T : Tr ByteArray Int} (h : Sorted sd.lt T.toList) (s : ByteArray) : (match findF sd.lt s T with | .nil => none | .node _ _ v _ => some v) = getA s T.toList := by
  have h1 := findF_top (lt := sd.lt) strict_sd s T h
  rw [lookL_getA] at h1
  cases hF : findF sd.lt s T with
  | nil =>
    rw [hF] at h1
    cases hg : getA s T.toList with
    | none => rfl
    | some v => rw [hg] at h1; cases h1
  | node l k v r =>
    rw [hF] at h1
    cases hg : getA s T.toList with
    | none => rw [hg] at h1; cases h1
    | some v' =>
      rw [hg] at h1
      simp only [Tr.top?, Option.map_some, Option.some.injEq, Prod.mk.injEq] at h1
      simp only [h1.2]
/-- What a change makes of a name's text. -/
def chgV (c : Option (Int × Bool)) (old : Option Int) : Option Int := match c with
  | some (x, false) => some x
  | some (_, true) => none
  | none => old
theorem app1_list {T : Tr ByteArray Int} (h : Sorted sd.lt T.toList) (p : ByteArray × (Int × Bool)) : (app1 T p).toList = if p.2.2 then delL sd.lt p.1 T.toList else insL sd.lt p.1 p.2.1 T.toList := by
  unfold app1
  split
  · exact dropM_toList strict_sd p.1 T h
  · exact putF_toList strict_sd p.1 p.2.1 T h
theorem app1_sorted {T : Tr ByteArray Int} (h : Sorted sd.lt T.toList) (p : ByteArray × (Int × Bool)) : Sorted sd.lt (app1 T p).toList := by
  rw [app1_list h]
  split
  · exact delL_sorted h
  · exact insL_sorted strict_sd h
theorem app1_get {T : Tr ByteArray Int} (h : Sorted sd.lt T.toList) (p : ByteArray × (Int × Bool)) (s : ByteArray) : getA s (app1 T p).toList = if p.1 = s then chgV (some p.2) none else getA s T.toList := by
  obtain ⟨k, x, d⟩ := p
  rw [app1_list h]
  cases d
  · simp only [Bool.false_eq_true, if_false]; rw [getA_ins h]; rfl
  · simp only [if_true]; rw [getA_del]; rfl
theorem appN_sorted : ∀ (L : List (ByteArray × (Int × Bool))) {T : Tr ByteArray Int}, Sorted sd.lt T.toList → Sorted sd.lt (appN T L).toList
  | [], _, h => h
  | p :: L, T, h => appN_sorted L (T := app1 T p) (app1_sorted h p)
theorem appN_get : ∀ (L : List (ByteArray × (Int × Bool))) {T : Tr ByteArray Int}, Sorted sd.lt T.toList → (L.map Prod.fst).Nodup → ∀ s, getA s (appN T L).toList = chgV (getA s L) (getA s T.toList)
  | [], _, _, _, _ => rfl
  | p :: L, T, h, hn, s => by
    obtain ⟨h1, h2⟩ := List.nodup_cons.1 hn
    have ih := appN_get L (T := app1 T p) (app1_sorted h p) h2 s
    have e : appN T (p :: L) = appN (app1 T p) L := rfl
    rw [e, ih, app1_get h, getA]
    by_cases es : p.1 = s
    · subst es
      rw [if_pos rfl, if_pos rfl, getA_none (fun q hq e => h1 (List.mem_map.2 ⟨q, hq, e⟩))]
      obtain ⟨k, x, d⟩ := p
      cases d <;> rfl
    · rw [if_neg es, if_neg es]
theorem lastN_get (n : Int) : ∀ (L : List (ByteArray × (Int × Bool))) (m : List (ByteArray × Int)) (s : ByteArray), getA s (lastN m n L) = if (getA s L).isSome then some n else getA s m
  | [], _, _ => by simp [lastN, getA]
  | p :: L, m, s => by
    have ih := lastN_get n L (putA p.1 n m) s
    have e : lastN m n (p :: L) = lastN (putA p.1 n m) n L := rfl
    rw [e, ih, getA_put, getA]
    by_cases es : p.1 = s
    · rw [if_pos es, if_pos es]
      simp
    · rw [if_neg es, if_neg es]
theorem getA_isSome {ν : Type} {s : ByteArray} {l : List (ByteArray × ν)} : (getA s l).isSome = true ↔ s ∈ l.map Prod.fst := by
  constructor
  · intro h
    obtain ⟨v, hv⟩ := Option.isSome_iff_exists.1 h
    exact List.mem_map.2 ⟨_, getA_mem hv, rfl⟩
  · intro h
    cases hg : getA s l with
    | some v => rfl
    | none =>
      exfalso
      obtain ⟨p, hp, rfl⟩ := List.mem_map.1 h
      clear h
      revert hg
      induction l with
      | nil => cases hp
      | cons q l ih =>
        intro hg
        rw [getA] at hg
        by_cases e : q.1 = p.1
        · rw [if_pos e] at hg; cases hg
        · rw [if_neg e] at hg
          rcases List.mem_cons.1 hp with rfl | hp
          · exact e rfl
          · exact ih hp hg
theorem getA_perm {ν : Type} {l l' : List (ByteArray × ν)} (h : l.Perm l') (hn : (l.map Prod.fst).Nodup) (s : ByteArray) : getA s l = getA s l' := by
  have hn' : (l'.map Prod.fst).Nodup := (h.map Prod.fst).nodup_iff.1 hn
  cases hg : getA s l with
  | some v =>
    obtain ⟨j, hj, e⟩ := List.getElem_of_mem (h.mem_iff.1 (getA_mem hg))
    exact (getA_at hn' (j := j) (by rw [List.getElem?_eq_getElem hj, e])).symm
  | none =>
    cases hg' : getA s l' with
    | none => rfl
    | some v =>
      obtain ⟨j, hj, e⟩ := List.getElem_of_mem (h.mem_iff.2 (getA_mem hg'))
      rw [getA_at hn (j := j) (by rw [List.getElem?_eq_getElem hj, e])] at hg
      cases hg
/-- The reference's commit on the list: each changed name gets what the transaction sees. -/
def seen1 (sees : Nm) (l : Nm) (s : ByteArray) : Nm := match getA s sees with
  | some x => putR s x l
  | none => dropR s l
def seenN (sees l : Nm) (names : List ByteArray) : Nm := names.foldl (seen1 sees) l
theorem seen1_sorted {sees l : Nm} {s : ByteArray} (h : Sorted sd.lt l) : Sorted sd.lt (seen1 sees l s) := by
  unfold seen1
  split
  · rw [putR_eq h]; exact insL_sorted strict_sd h
  · rw [dropR_eq]; exact delL_sorted h
theorem seen1_get {sees l : Nm} {s t : ByteArray} (h : Sorted sd.lt l) : getA t (seen1 sees l s) = if s = t then getA t sees else getA t l := by
  unfold seen1
  split
  · rename_i x hx
    rw [putR_eq h, getA_ins h]
    by_cases e : s = t
    · rw [if_pos e, if_pos e, ← e, hx]
    · rw [if_neg e, if_neg e]
  · rename_i hx
    rw [dropR_eq, getA_del]
    by_cases e : s = t
    · rw [if_pos e, if_pos e, ← e, hx]
    · rw [if_neg e, if_neg e]
theorem seenN_sorted : ∀ (names : List ByteArray) {sees l : Nm}, Sorted sd.lt l → Sorted sd.lt (seenN sees l names)
  | [], _, _, h => h
  | s :: names, sees, l, h => seenN_sorted names (l := seen1 sees l s) (seen1_sorted h)
theorem seenN_get : ∀ (names : List ByteArray) {sees l : Nm} (t : ByteArray), Sorted sd.lt l → getA t (seenN sees l names) = if inR t names then getA t sees else getA t l
  | [], _, _, _, _ => by simp [seenN, inR]
  | s :: names, sees, l, t, h => by
    have ih := seenN_get names (sees := sees) (l := seen1 sees l s) t (seen1_sorted h)
    have e : seenN sees l (s :: names) = seenN sees (seen1 sees l s) names := rfl
    have e2 : inR t (s :: names) = (decide (s = t) || inR t names) := by unfold inR; rw [List.any_cons, beq_eq]
    rw [e, ih, seen1_get h, e2]
    by_cases es : s = t
    · rw [if_pos es, decide_eq_true es]; simp
    · rw [if_neg es, decide_eq_false es]; simp
end S
end Go.Proofs.Ytlfodhejpbjfcaa
namespace Go.Proofs.Ytlfodhejpbjfcaa
open Go.RowKit
namespace S
attribute [local go_sem] Oper.semAt_some
abbrev Ver := Nm × List ByteArray
def encU (u : Sl × Sl) : List Value := [slV u.1, slV u.2]
theorem encU_len (u : Sl × Sl) : (encU u).length = 2 := rfl
theorem encU_one (u : Sl × Sl) : ∀ v ∈ encU u, v.oneCell' = true := by
  intro v hv
  simp only [encU, List.mem_cons, List.not_mem_nil, or_false] at hv
  rcases hv with rfl | rfl <;> rfl
abbrev Vrs (B : Nat) (W : World) (v : Value) (us : List (Sl × Sl)) : Prop := SlA B W 104 2 encU v us
theorem elemU : Elem Try.prog 33 104 2 48 := elem_of Try.underlying33 (z := .agg #[.slice none 0 0, .slice none 0 0]) (by kernel_rfl) rfl (by decide) (by decide)
def VerAt (W : World) (u : Sl × Sl) (V : Ver) : Prop := Prs 0 W (slV u.1) V.1 ∧ Sts 0 W (slV u.2) V.2
/-- The reference's box. -/
def VersAt (W : World) (v : Value) (Vs : List Ver) : Prop := ∃ us, Vrs 0 W v us ∧ us.length = Vs.length ∧ ∀ (i : Nat) (h : i < us.length) (h' : i < Vs.length), VerAt W us[i] Vs[i]
theorem VerAt.below {A B : World} {u : Sl × Sl} {V : Ver} (h : VerAt A u V) (hb : Below A.heap.size A B) : VerAt B u V := ⟨h.1.below hb, h.2.below hb⟩
theorem VersAt.below {A B : World} {v : Value} {Vs : List Ver} (h : VersAt A v Vs) (hb : Below A.heap.size A B) : VersAt B v Vs := by
  obtain ⟨us, h1, h2, h3⟩ := h
  exact ⟨us, h1.below hb, h2, fun i a b => (h3 i a b).below hb⟩
theorem VersAt.keep {A B : World} {v : Value} {Vs : List Ver} (h : VersAt A v Vs) (k1 : KeepT 49 A B) (k2 : KeepT 9 A B) (k3 : KeepT 104 A B) : VersAt B v Vs := by
  obtain ⟨us, h1, h2, h3⟩ := h
  exact ⟨us, h1.keep k3, h2, fun i a b => ⟨(h3 i a b).1.keep k1, (h3 i a b).2.keep k2⟩⟩
theorem VersAt.len {W : World} {v : Value} {Vs : List Ver} (h : VersAt W v Vs) : ∃ a c, v = .slice a Vs.length c := by
  obtain ⟨us, h1, h2, -⟩ := h
  obtain ⟨a, c, rfl⟩ := h1.len
  exact ⟨a, c, by rw [h2]⟩
theorem VersAt.at {W : World} {v : Value} {Vs : List Ver} (h : VersAt W v Vs) {i : Nat} (hi : i < Vs.length) :
    ∃ g c a n cp a' n' cp', v = .slice (some ⟨g, 0, none⟩) Vs.length c ∧ VerAt W ((a, n, cp), (a', n', cp')) Vs[i] ∧ n = Vs[i].1.length ∧ n' = Vs[i].2.length ∧ ∀ (W' : World), Below W.heap.size W W' → W'.cell? ⟨g, i * 2, none⟩ = some (.slice a n cp) ∧ W'.cell? ⟨g, i * 2 + 1, none⟩ = some (.slice a' n' cp') := by
  obtain ⟨us, h1, h2, h3⟩ := h
  have hi' : i < us.length := by omega
  have hv := h3 i hi' hi
  rcases h1.shape with ⟨-, rfl⟩ | ⟨g, cap, rfl, -, -⟩
  · simp at hi'
  · have hc : ∀ (W' : World), Below W.heap.size W W' → W'.cell? ⟨g, i * 2, none⟩ = some (slV us[i].1) ∧ W'.cell? ⟨g, i * 2 + 1, none⟩ = some (slV us[i].2) := fun W' hb =>
      ⟨SlA.cell encU_len (h1.below hb) hi' (j := 0) (by omega), SlA.cell encU_len (h1.below hb) hi' (j := 1) (by omega)⟩
    generalize us[i] = u at *
    obtain ⟨⟨a, n, cp⟩, ⟨a', n', cp'⟩⟩ := u
    obtain ⟨x1, y1, e1⟩ := hv.1.len; obtain ⟨x2, y2, e2⟩ := hv.2.len
    simp only [slV, Value.slice.injEq] at e1 e2
    exact ⟨g, cap, a, n, cp, a', n', cp', by rw [h2], hv, e1.2.1, e2.2.1, hc⟩
theorem Prs.keep0 {B : Nat} {W : World} {v : Value} {l : Nm} (h : Prs B W v l) : Prs 0 W v l := h.mono (Nat.zero_le _)

set_option maxRecDepth 100000 in
set_option maxHeartbeats 2000000 in
theorem refLast_any {W : World} {v : Value} {Vs : List Ver} (h : VersAt W v Vs) (hne : 0 < Vs.length) (hl : Vs.length ≤ 100000) :
    Calls Try.prog 39 #[.agg #[v]] W fun e w' => ∃ a n c b k d, e = .returned (.agg #[.slice a n c, .slice b k d]) ∧ VerAt w' ((a, n, c), (b, k, d)) (Vs[Vs.length - 1]'(by omega)) ∧ Below W.heap.size W w' := by
  obtain ⟨g, c, a, n, cp, a', n', cp', rfl, hV, -, -, hc⟩ := h.at (i := Vs.length - 1) (by omega)
  obtain ⟨W1, hW1⟩ : ∃ w, (W.alloc (.cells #[.slice (some ⟨g, 0, none⟩) Vs.length c] 35)).alloc (.cells #[.slice none 0 0, .slice none 0 0] 104) = w := ⟨_, rfl⟩
  have hb1 : Below W.heap.size W W1 := by rw [← hW1]; exact ((Below.refl _ W).alloc (Nat.le_refl _) _).alloc (by simp) _
  have n1 : W1.heap[W.heap.size]? = some (.cells #[.slice (some ⟨g, 0, none⟩) Vs.length c] 35 (0, 0)) := by rw [← hW1]; exact (Below.heap_alloc _ _ _ (by simp)).trans (heap_new _ _)
  have n2 : W1.heap[W.heap.size + 1]? = some (.cells #[.slice none 0 0, .slice none 0 0] 104 (0, 0)) := by rw [← hW1]; exact heap_new1 _ _ _
  obtain ⟨c0, c1⟩ := hc W1 hb1
  have p0 : W1.cell? ⟨W.heap.size, 0, none⟩ = some (.slice (some ⟨g, 0, none⟩) Vs.length c) := by simp [World.cell?, n1]
  have x0 : W1.cell? ⟨W.heap.size + 1, 0, none⟩ = some (.slice none 0 0) := by simp [World.cell?, n2]
  have x1 : W1.cell? ⟨W.heap.size + 1, 1, none⟩ = some (.slice none 0 0) := by simp [World.cell?, n2]
  have y0 : W1.frozen? ⟨W.heap.size + 1, 0, none⟩ = false := by simp [World.frozen?, n2]
  have y1 : W1.frozen? ⟨W.heap.size + 1, 1, none⟩ = false := by simp [World.frozen?, n2]
  obtain ⟨W2, hW2⟩ : ∃ w, (W1.setCell ⟨W.heap.size + 1, 0, none⟩ (.slice a n cp)).setCell ⟨W.heap.size + 1, 1, none⟩ (.slice a' n' cp') = w := ⟨_, rfl⟩
  have n3 : W2.heap[W.heap.size + 1]? = some (.cells #[.slice a n cp, .slice a' n' cp'] 104 (0, 0)) := by rw [← hW2, heap_set0 _ (heap_set0 _ n2)]; rfl
  have hb2 : Below W.heap.size W W2 := by rw [← hW2]; exact (hb1.setCell (p := ⟨W.heap.size + 1, 0, none⟩) (by simp) _).setCell (p := ⟨W.heap.size + 1, 1, none⟩) (by simp) _
  have r0 : W2.cell? ⟨W.heap.size + 1, 0, none⟩ = some (.slice a n cp) := by simp [World.cell?, n3]
  have r1 : W2.cell? ⟨W.heap.size + 1, 1, none⟩ = some (.slice a' n' cp') := by simp [World.cell?, n3]
  have HV := Lib.hid (hV.below hb2); have HB2 := Lib.hid hb2
  obtain ⟨m, hm⟩ : ∃ m, Vs.length - 1 = m := ⟨_, rfl⟩
  have hl1 : (Vs.length : Int) - 1 = (m : Int) := by omega
  have hl2 : (0 : Int) ≤ (m : Int) := by omega
  have hl3 : (m : Int) < (Vs.length : Int) := by omega
  rw [hm] at c0 c1
  have HM := Lib.hid hm
  clear hV hb1 hb2 n1 n2 n3 hc hm h
  go_enter Try.func39, Try.ntmps39
  go_wp2_with fail
  exact bodyPost_ret (v := .agg #[.slice a n cp, .slice a' n' cp']) (by simp [results, Try.results39, go_sem, r0, r1]) rfl ⟨a, n, cp, a', n', cp', rfl, HV.out, HB2.out⟩
end S
end Go.Proofs.Ytlfodhejpbjfcaa
