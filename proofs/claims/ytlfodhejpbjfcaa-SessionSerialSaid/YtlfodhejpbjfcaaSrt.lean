/- The reference's lists against sorted lists. No program but the reference's definitions.
Sorted lists of named texts by their lookups; what a commit makes of them. -/
import Derived.Test.YtlfodhejpbjfcaaRfs
import Derived.Test.YtlfodhejpbjfcaaPm
import Derived.Test.YtlfodhejpbjfcaaPutsd
set_option linter.unusedVariables false
set_option linter.unusedSimpArgs false
namespace Go.Proofs.Ytlfodhejpbjfcaa
open Go.RowKit
variable {κ : Type}
/-- The keys as the reference has them: their order is kept, and no two fall together. -/
structure KeyMap (lt : κ → κ → Bool) (ok : κ → Prop) (kf : κ → ByteArray) : Prop where
  less : ∀ a b, ok a → ok b → Op.bytesLess (kf a).toList (kf b).toList = lt a b
  same : ∀ a b, ok a → ok b → (((kf a).toList == (kf b).toList) = true ↔ a = b)

def rep (kf : κ → ByteArray) (l : List (κ × Int)) : List (ByteArray × Int) := l.map fun p => (kf p.1, p.2)
def OkL (ok : κ → Prop) (l : List (κ × Int)) : Prop := ∀ p ∈ l, ok p.1

section
variable {lt : κ → κ → Bool} {ok : κ → Prop} {kf : κ → ByteArray} (hs : Strict lt) (hk : KeyMap lt ok kf)
include hk

theorem rep_drop {k : κ} (hok : ok k) : ∀ {l : List (κ × Int)}, OkL ok l → Strict lt → dropR (kf k) (rep kf l) = rep kf (delL lt k l)
  | [], _, _ => rfl
  | p :: l, h, hs => by
    have hp := h p List.mem_cons_self
    have ih := rep_drop hok (l := l) (fun q hq => h q (List.mem_cons_of_mem _ hq)) hs
    have e := hk.same p.1 k hp hok
    unfold dropR delL rep at *
    simp only [List.map_cons, List.filter_cons]
    by_cases c : p.1 = k
    · have h1 := e.2 c
      rw [h1]
      subst c
      simp only [hs.irrefl]
      simpa using ih
    · have h1 : ((kf p.1).toList == (kf k).toList) = false := by
        cases x : ((kf p.1).toList == (kf k).toList) with
        | false => rfl
        | true => exact absurd (e.1 x) c
      rw [h1]
      have h2 : (lt k p.1 || lt p.1 k) = true := by
        cases a : lt k p.1 with
        | true => rfl
        | false => cases b : lt p.1 k with
          | true => rfl
          | false => exact absurd (hs.total _ _ b a) c
      rw [h2]
      simpa using ih

theorem putSt_rep {k : κ} {x : Int} (hok : ok k) (hs : Strict lt) : ∀ (l : List (κ × Int)) (st : List (ByteArray × Int) × Bool), OkL ok l → Sorted lt l → (st.2 = true → ∀ p ∈ l, lt k p.1 = true) →
    (l.map fun p => (kf p.1, p.2)).foldl (putS (kf k) x) st = (if st.2 then (st.1 ++ rep kf l, true) else
      (if l.any fun p => !lt p.1 k then (st.1 ++ rep kf (insL lt k x l), true) else (st.1 ++ rep kf l, false)))
  | [], st, _, _, _ => by
    obtain ⟨a, b⟩ := st
    cases b <;> simp [rep]
  | p :: l, st, h, hso, hd => by
    have hp := h p List.mem_cons_self
    have hl : OkL ok l := fun q hq => h q (List.mem_cons_of_mem _ hq)
    have hso' := List.pairwise_cons.1 hso
    have hge : geB (kf p.1) (kf k) = !lt p.1 k := by unfold geB; rw [hk.less _ _ hp hok]
    simp only [List.map_cons, List.foldl_cons]
    cases hst : st.2 with
    | true =>
      have hlt := hd hst p List.mem_cons_self
      have hne : ((kf p.1).toList == (kf k).toList) = false := by
        cases y : ((kf p.1).toList == (kf k).toList) with
        | false => rfl
        | true => have := (hk.same _ _ hp hok).1 y; subst this; rw [hs.irrefl] at hlt; cases hlt
      have e1 : putS (kf k) x st (kf p.1, p.2) = (st.1 ++ [(kf p.1, p.2)], true) := by simp [putS, hst, hne]
      rw [e1, putSt_rep hok hs l _ hl hso'.2 (fun _ q hq => hd hst q (List.mem_cons_of_mem _ hq))]
      simp [rep]
    | false =>
      by_cases c1 : lt p.1 k = true
      · have hne : ((kf p.1).toList == (kf k).toList) = false := by
          cases y : ((kf p.1).toList == (kf k).toList) with
          | false => rfl
          | true => have := (hk.same _ _ hp hok).1 y; subst this; rw [hs.irrefl] at c1; cases c1
        have e1 : putS (kf k) x st (kf p.1, p.2) = (st.1 ++ [(kf p.1, p.2)], false) := by simp [putS, hst, hne, hge, c1]
        rw [e1, putSt_rep hok hs l _ hl hso'.2 (fun h => by cases h)]
        have c2 : lt k p.1 = false := hs.asymm c1
        simp only [List.any_cons, c1, Bool.not_true, Bool.false_or, insL, c2, if_true, if_false, Bool.false_eq_true]
        split <;> simp [rep]
      · have c1' : lt p.1 k = false := by simpa using c1
        have any : ((p :: l).any fun p => !lt p.1 k) = true := by simp [c1']
        rw [any]
        simp only [if_true, if_false, Bool.false_eq_true]
        by_cases c2 : lt k p.1 = true
        · have hne : ((kf p.1).toList == (kf k).toList) = false := by
            cases y : ((kf p.1).toList == (kf k).toList) with
            | false => rfl
            | true => have := (hk.same _ _ hp hok).1 y; subst this; rw [hs.irrefl] at c2; cases c2
          have e1 : putS (kf k) x st (kf p.1, p.2) = (st.1 ++ [(kf k, x), (kf p.1, p.2)], true) := by simp [putS, hst, hne, hge, c1']
          rw [e1, putSt_rep hok hs l _ hl hso'.2 (fun _ q hq => hs.trans _ _ _ c2 (hso'.1 q hq))]
          simp [insL, c2, rep]
        · have e := hs.total k p.1 (by simpa using c2) c1'
          have hne : ((kf p.1).toList == (kf k).toList) = true := (hk.same _ _ hp hok).2 e.symm
          have e1 : putS (kf k) x st (kf p.1, p.2) = (st.1 ++ [(kf k, x)], true) := by simp [putS, hst, hne, hge, c1']
          rw [e1, putSt_rep hok hs l _ hl hso'.2 (fun _ q hq => by have := hso'.1 q hq; rw [← e] at this; exact this)]
          have c2' : lt k p.1 = false := by simpa using c2
          simp [insL, c2', c1', rep]
omit hk in
theorem insL_end {k : κ} {x : Int} (hs : Strict lt) : ∀ {l : List (κ × Int)}, (l.any fun p => !lt p.1 k) = false → insL lt k x l = l ++ [(k, x)]
  | [], _ => rfl
  | p :: l, h => by
    simp only [List.any_cons, Bool.or_eq_false_iff, Bool.not_eq_false'] at h
    simp only [insL, hs.asymm h.1, h.1, if_true, if_false, Bool.false_eq_true, List.cons_append]
    rw [insL_end hs h.2]
theorem rep_put {k : κ} {x : Int} (hok : ok k) (hs : Strict lt) {l : List (κ × Int)} (h : OkL ok l) (hso : Sorted lt l) : putR (kf k) x (rep kf l) = rep kf (insL lt k x l) := by
  have e := putSt_rep hk (x := x) hok hs l ([], false) h hso (fun h => by cases h)
  unfold putR putSt
  have e' : List.foldl (putS (kf k) x) ([], false) (rep kf l) = _ := e
  rw [e']
  simp only [if_false, Bool.false_eq_true, List.nil_append]
  cases c : (l.any fun p => !lt p.1 k) with
  | true => simp
  | false => rw [insL_end hs c]; simp [rep]
end

theorem bytesLess_irrefl : ∀ a : List UInt8, Op.bytesLess a a = false
  | [] => by simp [Op.bytesLess]
  | x :: a => by simp [Op.bytesLess, bytesLess_irrefl a]
theorem bytesLess_trans : ∀ a b c : List UInt8, Op.bytesLess a b = true → Op.bytesLess b c = true → Op.bytesLess a c = true
  | _, _, [], _, h => by cases ‹List UInt8› <;> simp [Op.bytesLess] at h
  | [], _, _ :: _, _, _ => by simp [Op.bytesLess]
  | _ :: _, [], _, h, _ => by simp [Op.bytesLess] at h
  | x :: a, y :: b, z :: c, h1, h2 => by
    simp only [Op.bytesLess, Bool.or_eq_true, Bool.and_eq_true, decide_eq_true_eq, beq_iff_eq] at *
    rcases h1 with h1 | ⟨rfl, h1⟩
    · rcases h2 with h2 | ⟨rfl, h2⟩
      · exact .inl (UInt8.lt_trans h1 h2)
      · exact .inl h1
    · rcases h2 with h2 | ⟨rfl, h2⟩
      · exact .inl h2
      · exact .inr ⟨rfl, bytesLess_trans a b c h1 h2⟩
theorem bytesLess_total : ∀ a b : List UInt8, Op.bytesLess a b = false → Op.bytesLess b a = false → a = b
  | [], [], _, _ => rfl
  | [], _ :: _, h, _ => by simp [Op.bytesLess] at h
  | _ :: _, [], _, h => by simp [Op.bytesLess] at h
  | x :: a, y :: b, h1, h2 => by
    simp only [Op.bytesLess, Bool.or_eq_false_iff, decide_eq_false_iff_not] at h1 h2
    have e : x = y := by
      have a1 := UInt8.not_lt.1 h1.1; have a2 := UInt8.not_lt.1 h2.1
      exact UInt8.le_antisymm a2 a1
    subst e
    have h1' := h1.2; have h2' := h2.2
    simp at h1' h2'
    rw [bytesLess_total a b h1' h2']
theorem bytes_ext {a b : ByteArray} (h : a.toList = b.toList) : a = b := by
  rw [ByteArray.toList_eq, ByteArray.toList_eq] at h
  obtain ⟨a⟩ := a; obtain ⟨b⟩ := b
  simpa using h
theorem strict_str : Strict (fun a b : ByteArray => Op.bytesLess a.toList b.toList) where
  irrefl _ := bytesLess_irrefl _
  trans _ _ _ h1 h2 := bytesLess_trans _ _ _ h1 h2
  total _ _ h1 h2 := bytes_ext (bytesLess_total _ _ h1 h2)
theorem keymap_str : KeyMap (fun a b : ByteArray => Op.bytesLess a.toList b.toList) (fun _ : ByteArray => True) (fun s : ByteArray => s) where
  less _ _ _ _ := rfl
  same a b _ _ := by rw [beq_iff_eq]; exact ⟨bytes_ext, fun h => by rw [h]⟩

namespace S
theorem rep_id (l : List (ByteArray × Int)) : rep (fun s : ByteArray => s) l = l := by unfold rep; simp
theorem okl_true (l : List (ByteArray × Int)) : OkL (fun _ : ByteArray => True) l := fun _ _ => trivial
theorem putR_eq {s : ByteArray} {x : Int} {l : List (ByteArray × Int)} (h : Sorted sd.lt l) : putR s x l = insL sd.lt s x l := by
  have := rep_put (x := x) keymap_str (k := s) trivial strict_str (okl_true l) h
  rwa [rep_id, rep_id] at this
theorem dropR_eq {s : ByteArray} {l : List (ByteArray × Int)} : dropR s l = delL sd.lt s l := by
  have := rep_drop keymap_str (k := s) trivial (okl_true l) strict_str
  rwa [rep_id, rep_id] at this
end S
end Go.Proofs.Ytlfodhejpbjfcaa
namespace Go.Proofs.Ytlfodhejpbjfcaa
open Go.RowKit
namespace S
abbrev Nm := List (ByteArray × Int)
theorem strict_sd : Strict sd.lt := strict_str
theorem beq_eq (a b : ByteArray) : (a.toList == b.toList) = decide (a = b) := by
  by_cases h : a = b
  · subst h; simp
  · rw [decide_eq_false h, beq_eq_false_iff_ne]; exact fun e => h (bytes_ext e)
theorem same_key (a b : ByteArray) : (!sd.lt a b && !sd.lt b a) = decide (b = a) := by
  by_cases h : b = a
  · subst h; simp [strict_sd.irrefl]
  · rw [decide_eq_false h]
    cases h1 : sd.lt a b <;> cases h2 : sd.lt b a <;> simp
    exact h (strict_sd.total _ _ h2 h1)
theorem find_getA {ν : Type} (s : ByteArray) (l : List (ByteArray × ν)) (f : ByteArray × ν → Bool) (hf : ∀ p, f p = decide (p.1 = s)) : l.find? f = (getA s l).map fun v => (s, v) := by
  induction l with
  | nil => rfl
  | cons p l ih =>
    rw [List.find?_cons, getA, hf]
    by_cases e : p.1 = s
    · rw [decide_eq_true e, if_pos e]; simp only [Option.map_some]; rw [← e]
    · rw [decide_eq_false e, if_neg e]; exact ih
theorem lookL_getA (s : ByteArray) (l : Nm) : lookL sd.lt s l = (getA s l).map fun v => (s, v) := find_getA s l _ fun p => same_key s p.1
theorem findR_getA (s : ByteArray) (l : Nm) : findR s l = (getA s l).map fun v => (s, v) := find_getA s l _ fun p => beq_eq p.1 s
theorem inR_iff (s : ByteArray) (l : List ByteArray) : inR s l = true ↔ s ∈ l := by
  unfold inR
  rw [List.any_eq_true]
  constructor
  · rintro ⟨x, hx, h⟩
    rw [beq_eq, decide_eq_true_eq] at h
    exact h ▸ hx
  · intro h
    exact ⟨s, h, by simp⟩
theorem getA_none_lt {s : ByteArray} {l : Nm} (h : ∀ p ∈ l, sd.lt s p.1 = true) : getA s l = none := getA_none fun p hp e => by have := h p hp; rw [e, strict_sd.irrefl] at this; cases this
theorem getA_ins {s t : ByteArray} {x : Int} : ∀ {l : Nm}, Sorted sd.lt l → getA t (insL sd.lt s x l) = if s = t then some x else getA t l
  | [], _ => by simp only [insL, getA]
  | p :: l, h => by
    have h2 := List.pairwise_cons.1 h
    rw [insL]
    split
    · rename_i hlt
      rw [getA]
    · rename_i hn
      split
      · rename_i hlt
        rw [getA, getA_ins h2.2, getA]
        by_cases e : p.1 = t
        · rw [if_pos e, if_pos e, if_neg (fun e2 : s = t => by rw [e2, ← e, strict_sd.irrefl] at hlt; cases hlt)]
        · rw [if_neg e, if_neg e]
      · rename_i hn2
        have e : p.1 = s := strict_sd.total _ _ (by simpa using hn2) (by simpa using hn)
        rw [getA, getA, e]
        by_cases e2 : s = t
        · rw [if_pos e2, if_pos e2]
        · rw [if_neg e2, if_neg e2, if_neg e2]
theorem getA_del {s t : ByteArray} : ∀ {l : Nm}, getA t (delL sd.lt s l) = if s = t then none else getA t l
  | [] => by simp [delL, getA]
  | p :: l => by
    have ih := getA_del (s := s) (t := t) (l := l)
    unfold delL at ih ⊢
    rw [List.filter_cons]
    by_cases e : p.1 = s
    · subst e
      rw [if_neg (by simp [strict_sd.irrefl]), ih, getA]
      by_cases e2 : p.1 = t
      · rw [if_pos e2, if_pos e2]
      · rw [if_neg e2, if_neg e2, if_neg e2]
    · have h1 := same_key s p.1
      rw [decide_eq_false e] at h1
      have h2 : (sd.lt s p.1 || sd.lt p.1 s) = true := by
        cases a : sd.lt s p.1 <;> cases b : sd.lt p.1 s <;> simp_all
      rw [if_pos h2, getA, ih, getA]
      by_cases e2 : p.1 = t
      · rw [if_pos e2, if_pos e2, if_neg (fun e3 => e (e2.trans e3.symm))]
      · rw [if_neg e2, if_neg e2]
theorem sorted_ext : ∀ {l l' : Nm}, Sorted sd.lt l → Sorted sd.lt l' → (∀ s, getA s l = getA s l') → l = l'
  | [], [], _, _, _ => rfl
  | [], q :: l', _, _, h => by have := h q.1; rw [getA, getA, if_pos rfl] at this; cases this
  | p :: l, [], _, _, h => by have := h p.1; rw [getA, getA, if_pos rfl] at this; cases this
  | p :: l, q :: l', h1, h2, h => by
    have a1 := List.pairwise_cons.1 h1
    have a2 := List.pairwise_cons.1 h2
    have e : p.1 = q.1 := by
      refine strict_sd.total _ _ ?_ ?_
      · cases c : sd.lt p.1 q.1 with
        | false => rfl
        | true =>
          have := h p.1
          rw [getA, if_pos rfl, getA_none_lt (l := q :: l') (fun r hr => by
            rcases List.mem_cons.1 hr with rfl | hr
            · exact c
            · exact strict_sd.trans _ _ _ c (a2.1 r hr))] at this
          cases this
      · cases c : sd.lt q.1 p.1 with
        | false => rfl
        | true =>
          have := h q.1
          rw [getA_none_lt (l := p :: l) (fun r hr => by
            rcases List.mem_cons.1 hr with rfl | hr
            · exact c
            · exact strict_sd.trans _ _ _ c (a1.1 r hr)), getA, if_pos rfl] at this
          cases this
    have ev : p.2 = q.2 := by
      have := h p.1
      rw [getA, if_pos rfl, getA, if_pos e.symm] at this
      exact Option.some.inj this
    have et : l = l' := sorted_ext a1.2 a2.2 fun s => by
      by_cases es : p.1 = s
      · subst es
        rw [getA_none_lt a1.1, getA_none_lt (fun r hr => by rw [e]; exact a2.1 r hr)]
      · have := h s
        rwa [getA, if_neg es, getA, if_neg (fun x => es (e.trans x))] at this
    rw [et, show p = q from Prod.ext e ev]
theorem findF_getA {T : Tr ByteArray Int} (h : Sorted sd.lt T.toList) (s : ByteArray) : (match findF sd.lt s T with | .nil => none | .node _ _ v _ => some v) = getA s T.toList := by
  have h1 := findF_top (lt := sd.lt) strict_sd s T h
  rw [lookL_getA] at h1
  cases hF : findF sd.lt s T with
  | nil =>
    rw [hF] at h1
    cases hg : getA s T.toList with
    | none => rfl
    | some v => rw [hg] at h1; cases h1
  | node l k v r =>
    rw [hF] at h1
    cases hg : getA s T.toList with
    | none => rw [hg] at h1; cases h1
    | some v' =>
      rw [hg] at h1
      simp only [Tr.top?, Option.map_some, Option.some.injEq, Prod.mk.injEq] at h1
      simp only [h1.2]
/-- What a change makes of a name's text. -/
def chgV (c : Option (Int × Bool)) (old : Option Int) : Option Int := match c with
  | some (x, false) => some x
  | some (_, true) => none
  | none => old
theorem app1_list {T : Tr ByteArray Int} (h : Sorted sd.lt T.toList) (p : ByteArray × (Int × Bool)) : (app1 T p).toList = if p.2.2 then delL sd.lt p.1 T.toList else insL sd.lt p.1 p.2.1 T.toList := by
  unfold app1
  split
  · exact dropM_toList strict_sd p.1 T h
  · exact putF_toList strict_sd p.1 p.2.1 T h
theorem app1_sorted {T : Tr ByteArray Int} (h : Sorted sd.lt T.toList) (p : ByteArray × (Int × Bool)) : Sorted sd.lt (app1 T p).toList := by
  rw [app1_list h]
  split
  · exact delL_sorted h
  · exact insL_sorted strict_sd h
theorem app1_get {T : Tr ByteArray Int} (h : Sorted sd.lt T.toList) (p : ByteArray × (Int × Bool)) (s : ByteArray) : getA s (app1 T p).toList = if p.1 = s then chgV (some p.2) none else getA s T.toList := by
  obtain ⟨k, x, d⟩ := p
  rw [app1_list h]
  cases d
  · simp only [Bool.false_eq_true, if_false]; rw [getA_ins h]; rfl
  · simp only [if_true]; rw [getA_del]; rfl
theorem appN_sorted : ∀ (L : List (ByteArray × (Int × Bool))) {T : Tr ByteArray Int}, Sorted sd.lt T.toList → Sorted sd.lt (appN T L).toList
  | [], _, h => h
  | p :: L, T, h => appN_sorted L (T := app1 T p) (app1_sorted h p)
theorem appN_get : ∀ (L : List (ByteArray × (Int × Bool))) {T : Tr ByteArray Int}, Sorted sd.lt T.toList → (L.map Prod.fst).Nodup → ∀ s, getA s (appN T L).toList = chgV (getA s L) (getA s T.toList)
  | [], _, _, _, _ => rfl
  | p :: L, T, h, hn, s => by
    obtain ⟨h1, h2⟩ := List.nodup_cons.1 hn
    have ih := appN_get L (T := app1 T p) (app1_sorted h p) h2 s
    have e : appN T (p :: L) = appN (app1 T p) L := rfl
    rw [e, ih, app1_get h, getA]
    by_cases es : p.1 = s
    · subst es
      rw [if_pos rfl, if_pos rfl, getA_none (fun q hq e => h1 (List.mem_map.2 ⟨q, hq, e⟩))]
      obtain ⟨k, x, d⟩ := p
      cases d <;> rfl
    · rw [if_neg es, if_neg es]
theorem lastN_get (n : Int) : ∀ (L : List (ByteArray × (Int × Bool))) (m : List (ByteArray × Int)) (s : ByteArray), getA s (lastN m n L) = if (getA s L).isSome then some n else getA s m
  | [], _, _ => by simp [lastN, getA]
  | p :: L, m, s => by
    have ih := lastN_get n L (putA p.1 n m) s
    have e : lastN m n (p :: L) = lastN (putA p.1 n m) n L := rfl
    rw [e, ih, getA_put, getA]
    by_cases es : p.1 = s
    · rw [if_pos es, if_pos es]
      simp
    · rw [if_neg es, if_neg es]
theorem getA_isSome {ν : Type} {s : ByteArray} {l : List (ByteArray × ν)} : (getA s l).isSome = true ↔ s ∈ l.map Prod.fst := by
  constructor
  · intro h
    obtain ⟨v, hv⟩ := Option.isSome_iff_exists.1 h
    exact List.mem_map.2 ⟨_, getA_mem hv, rfl⟩
  · intro h
    cases hg : getA s l with
    | some v => rfl
    | none =>
      exfalso
      obtain ⟨p, hp, rfl⟩ := List.mem_map.1 h
      clear h
      revert hg
      induction l with
      | nil => cases hp
      | cons q l ih =>
        intro hg
        rw [getA] at hg
        by_cases e : q.1 = p.1
        · rw [if_pos e] at hg; cases hg
        · rw [if_neg e] at hg
          rcases List.mem_cons.1 hp with rfl | hp
          · exact e rfl
          · exact ih hp hg
theorem getA_perm {ν : Type} {l l' : List (ByteArray × ν)} (h : l.Perm l') (hn : (l.map Prod.fst).Nodup) (s : ByteArray) : getA s l = getA s l' := by
  have hn' : (l'.map Prod.fst).Nodup := (h.map Prod.fst).nodup_iff.1 hn
  cases hg : getA s l with
  | some v =>
    obtain ⟨j, hj, e⟩ := List.getElem_of_mem (h.mem_iff.1 (getA_mem hg))
    exact (getA_at hn' (j := j) (by rw [List.getElem?_eq_getElem hj, e])).symm
  | none =>
    cases hg' : getA s l' with
    | none => rfl
    | some v =>
      obtain ⟨j, hj, e⟩ := List.getElem_of_mem (h.mem_iff.2 (getA_mem hg'))
      rw [getA_at hn (j := j) (by rw [List.getElem?_eq_getElem hj, e])] at hg
      cases hg
/-- The reference's commit on the list: each changed name gets what the transaction sees. -/
def seen1 (sees : Nm) (l : Nm) (s : ByteArray) : Nm := match getA s sees with
  | some x => putR s x l
  | none => dropR s l
def seenN (sees l : Nm) (names : List ByteArray) : Nm := names.foldl (seen1 sees) l
theorem seen1_sorted {sees l : Nm} {s : ByteArray} (h : Sorted sd.lt l) : Sorted sd.lt (seen1 sees l s) := by
  unfold seen1
  split
  · rw [putR_eq h]; exact insL_sorted strict_sd h
  · rw [dropR_eq]; exact delL_sorted h
theorem seen1_get {sees l : Nm} {s t : ByteArray} (h : Sorted sd.lt l) : getA t (seen1 sees l s) = if s = t then getA t sees else getA t l := by
  unfold seen1
  split
  · rename_i x hx
    rw [putR_eq h, getA_ins h]
    by_cases e : s = t
    · rw [if_pos e, if_pos e, ← e, hx]
    · rw [if_neg e, if_neg e]
  · rename_i hx
    rw [dropR_eq, getA_del]
    by_cases e : s = t
    · rw [if_pos e, if_pos e, ← e, hx]
    · rw [if_neg e, if_neg e]
theorem seenN_sorted : ∀ (names : List ByteArray) {sees l : Nm}, Sorted sd.lt l → Sorted sd.lt (seenN sees l names)
  | [], _, _, h => h
  | s :: names, sees, l, h => seenN_sorted names (l := seen1 sees l s) (seen1_sorted h)
theorem seenN_get : ∀ (names : List ByteArray) {sees l : Nm} (t : ByteArray), Sorted sd.lt l → getA t (seenN sees l names) = if inR t names then getA t sees else getA t l
  | [], _, _, _, _ => by simp [seenN, inR]
  | s :: names, sees, l, t, h => by
    have ih := seenN_get names (sees := sees) (l := seen1 sees l s) t (seen1_sorted h)
    have e : seenN sees l (s :: names) = seenN sees (seen1 sees l s) names := rfl
    have e2 : inR t (s :: names) = (decide (s = t) || inR t names) := by unfold inR; rw [List.any_cons, beq_eq]
    rw [e, ih, seen1_get h, e2]
    by_cases es : s = t
    · rw [if_pos es, decide_eq_true es]; simp
    · rw [if_neg es, decide_eq_false es]; simp
end S
end Go.Proofs.Ytlfodhejpbjfcaa
