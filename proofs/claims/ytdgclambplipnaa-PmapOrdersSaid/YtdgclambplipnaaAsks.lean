/- How a tree stands to the reference's list. No program. -/
import Derived.Test.YtdgclambplipnaaRefAsk
import Derived.Test.YtdgclambplipnaaDropPlain
namespace Go.Proofs.Ytdgclambplipnaa
open Go.RowKit
variable {κ : Type}

/-- The keys as the reference has them: their order is kept, and no two fall together. -/
structure KeyMap (lt : κ → κ → Bool) (ok : κ → Prop) (kf : κ → ByteArray) : Prop where
  less : ∀ a b, ok a → ok b → Op.bytesLess (kf a).toList (kf b).toList = lt a b
  same : ∀ a b, ok a → ok b → (((kf a).toList == (kf b).toList) = true ↔ a = b)

def rep (kf : κ → ByteArray) (l : List (κ × Int)) : List (ByteArray × Int) := l.map fun p => (kf p.1, p.2)
def OkL (ok : κ → Prop) (l : List (κ × Int)) : Prop := ∀ p ∈ l, ok p.1

section
variable {lt : κ → κ → Bool} {ok : κ → Prop} {kf : κ → ByteArray} (hs : Strict lt) (hk : KeyMap lt ok kf)
include hk

theorem rep_drop {k : κ} (hok : ok k) : ∀ {l : List (κ × Int)}, OkL ok l → Strict lt → dropR (kf k) (rep kf l) = rep kf (delL lt k l)
  | [], _, _ => rfl
  | p :: l, h, hs => by
    have hp := h p List.mem_cons_self
    have ih := rep_drop hok (l := l) (fun q hq => h q (List.mem_cons_of_mem _ hq)) hs
    have e := hk.same p.1 k hp hok
    unfold dropR delL rep at *
    simp only [List.map_cons, List.filter_cons]
    by_cases c : p.1 = k
    · have h1 := e.2 c
      rw [h1]
      subst c
      simp only [hs.irrefl]
      simpa using ih
    · have h1 : ((kf p.1).toList == (kf k).toList) = false := by
        cases x : ((kf p.1).toList == (kf k).toList) with
        | false => rfl
        | true => exact absurd (e.1 x) c
      rw [h1]
      have h2 : (lt k p.1 || lt p.1 k) = true := by
        cases a : lt k p.1 with
        | true => rfl
        | false => cases b : lt p.1 k with
          | true => rfl
          | false => exact absurd (hs.total _ _ b a) c
      rw [h2]
      simpa using ih

theorem putSt_rep {k : κ} {x : Int} (hok : ok k) (hs : Strict lt) : ∀ (l : List (κ × Int)) (st : List (ByteArray × Int) × Bool), OkL ok l → Sorted lt l → (st.2 = true → ∀ p ∈ l, lt k p.1 = true) →
    (l.map fun p => (kf p.1, p.2)).foldl (putS (kf k) x) st = (if st.2 then (st.1 ++ rep kf l, true) else
      (if l.any fun p => !lt p.1 k then (st.1 ++ rep kf (insL lt k x l), true) else (st.1 ++ rep kf l, false)))
  | [], st, _, _, _ => by
    obtain ⟨a, b⟩ := st
    cases b <;> simp [rep]
  | p :: l, st, h, hso, hd => by
    have hp := h p List.mem_cons_self
    have hl : OkL ok l := fun q hq => h q (List.mem_cons_of_mem _ hq)
    have hso' := List.pairwise_cons.1 hso
    have hge : geB (kf p.1) (kf k) = !lt p.1 k := by unfold geB; rw [hk.less _ _ hp hok]
    simp only [List.map_cons, List.foldl_cons]
    cases hst : st.2 with
    | true =>
      have hlt := hd hst p List.mem_cons_self
      have hne : ((kf p.1).toList == (kf k).toList) = false := by
        cases y : ((kf p.1).toList == (kf k).toList) with
        | false => rfl
        | true => have := (hk.same _ _ hp hok).1 y; subst this; rw [hs.irrefl] at hlt; cases hlt
      have e1 : putS (kf k) x st (kf p.1, p.2) = (st.1 ++ [(kf p.1, p.2)], true) := by simp [putS, hst, hne]
      rw [e1, putSt_rep hok hs l _ hl hso'.2 (fun _ q hq => hd hst q (List.mem_cons_of_mem _ hq))]
      simp [rep]
    | false =>
      by_cases c1 : lt p.1 k = true
      · have hne : ((kf p.1).toList == (kf k).toList) = false := by
          cases y : ((kf p.1).toList == (kf k).toList) with
          | false => rfl
          | true => have := (hk.same _ _ hp hok).1 y; subst this; rw [hs.irrefl] at c1; cases c1
        have e1 : putS (kf k) x st (kf p.1, p.2) = (st.1 ++ [(kf p.1, p.2)], false) := by simp [putS, hst, hne, hge, c1]
        rw [e1, putSt_rep hok hs l _ hl hso'.2 (fun h => by cases h)]
        have c2 : lt k p.1 = false := hs.asymm c1
        simp only [List.any_cons, c1, Bool.not_true, Bool.false_or, insL, c2, if_true, if_false, Bool.false_eq_true]
        split <;> simp [rep]
      · have c1' : lt p.1 k = false := by simpa using c1
        have any : ((p :: l).any fun p => !lt p.1 k) = true := by simp [c1']
        rw [any]
        simp only [if_true, if_false, Bool.false_eq_true]
        by_cases c2 : lt k p.1 = true
        · have hne : ((kf p.1).toList == (kf k).toList) = false := by
            cases y : ((kf p.1).toList == (kf k).toList) with
            | false => rfl
            | true => have := (hk.same _ _ hp hok).1 y; subst this; rw [hs.irrefl] at c2; cases c2
          have e1 : putS (kf k) x st (kf p.1, p.2) = (st.1 ++ [(kf k, x), (kf p.1, p.2)], true) := by simp [putS, hst, hne, hge, c1']
          rw [e1, putSt_rep hok hs l _ hl hso'.2 (fun _ q hq => hs.trans _ _ _ c2 (hso'.1 q hq))]
          simp [insL, c2, rep]
        · have e := hs.total k p.1 (by simpa using c2) c1'
          have hne : ((kf p.1).toList == (kf k).toList) = true := (hk.same _ _ hp hok).2 e.symm
          have e1 : putS (kf k) x st (kf p.1, p.2) = (st.1 ++ [(kf k, x)], true) := by simp [putS, hst, hne, hge, c1']
          rw [e1, putSt_rep hok hs l _ hl hso'.2 (fun _ q hq => by have := hso'.1 q hq; rw [← e] at this; exact this)]
          have c2' : lt k p.1 = false := by simpa using c2
          simp [insL, c2', c1', rep]
omit hk in
theorem insL_end {k : κ} {x : Int} (hs : Strict lt) : ∀ {l : List (κ × Int)}, (l.any fun p => !lt p.1 k) = false → insL lt k x l = l ++ [(k, x)]
  | [], _ => rfl
  | p :: l, h => by
    simp only [List.any_cons, Bool.or_eq_false_iff, Bool.not_eq_false'] at h
    simp only [insL, hs.asymm h.1, h.1, if_true, if_false, Bool.false_eq_true, List.cons_append]
    rw [insL_end hs h.2]
theorem rep_put {k : κ} {x : Int} (hok : ok k) (hs : Strict lt) {l : List (κ × Int)} (h : OkL ok l) (hso : Sorted lt l) : putR (kf k) x (rep kf l) = rep kf (insL lt k x l) := by
  have e := putSt_rep hk (x := x) hok hs l ([], false) h hso (fun h => by cases h)
  unfold putR putSt
  have e' : List.foldl (putS (kf k) x) ([], false) (rep kf l) = _ := e
  rw [e']
  simp only [if_false, Bool.false_eq_true, List.nil_append]
  cases c : (l.any fun p => !lt p.1 k) with
  | true => simp
  | false => rw [insL_end hs c]; simp [rep]
/-- Where the reference's Ceil stands. -/
theorem rep_ceil {k : κ} (hok : ok k) : ∀ {l : List (κ × Int)}, OkL ok l → ceilR (kf k) (rep kf l) = (l.takeWhile fun p => lt p.1 k).length
  | [], _ => rfl
  | p :: l, h => by
    have ih := rep_ceil hok (l := l) fun q hq => h q (List.mem_cons_of_mem _ hq)
    have e := hk.less p.1 k (h p List.mem_cons_self) hok
    unfold ceilR rep at *
    simp only [List.map_cons, List.takeWhile_cons, e]
    cases lt p.1 k <;> simp [ih]
end
end Go.Proofs.Ytdgclambplipnaa
