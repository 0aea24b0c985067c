/- The reference's lists against sorted lists. No program but the reference's definitions. -/
import Derived.Test.YtlfodhejpbjfcaaRefS1
import Derived.Test.YtlfodhejpbjfcaaDropPlain
import Derived.Test.YtlfodhejpbjfcaaPutsd
namespace Go.Proofs.Ytlfodhejpbjfcaa
open Go.RowKit
variable {κ : Type}
/-- The keys as the reference has them: their order is kept, and no two fall together. -/
structure KeyMap (lt : κ → κ → Bool) (ok : κ → Prop) (kf : κ → ByteArray) : Prop where
  less : ∀ a b, ok a → ok b → Op.bytesLess (kf a).toList (kf b).toList = lt a b
  same : ∀ a b, ok a → ok b → (((kf a).toList == (kf b).toList) = true ↔ a = b)

def rep (kf : κ → ByteArray) (l : List (κ × Int)) : List (ByteArray × Int) := l.map fun p => (kf p.1, p.2)
def OkL (ok : κ → Prop) (l : List (κ × Int)) : Prop := ∀ p ∈ l, ok p.1

section
variable {lt : κ → κ → Bool} {ok : κ → Prop} {kf : κ → ByteArray} (hs : Strict lt) (hk : KeyMap lt ok kf)
include hk

theorem rep_drop {k : κ} (hok : ok k) : ∀ {l : List (κ × Int)}, OkL ok l → Strict lt → dropR (kf k) (rep kf l) = rep kf (delL lt k l)
  | [], _, _ => rfl
  | p :: l, h, hs => by
    have hp := h p List.mem_cons_self
    have ih := rep_drop hok (l := l) (fun q hq => h q (List.mem_cons_of_mem _ hq)) hs
    have e := hk.same p.1 k hp hok
    unfold dropR delL rep at *
    simp only [List.map_cons, List.filter_cons]
    by_cases c : p.1 = k
    · have h1 := e.2 c
      rw [h1]
      subst c
      simp only [hs.irrefl]
      simpa using ih
    · have h1 : ((kf p.1).toList == (kf k).toList) = false := by
        cases x : ((kf p.1).toList == (kf k).toList) with
        | false => rfl
        | true => exact absurd (e.1 x) c
      rw [h1]
      have h2 : (lt k p.1 || lt p.1 k) = true := by
        cases a : lt k p.1 with
        | true => rfl
        | false => cases b : lt p.1 k with
          | true => rfl
          | false => exact absurd (hs.total _ _ b a) c
      rw [h2]
      simpa using ih

theorem putSt_rep {k : κ} {x : Int} (hok : ok k) (hs : Strict lt) : ∀ (l : List (κ × Int)) (st : List (ByteArray × Int) × Bool), OkL ok l → Sorted lt l → (st.2 = true → ∀ p ∈ l, lt k p.1 = true) →
    (l.map fun p => (kf p.1, p.2)).foldl (putS (kf k) x) st = (if st.2 then (st.1 ++ rep kf l, true) else
      (if l.any fun p => !lt p.1 k then (st.1 ++ rep kf (insL lt k x l), true) else (st.1 ++ rep kf l, false)))
  | [], st, _, _, _ => by
    obtain ⟨a, b⟩ := st
    cases b <;> simp [rep]
  | p :: l, st, h, hso, hd => by
    have hp := h p List.mem_cons_self
    have hl : OkL ok l := fun q hq => h q (List.mem_cons_of_mem _ hq)
    have hso' := List.pairwise_cons.1 hso
    have hge : geB (kf p.1) (kf k) = !lt p.1 k := by unfold geB; rw [hk.less _ _ hp hok]
    simp only [List.map_cons, List.foldl_cons]
    cases hst : st.2 with
    | true =>
      have hlt := hd hst p List.mem_cons_self
      have hne : ((kf p.1).toList == (kf k).toList) = false := by
        cases y : ((kf p.1).toList == (kf k).toList) with
        | false => rfl
        | true => have := (hk.same _ _ hp hok).1 y; subst this; rw [hs.irrefl] at hlt; cases hlt
      have e1 : putS (kf k) x st (kf p.1, p.2) = (st.1 ++ [(kf p.1, p.2)], true) := by simp [putS, hst, hne]
      rw [e1, putSt_rep hok hs l _ hl hso'.2 (fun _ q hq => hd hst q (List.mem_cons_of_mem _ hq))]
      simp [rep]
    | false =>
      by_cases c1 : lt p.1 k = true
      · have hne : ((kf p.1).toList == (kf k).toList) = false := by
          cases y : ((kf p.1).toList == (kf k).toList) with
          | false => rfl
          | true => have := (hk.same _ _ hp hok).1 y; subst this; rw [hs.irrefl] at c1; cases c1
        have e1 : putS (kf k) x st (kf p.1, p.2) = (st.1 ++ [(kf p.1, p.2)], false) := by simp [putS, hst, hne, hge, c1]
        rw [e1, putSt_rep hok hs l _ hl hso'.2 (fun h => by cases h)]
        have c2 : lt k p.1 = false := hs.asymm c1
        simp only [List.any_cons, c1, Bool.not_true, Bool.false_or, insL, c2, if_true, if_false, Bool.false_eq_true]
        split <;> simp [rep]
      · have c1' : lt p.1 k = false := by simpa using c1
        have any : ((p :: l).any fun p => !lt p.1 k) = true := by simp [c1']
        rw [any]
        simp only [if_true, if_false, Bool.false_eq_true]
        by_cases c2 : lt k p.1 = true
        · have hne : ((kf p.1).toList == (kf k).toList) = false := by
            cases y : ((kf p.1).toList == (kf k).toList) with
            | false => rfl
            | true => have := (hk.same _ _ hp hok).1 y; subst this; rw [hs.irrefl] at c2; cases c2
          have e1 : putS (kf k) x st (kf p.1, p.2) = (st.1 ++ [(kf k, x), (kf p.1, p.2)], true) := by simp [putS, hst, hne, hge, c1']
          rw [e1, putSt_rep hok hs l _ hl hso'.2 (fun _ q hq => hs.trans _ _ _ c2 (hso'.1 q hq))]
          simp [insL, c2, rep]
        · have e := hs.total k p.1 (by simpa using c2) c1'
          have hne : ((kf p.1).toList == (kf k).toList) = true := (hk.same _ _ hp hok).2 e.symm
          have e1 : putS (kf k) x st (kf p.1, p.2) = (st.1 ++ [(kf k, x)], true) := by simp [putS, hst, hne, hge, c1']
          rw [e1, putSt_rep hok hs l _ hl hso'.2 (fun _ q hq => by have := hso'.1 q hq; rw [← e] at this; exact this)]
          have c2' : lt k p.1 = false := by simpa using c2
          simp [insL, c2', c1', rep]
omit hk in
theorem insL_end {k : κ} {x : Int} (hs : Strict lt) : ∀ {l : List (κ × Int)}, (l.any fun p => !lt p.1 k) = false → insL lt k x l = l ++ [(k, x)]
  | [], _ => rfl
  | p :: l, h => by
    simp only [List.any_cons, Bool.or_eq_false_iff, Bool.not_eq_false'] at h
    simp only [insL, hs.asymm h.1, h.1, if_true, if_false, Bool.false_eq_true, List.cons_append]
    rw [insL_end hs h.2]
theorem rep_put {k : κ} {x : Int} (hok : ok k) (hs : Strict lt) {l : List (κ × Int)} (h : OkL ok l) (hso : Sorted lt l) : putR (kf k) x (rep kf l) = rep kf (insL lt k x l) := by
  have e := putSt_rep hk (x := x) hok hs l ([], false) h hso (fun h => by cases h)
  unfold putR putSt
  have e' : List.foldl (putS (kf k) x) ([], false) (rep kf l) = _ := e
  rw [e']
  simp only [if_false, Bool.false_eq_true, List.nil_append]
  cases c : (l.any fun p => !lt p.1 k) with
  | true => simp
  | false => rw [insL_end hs c]; simp [rep]
end

theorem bytesLess_irrefl : ∀ a : List UInt8, Op.bytesLess a a = false
  | [] => by simp [Op.bytesLess]
  | x :: a => by simp [Op.bytesLess, bytesLess_irrefl a]
theorem bytesLess_trans : ∀ a b c : List UInt8, Op.bytesLess a b = true → Op.bytesLess b c = true → Op.bytesLess a c = true
  | _, _, [], _, h => by cases ‹List UInt8› <;> simp [Op.bytesLess] at h
  | [], _, _ :: _, _, _ => by simp [Op.bytesLess]
  | _ :: _, [], _, h, _ => by simp [Op.bytesLess] at h
  | x :: a, y :: b, z :: c, h1, h2 => by
    simp only [Op.bytesLess, Bool.or_eq_true, Bool.and_eq_true, decide_eq_true_eq, beq_iff_eq] at *
    rcases h1 with h1 | ⟨rfl, h1⟩
    · rcases h2 with h2 | ⟨rfl, h2⟩
      · exact .inl (UInt8.lt_trans h1 h2)
      · exact .inl h1
    · rcases h2 with h2 | ⟨rfl, h2⟩
      · exact .inl h2
      · exact .inr ⟨rfl, bytesLess_trans a b c h1 h2⟩
theorem bytesLess_total : ∀ a b : List UInt8, Op.bytesLess a b = false → Op.bytesLess b a = false → a = b
  | [], [], _, _ => rfl
  | [], _ :: _, h, _ => by simp [Op.bytesLess] at h
  | _ :: _, [], _, h => by simp [Op.bytesLess] at h
  | x :: a, y :: b, h1, h2 => by
    simp only [Op.bytesLess, Bool.or_eq_false_iff, decide_eq_false_iff_not] at h1 h2
    have e : x = y := by
      have a1 := UInt8.not_lt.1 h1.1; have a2 := UInt8.not_lt.1 h2.1
      exact UInt8.le_antisymm a2 a1
    subst e
    have h1' := h1.2; have h2' := h2.2
    simp at h1' h2'
    rw [bytesLess_total a b h1' h2']
theorem bytes_ext {a b : ByteArray} (h : a.toList = b.toList) : a = b := by
  rw [ByteArray.toList_eq, ByteArray.toList_eq] at h
  obtain ⟨a⟩ := a; obtain ⟨b⟩ := b
  simpa using h
theorem strict_str : Strict (fun a b : ByteArray => Op.bytesLess a.toList b.toList) where
  irrefl _ := bytesLess_irrefl _
  trans _ _ _ h1 h2 := bytesLess_trans _ _ _ h1 h2
  total _ _ h1 h2 := bytes_ext (bytesLess_total _ _ h1 h2)
theorem keymap_str : KeyMap (fun a b : ByteArray => Op.bytesLess a.toList b.toList) (fun _ : ByteArray => True) (fun s : ByteArray => s) where
  less _ _ _ _ := rfl
  same a b _ _ := by rw [beq_iff_eq]; exact ⟨bytes_ext, fun h => by rw [h]⟩

namespace S
theorem rep_id (l : List (ByteArray × Int)) : rep (fun s : ByteArray => s) l = l := by unfold rep; simp
theorem okl_true (l : List (ByteArray × Int)) : OkL (fun _ : ByteArray => True) l := fun _ _ => trivial
theorem putR_eq {s : ByteArray} {x : Int} {l : List (ByteArray × Int)} (h : Sorted sd.lt l) : putR s x l = insL sd.lt s x l := by
  have := rep_put (x := x) keymap_str (k := s) trivial strict_str (okl_true l) h
  rwa [rep_id, rep_id] at this
theorem dropR_eq {s : ByteArray} {l : List (ByteArray × Int)} : dropR s l = delL sd.lt s l := by
  have := rep_drop keymap_str (k := s) trivial (okl_true l) strict_str
  rwa [rep_id, rep_id] at this
end S
end Go.Proofs.Ytlfodhejpbjfcaa
