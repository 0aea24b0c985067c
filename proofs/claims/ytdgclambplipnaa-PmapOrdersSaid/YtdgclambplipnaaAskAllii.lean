/- asks returns true. -/
import Derived.Test.YtdgclambplipnaaAskAii
import Derived.Test.YtdgclambplipnaaAskB0ii
import Derived.Test.YtdgclambplipnaaAskB1ii
import Derived.Test.YtdgclambplipnaaAskC0ii
import Derived.Test.YtdgclambplipnaaAskC1ii
import Derived.Test.YtdgclambplipnaaSplit
namespace Go.Proofs.Ytdgclambplipnaa
open Go.RowKit
namespace ii
theorem entry_some {T : Tr Int Int} {k : Int} {v : Int} (h : T.top? = some (k, v)) : entryV T = .tuple #[Value.int .i64 k, .int .i64 v, .bool true] := by
  cases T with
  | nil => simp [Tr.top?] at h
  | node l a b r => simp only [Tr.top?, Option.some.injEq, Prod.mk.injEq] at h; obtain ⟨rfl, rfl⟩ := h; rfl
theorem entry_none {T : Tr Int Int} (h : T.top? = none) : entryV T = .tuple #[Value.int .i64 0, .int .i64 0, .bool false] := by
  cases T with
  | nil => rfl
  | node l a b r => simp [Tr.top?] at h
theorem get_some {T : Tr Int Int} {k : Int} {v : Int} (h : T.top? = some (k, v)) : getV T = .tuple #[.int .i64 v, .bool true] := by
  cases T with
  | nil => simp [Tr.top?] at h
  | node l a b r => simp only [Tr.top?, Option.some.injEq, Prod.mk.injEq] at h; obtain ⟨rfl, rfl⟩ := h; rfl
theorem get_none {T : Tr Int Int} (h : T.top? = none) : getV T = .tuple #[.int .i64 0, .bool false] := by
  cases T with
  | nil => rfl
  | node l a b r => simp [Tr.top?] at h

theorem asks_any (k : Int) (hok : ok k) {W : World} {p : Option Addr} {v : Value} {T : Tr Int Int} (hT : Is W p T) (hV : Prs 0 W v (rep kf T.toList)) (hso : Sorted lt T.toList) (hol : OkL ok T.toList) (hn : T.toList.length ≤ 1000000) :
    Calls Try.prog 43 #[.agg #[.pointer p], v, Value.int .i64 k, .func (.func 17) #[] #[]] W fun e w' => e = .returned (.bool true) ∧ Below W.heap.size W w' := by
  obtain ⟨A, B, hL, hA, hAl, hB⟩ := split_at st k T.toList hso
  have h1 := findF_top st k T hso
  have h2 := floorF_top st k T .nil hso
  have h3 := ceilF_top st k T .nil hso
  have h4 := rep_ceil km (k := k) hok (l := T.toList) hol
  rw [hA] at h4
  have hn' : (rep kf T.toList).length ≤ 1000000 := by simpa [rep] using hn
  have hlen : (rep kf T.toList).length = A.length + B.length := by rw [hL]; simp [rep]
  have hget : ∀ (i : Nat) (q : Int × Int), (A ++ B)[i]? = some q → ∃ h : i < (rep kf T.toList).length, (rep kf T.toList)[i] = (kf q.1, q.2) := by
    intro i q hq
    have hi := (List.getElem?_eq_some_iff.1 hq).1
    rw [hL]
    refine ⟨by simpa [rep] using hi, ?_⟩
    have := (List.getElem?_eq_some_iff.1 hq).2
    simp only [rep, List.getElem_map, this]
  have hoka : ∀ q ∈ A, ok q.1 := fun q hq => hol q (by rw [hL]; exact List.mem_append_left _ hq)
  rcases hB with ⟨rfl, c1, c2, c3⟩ | ⟨b, B', rfl, hlt, c1, c2⟩
  · -- no key is as great
    rw [c1] at h3; rw [c2] at h1; rw [c3] at h2
    simp at hlen
    have eR : getR (kf k) (rep kf T.toList) = (0, false) := by
      unfold getR; rw [h4, List.getElem?_eq_none (by omega)]
    rcases List.eq_nil_or_concat A with rfl | ⟨A', z, rfl⟩
    · exact asks_C0 k hok hT hV hn' (by simpa using hlen) (by rw [h4, hlen]) (entry_none (by simpa [Tr.top?] using h3)) (get_none h1) eR (entry_none (by simpa [Tr.top?] using h2))
    · obtain ⟨hi, he⟩ := hget A'.length z (by simp)
      exact asks_C1 k hok hT hV hn' (fk := z.1) (fv := z.2) (j := A'.length) (hoka z (by simp)) hi he (entry_some (by simpa [Tr.top?] using h2)) (by rw [hlen]; simp) (by rw [h4, hlen]) (entry_none (by simpa [Tr.top?] using h3)) (get_none h1) eR
  · have hokb : ok b.1 := hol b (by rw [hL]; simp)
    obtain ⟨hi, he⟩ := hget A.length b (by simp)
    have eR' : getR (kf k) (rep kf T.toList) = if (kf b.1).toList == (kf k).toList then (b.2, true) else (0, false) := by
      unfold getR; rw [h4, List.getElem?_eq_getElem hi, he]
    rw [c1] at h3
    have ec := entry_some (T := ceilF lt k .nil T) (k := b.1) (v := b.2) (by simpa [Tr.top?] using h3)
    rcases c2 with ⟨rfl, c2, c3⟩ | ⟨hne, c2, c3⟩
    · rw [c2] at h1; rw [c3] at h2
      exact asks_A b.1 hok hT hV hn' (b := b.2) (i := A.length) hok hi he h4 ec (get_some h1) (by rw [eR', if_pos (by simp)]) (entry_some (by simpa [Tr.top?] using h2))
    · rw [c2] at h1; rw [c3] at h2
      have hneq : ((kf b.1).toList == (kf k).toList) = false := by
        cases y : ((kf b.1).toList == (kf k).toList) with
        | false => rfl
        | true => have := (km.same _ _ hokb hok).1 y; rw [← this] at hne; rw [st.irrefl] at hne; cases hne
      have eR : getR (kf k) (rep kf T.toList) = (0, false) := by rw [eR', hneq]; rfl
      rcases List.eq_nil_or_concat A with rfl | ⟨A', z, rfl⟩
      · exact asks_B0 k hok hT hV hn' (a := b.1) (b := b.2) hokb hi he h4 ec (get_none h1) eR hneq (entry_none (by simpa [Tr.top?] using h2))
      · obtain ⟨hj, hm⟩ := hget A'.length z (by simp)
        obtain ⟨hi', he'⟩ := hget (A'.length + 1) b (by simp)
        exact asks_B1 k hok hT hV hn' (a := b.1) (b := b.2) (j := A'.length) hokb hi' he' (by rw [h4]; simp) ec (get_none h1) eR hneq (fk := z.1) (fv := z.2) (hoka z (by simp)) hj hm (entry_some (by simpa [Tr.top?] using h2))
end ii
end Go.Proofs.Ytdgclambplipnaa
