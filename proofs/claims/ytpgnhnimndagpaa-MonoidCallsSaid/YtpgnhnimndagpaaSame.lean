/- Same: two equal lists. -/
import Derived.Test.YtpgnhnimndagpaaJoins
import Derived.Test.YtpgnhnimndagpaaArr
import Derived.Test.YtpgnhnimndagpaaOwn
import Derived.Test.YtpgnhnimndagpaaTail
import Derived.Outline
namespace Go.Proofs.Ytpgnhnimndagpaa
open Go.RowKit
attribute [local go_sem] Oper.semAt_some

theorem addr_add (b : Addr) (i : Nat) : b.add (i + 1) = ⟨b.block, b.off + (i + 1), none⟩ := by unfold Addr.add; simp
/-- A slice's cell, as the walk spells its place. -/
theorem RowAt.at {α : Type} {ev : α → Value} {W : World} {v : Value} {L : List α} (h : RowAt ev W v L) {i : Nat} (hi : i < L.length) : ∃ b cap, v = .slice (some b) L.length cap ∧ ∀ w, Below W.heap.size W w → w.cell? (b.add i) = some (ev L[i]) := by
  obtain ⟨a, cap, rfl, -, -, hc⟩ := h
  obtain ⟨b, rfl, hm⟩ := hc i hi
  exact ⟨b, cap, rfl, fun w hw => cell_below hm hw⟩
theorem SlA.row {α : Type} {ev : α → Value} {B₀ : Nat} {W : World} {e : TypeId} {v : Value} {l : List α} (h : SlA B₀ W e 1 (fun a => [ev a]) v l) : RowAt ev W v l := by
  rcases h.shape with ⟨rfl, rfl⟩ | ⟨g, cap, rfl, h1, h2⟩
  · exact ⟨none, 0, rfl, by simp, by unfold maxLen; omega, fun i hi => by simp at hi⟩
  · refine ⟨_, cap, rfl, h1, h2, fun i hi => ⟨_, rfl, ?_⟩⟩
    have e := SlA.cell (size := 1) (enc := fun a => [ev a]) (fun _ => rfl) h hi (j := 0) Nat.one_pos
    have e2 : (⟨g, 0, none⟩ : Addr).add i = ⟨g, i, none⟩ := by unfold Addr.add; split <;> simp_all
    rw [e2]
    simpa using e
/-- A slice that the text wrote out. -/
theorem RowAt.lit {α : Type} {ev : α → Value} (w : World) {cs : Array Value} {t : TypeId} {L : List α} (hcs : cs.toList = L.map ev) (hn : L.length ≤ maxLen) : RowAt ev (w.alloc (.cells cs t)) (.slice (some ⟨w.heap.size, 0, none⟩) L.length L.length) L := by
  refine ⟨_, _, rfl, Nat.le_refl _, hn, fun i hi => ⟨_, rfl, ?_⟩⟩
  have e2 : (⟨w.heap.size, 0, none⟩ : Addr).add i = ⟨w.heap.size, i, none⟩ := by unfold Addr.add; split <;> simp_all
  have e3 : cs[i]? = some (ev L[i]) := by rw [← Array.getElem?_toList, hcs]; simp [hi]
  rw [e2]
  simp only [World.cell?, heap_new]
  simpa using e3

set_option maxRecDepth 100000 in
set_option maxHeartbeats 2000000 in
theorem same_eq {W : World} {v v' : Value} {L : List Int} (h : RowAt (Value.int .i64) W v L) (h' : RowAt (Value.int .i64) W v' L) :
    Calls Try.prog 29 #[v, v'] W fun e w' => e = .returned (.bool true) ∧ Below W.heap.size W w' := by
  have HF : ∀ f, Fence.wide.fn f := fun _ => trivial
  have H := Lib.hid h; have H' := Lib.hid h'
  obtain ⟨a, cap, rfl, hc1, hc2, -⟩ := h
  obtain ⟨a', cap', rfl, -, -, -⟩ := h'
  unfold maxLen at hc2
  go_enter Try.func29, Try.ntmps29
  go_wp2_with fail
  go_loopw [13] (fun c wr => ∃ j : Nat, j ≤ L.length ∧ c = .int .i64 j ∧ Below W.heap.size W wr) (fun c _ => L.length - (intOf c).toNat)
  case atStart => exact ⟨0, by omega, rfl, Below.refl _ _⟩
  case round =>
    obtain ⟨j, hj, rfl, hB⟩ := hrel
    have HB := Lib.hid hB; clear hB
    by_cases hlt : j < L.length
    · have hl3 : (j : Int) < (L.length : Int) := by omega
      have hl4 : (0 : Int) ≤ (j : Int) := by omega
      obtain ⟨b, c, hb, m1⟩ := H.out.at hlt
      obtain ⟨b', c', hb', m2⟩ := H'.out.at hlt
      simp only [Value.slice.injEq] at hb hb'
      obtain ⟨rfl, -, rfl⟩ := hb
      obtain ⟨rfl, -, rfl⟩ := hb'
      have k1 : ∀ w, Below W.heap.size W w → w.cell? (b.add j) = some (.int .i64 L[j]) := m1
      have k2 : ∀ w, Below W.heap.size W w → w.cell? (b'.add j) = some (.int .i64 L[j]) := m2
      go_wp2_with fail
      have B0 : Below W.heap.size W wr.drew := HB.out.drew
      refine wp_region_anyH (Below W.heap.size W) (by kernel_rfl) ?_
      refine AnyH.take (i := 0) (d := some 16) (v := ?_) (by kernel_rfl) rfl rfl HF (fun _ _ _ h => h) (.inl ⟨by rfl, ?_⟩) (by first | assumption | rfl) ?_
      rotate_left
      · intro w hS; try subst hS
        go_simp; try with_reducible rfl
      try simp only [Act.put, List.setIfInBounds_toArray, List.set_cons_zero, List.set_cons_succ]
      refine AnyH.take (i := 1) (d := some 17) (v := ?_) (by kernel_rfl) rfl rfl HF (fun _ _ _ h => h) (.inl ⟨by rfl, ?_⟩) (by first | assumption | rfl) ?_
      rotate_left
      · intro w hS; try subst hS
        go_simp; try with_reducible rfl
      try simp only [Act.put, List.setIfInBounds_toArray, List.set_cons_zero, List.set_cons_succ]
      refine AnyH.take (i := 2) (d := some 18) (v := ?_) (by kernel_rfl) rfl rfl HF (fun _ _ _ h => h) (.inl ⟨by rfl, ?_⟩) (by first | assumption | rfl) ?_
      rotate_left
      · intro w hS; try subst hS
        go_simp; try with_reducible rfl
      try simp only [Act.put, List.setIfInBounds_toArray, List.set_cons_zero, List.set_cons_succ]
      refine AnyH.take (i := 3) (d := some 19) (v := ?_) (by kernel_rfl) rfl rfl HF (fun _ _ _ h => h) (.inl ⟨by rfl, ?_⟩) (by first | assumption | rfl) ?_
      rotate_left
      · intro w hS; try subst hS
        go_simp; try with_reducible rfl
      try simp only [Act.put, List.setIfInBounds_toArray, List.set_cons_zero, List.set_cons_succ]
      refine AnyH.take (i := 4) (d := some 20) (v := ?_) (by kernel_rfl) rfl rfl HF (fun _ _ _ h => h) (.inl ⟨by rfl, ?_⟩) (by first | assumption | rfl) ?_
      rotate_left
      · intro w hS; try subst hS
        go_simp; try with_reducible rfl
      try simp only [Act.put, List.setIfInBounds_toArray, List.set_cons_zero, List.set_cons_succ]
      refine AnyH.take (i := 5) (d := some 21) (v := ?_) (by kernel_rfl) rfl rfl HF (fun _ _ _ h => h) (.inl ⟨by rfl, ?_⟩) (by first | assumption | rfl) ?_
      rotate_left
      · intro w hS; try subst hS
        go_simp; try with_reducible rfl
      try simp only [Act.put, List.setIfInBounds_toArray, List.set_cons_zero, List.set_cons_succ]
      refine AnyH.take (i := 6) (d := some 22) (v := ?_) (by kernel_rfl) rfl rfl HF (fun _ _ _ h => h) (.inl ⟨by rfl, ?_⟩) (by first | assumption | rfl) ?_
      rotate_left
      · intro w hS; try subst hS
        go_simp; try with_reducible rfl
      try simp only [Act.put, List.setIfInBounds_toArray, List.set_cons_zero, List.set_cons_succ]
      refine AnyH.take (i := 7) (d := some 23) (v := ?_) (by kernel_rfl) rfl rfl HF (fun _ _ _ h => h) (.inl ⟨by rfl, ?_⟩) (by first | assumption | rfl) ?_
      rotate_left
      · intro w hS; try subst hS
        go_simp; try with_reducible rfl
      try simp only [Act.put, List.setIfInBounds_toArray, List.set_cons_zero, List.set_cons_succ]
      refine AnyH.take (i := 8) (d := some 24) (v := ?_) (by kernel_rfl) rfl rfl HF (fun _ _ _ h => h) (.inl ⟨by rfl, ?_⟩) (by first | assumption | rfl) ?_
      rotate_left
      · intro w hS; try subst hS
        go_simp; try with_reducible rfl
      try simp only [Act.put, List.setIfInBounds_toArray, List.set_cons_zero, List.set_cons_succ]
      refine AnyH.done (by kernel_rfl) ?_
      go_wp2_with fail
      go_roundw
      case rel => exact ⟨j + 1, by omega, by go_num, B0⟩
      case measure => simp [intOf]; omega
    · obtain rfl : j = L.length := by omega
      go_wp2_with fail
      go_ret
      exact ⟨rfl, HB.out⟩
end Go.Proofs.Ytpgnhnimndagpaa
