/- A monoid that counts: its Join, and Fold over it. -/
import Derived.Test.YtpgnhnimndagpaaCatch
import Derived.Test.YtpgnhnimndagpaaJoins
import Derived.Test.YtpgnhnimndagpaaArr
import Derived.Test.YtpgnhnimndagpaaSame
import Derived.Test.YtpgnhnimndagpaaOwn
import Derived.Outline
namespace Go.Proofs.Ytpgnhnimndagpaa
open Go.RowKit
namespace C
attribute [local go_sem] Oper.semAt_some

/-- Nothing that lay has turned but block C. -/
structure BC (C : Nat) (A B : World) : Prop where
  os : B.os = A.os
  tape : B.tape = A.tape
  output : B.output = A.output
  size : A.heap.size ≤ B.heap.size
  block : ∀ k, k < A.heap.size → k ≠ C → B.heap[k]? = A.heap[k]?
def Cn (w : World) (C c : Nat) : Prop := w.heap[C]? = some (.cells #[.int .i64 (c : Int)] 3 (0, 0))
theorem BC.of {C : Nat} {A B : World} (h : Below A.heap.size A B) : BC C A B := ⟨h.os, h.tape, h.output, h.size, fun k hk _ => h.block k hk⟩
theorem BC.refl (C : Nat) (A : World) : BC C A A := .of (Below.refl _ _)
theorem BC.trans {C : Nat} {A B D : World} (h : BC C A B) (k : BC C B D) : BC C A D :=
  ⟨k.os.trans h.os, k.tape.trans h.tape, k.output.trans h.output, Nat.le_trans h.size k.size, fun i hi hc => (k.block i (Nat.lt_of_lt_of_le hi h.size) hc).trans (h.block i hi hc)⟩
theorem BC.set {C : Nat} {A B : World} (h : BC C A B) {p : Addr} (hp : A.heap.size ≤ p.block ∨ p.block = C) (u : Value) : BC C A (B.setCell p u) :=
  ⟨h.os, h.tape, h.output, Nat.le_trans h.size (by simp [World.setCell]), fun k hk hc => (Below.heap_setCell _ _ _ _ (by omega)).trans (h.block k hk hc)⟩
theorem BC.obj {C : Nat} {A B : World} (h : BC C A B) {k : Nat} (hc : k ≠ C) {o : Obj} (ho : A.heap[k]? = some o) : B.heap[k]? = some o := (h.block k (Array.getElem?_eq_some_iff.1 ho).1 hc).trans ho
theorem BC.cell {C : Nat} {A B : World} (h : BC C A B) {a : Addr} (hc : a.block ≠ C) {u : Value} (ho : A.cell? a = some u) : B.cell? a = some u := by
  have h2 := ho
  unfold World.cell? at ho ⊢
  cases hh : A.heap[a.block]? with
  | none => rw [hh] at ho; cases ho
  | some o => rw [h.block a.block (Array.getElem?_eq_some_iff.1 hh).1 hc]; exact ho
theorem BC.below {C n : Nat} {W A B : World} (h : Below n W A) (k : BC C A B) (hn : n ≤ A.heap.size) (hC : n ≤ C) : Below n W B :=
  h.trans ⟨k.os, k.tape, k.output, k.size, fun i hi => k.block i (by omega) (by omega)⟩
theorem Cn.lt {w : World} {C c : Nat} (h : Cn w C c) : C < w.heap.size := (Array.getElem?_eq_some_iff.1 h).1
theorem Cn.below {A B : World} {C c : Nat} (h : Cn A C c) (hb : Below A.heap.size A B) : Cn B C c := box_below hb h
/-- Where a call over the counter stands. -/
def St (C : Nat) (W w : World) (c : Nat) : Prop := Cn w C c ∧ BC C W w
theorem St.below {C c : Nat} {W A B : World} (h : St C W A c) (hb : Below A.heap.size A B) : St C W B c := ⟨h.1.below hb, h.2.trans (.of hb)⟩
theorem St.step {C c c' : Nat} {W A B : World} (h : St C W A c) (k : St C A B c') : St C W B c' := ⟨k.1, h.2.trans k.2⟩
theorem St.set {C c : Nat} {W A : World} (h : St C W A c) {p : Addr} (hp : W.heap.size ≤ p.block) (hC : C < W.heap.size) (u : Value) : St C W (A.setCell p u) c :=
  ⟨(Below.heap_setCell _ _ _ _ (by omega)).trans h.1, h.2.set (.inl hp) u⟩
theorem St.refl {C c : Nat} {W : World} (h : Cn W C c) : St C W W c := ⟨h, BC.refl _ _⟩
/-- What a Join leaves. -/
def JP (C c : Nat) (W : World) (e : Ending) (w' : World) : Prop := ∃ z : Int, e = .returned (.int .i64 z) ∧ St C W w' (c + 1)

set_option maxRecDepth 100000 in
set_option maxHeartbeats 1000000 in
theorem cnt_join (C c : Nat) (hc : c ≤ 1000000000) (a b : Int) (W : World) (h : Cn W C c) : Calls Try.prog 85 #[.agg #[.pointer (some ⟨C, 0, none⟩)], .int .i64 a, .int .i64 b] W (JP C c W) := by
  obtain ⟨W0, hW0⟩ : ∃ W0, W.alloc (.cells #[.pointer (some ⟨C, 0, none⟩)] 76) = W0 := ⟨_, rfl⟩
  have hb0 : Below W.heap.size W W0 := by rw [← hW0]; exact (Below.refl _ W).alloc (Nat.le_refl _) _
  have h0 := h.below hb0
  have n0 : W0.heap[W.heap.size]? = some (.cells #[.pointer (some ⟨C, 0, none⟩)] 76 (0, 0)) := by rw [← hW0]; exact heap_new _ _
  have c0 := box_cell n0; have c1 := box_cell h0; have f1 := box_frozen h0
  have HS : Hid (St C W (W0.setCell ⟨C, 0, none⟩ (.int .i64 ((c : Int) + 1))) (c + 1)) := Lib.hid ⟨by
    show _ = _
    rw [box_set _ h0]; congr, (BC.of hb0).set (p := ⟨C, 0, none⟩) (.inr rfl) _⟩
  clear n0 hb0 h0
  go_enter Try.func85, Try.ntmps85
  go_wp2_with fail
  go_ret
  exact ⟨_, rfl, HS.out⟩
theorem cnt_unit (C : Nat) (W : World) : Calls Try.prog 86 #[.agg #[.pointer (some ⟨C, 0, none⟩)]] W fun e w' => e = .returned (.int .i64 0) ∧ Below W.heap.size W w' := by
  go_enter Try.func86, Try.ntmps86
  go_wp2_with fail
  go_ret
  exact ⟨rfl, (Below.refl _ _).alloc (Nat.le_refl _) _⟩
end C
end Go.Proofs.Ytpgnhnimndagpaa
