/- The iterators each and after, at each instance: whatever a round does.
All: an iterator over the entries of a tree.
The box's List. -/
import Derived.RangeFuncKeeps
import Derived.RangeFuncBound
import Derived.RangeFuncLeaves
import Derived.Shelf.Abstract
import Derived.WalkKit
import Derived.OwnWalkIn
import Derived.TacticsInMore
import Derived.Test.YtlfodhejpbjfcaaCom
import Derived.Test.YtlfodhejpbjfcaaMethsd
import Derived.Test.YtlfodhejpbjfcaaRfs
import Derived.Test.YtlfodhejpbjfcaaCom2
set_option linter.unusedVariables false
set_option linter.unusedSimpArgs false
namespace Go.Proofs.Ytlfodhejpbjfcaa
open Go.RowKit Go.Shelf
namespace sd
attribute [local go_sem] Oper.semAt_some

/-- What each round of a loop over the entries promises. -/
def Rnd (l : Nat) (J Jx : List (ByteArray × Int) → World → Prop) (N : Nat) : Prop :=
  ∀ (m : Nat) (pre : List (ByteArray × Int)) (x : ByteArray × Int) (W : World), J pre W → pre.length < N → YieldAt Fence.wide m Try.prog l #[Value.string x.1, Value.int .i64 x.2] W fun e W' =>
    (e = .returned (.bool true) ∧ J (pre ++ [x]) W' ∧ KeepT 189 W W') ∨ (e = .returned (.bool false) ∧ Jx (pre ++ [x]) W')
/-- What an iterator over xs leaves. -/
def Itr (J Jx : List (ByteArray × Int) → World → Prop) (pre xs : List (ByteArray × Int)) (W : World) (e : Ending) (W' : World) : Prop :=
  (e = .returned (.bool true) ∧ J (pre ++ xs) W' ∧ KeepT 189 W W') ∨ (e = .returned (.bool false) ∧ ∃ q, q <+: xs ∧ Jx (pre ++ q) W')

theorem keep_cells {W : World} {b : Nat} {k v l r h c : Value} (hb : W.heap[b]? = some (.cells #[k, v, l, r, h, c] 189 (0, 0))) (w : World) (hk : KeepT 189 W w) :
    w.cell? ⟨b, 0, none⟩ = some k ∧ w.cell? ⟨b, 1, none⟩ = some v ∧ w.cell? ⟨b, 2, none⟩ = some l ∧ w.cell? ⟨b, 3, none⟩ = some r := by
  obtain ⟨h0, h1, h2, h3, -, -⟩ := node_cells (hk _ _ _ hb)
  exact ⟨h0, h1, h2, h3⟩

set_option maxRecDepth 100000 in
set_option maxHeartbeats 4000000 in
theorem each_in (l N : Nat) (J Jx : List (ByteArray × Int) → World → Prop) (hY : Rnd l J Jx N) (hJd : ∀ pre W, J pre W → J pre W.drew) : ∀ (T : Tr ByteArray Int) (n : Nat) (p : Option Addr) (pre : List (ByteArray × Int)) (W : World), Is W p T → J pre W → pre.length + T.toList.length ≤ N →
    CallsIn Fence.wide n Try.prog 62 #[.pointer p, .func (.yield l) #[] #[]] W (Itr J Jx pre T.toList W) := by
  intro T
  have HF : ∀ f, Fence.wide.fn f := fun _ => trivial
  induction T with
  | nil =>
    intro n p pre W h hJ _
    obtain rfl : p = none := h
    have HJ := Lib.hid (hJd _ _ hJ)
    clear hJ
    refine callsIn_of_wp Try.func62 rfl trivial ?_ rfl
    simp only [Try.ntmps62, List.size_toArray, List.length_cons, List.length_nil, Nat.reduceAdd, Nat.reduceSub, Array.replicate_succ, Array.replicate_zero, List.push_toArray, List.append_toArray, List.nil_append, List.cons_append]
    gi_wp2_with fail
    refine wpIn_region_anyH (fun w => w = W.drew) (by kernel_rfl) ?_
    refine AnyH.take (i := 0) (d := some 5) (v := ?_) (by kernel_rfl) rfl rfl HF (fun _ _ _ h => h) (.inl ⟨by rfl, ?_⟩) (by first | assumption | rfl) ?_
    rotate_left
    · intro w hS; try subst hS
      go_simp; try with_reducible rfl
    try simp only [Act.put, List.setIfInBounds_toArray, List.set_cons_zero, List.set_cons_succ]
    refine AnyH.take (i := 1) (d := some 6) (v := ?_) (by kernel_rfl) rfl rfl HF (fun _ _ _ h => h) (.inl ⟨by rfl, ?_⟩) (by first | assumption | rfl) ?_
    rotate_left
    · intro w hS; try subst hS
      go_simp; try with_reducible rfl
    try simp only [Act.put, List.setIfInBounds_toArray, List.set_cons_zero, List.set_cons_succ]
    refine AnyH.take (i := 2) (d := some 7) (v := ?_) (by kernel_rfl) rfl rfl HF (fun _ _ _ h => h) (.inl ⟨by rfl, ?_⟩) (by first | assumption | rfl) ?_
    rotate_left
    · intro w hS; try subst hS
      go_simp; try with_reducible rfl
    try simp only [Act.put, List.setIfInBounds_toArray, List.set_cons_zero, List.set_cons_succ]
    refine AnyH.take (i := 3) (d := some 8) (v := undef) (by kernel_rfl) rfl rfl HF (fun _ _ _ h => h) (.inr ⟨by rfl, rfl⟩) (by first | assumption | rfl) ?_
    try simp only [Act.put, List.setIfInBounds_toArray, List.set_cons_zero, List.set_cons_succ]
    refine AnyH.take (i := 4) (d := some 9) (v := undef) (by kernel_rfl) rfl rfl HF (fun _ _ _ h => h) (.inr ⟨by rfl, rfl⟩) (by first | assumption | rfl) ?_
    try simp only [Act.put, List.setIfInBounds_toArray, List.set_cons_zero, List.set_cons_succ]
    refine AnyH.take (i := 5) (d := some 10) (v := undef) (by kernel_rfl) rfl rfl HF (fun _ _ _ h => h) (.inr ⟨by rfl, rfl⟩) (by first | assumption | rfl) ?_
    try simp only [Act.put, List.setIfInBounds_toArray, List.set_cons_zero, List.set_cons_succ]
    refine AnyH.take (i := 6) (d := some 11) (v := undef) (by kernel_rfl) rfl rfl HF (fun _ _ _ h => h) (.inr ⟨by rfl, rfl⟩) (by first | assumption | rfl) ?_
    try simp only [Act.put, List.setIfInBounds_toArray, List.set_cons_zero, List.set_cons_succ]
    refine AnyH.take (i := 7) (d := some 12) (v := undef) (by kernel_rfl) rfl rfl HF (fun _ _ _ h => h) (.inr ⟨by rfl, rfl⟩) (by first | assumption | rfl) ?_
    try simp only [Act.put, List.setIfInBounds_toArray, List.set_cons_zero, List.set_cons_succ]
    refine AnyH.take (i := 8) (d := some 13) (v := undef) (by kernel_rfl) rfl rfl HF (fun _ _ _ h => h) (.inr ⟨by rfl, rfl⟩) (by first | assumption | rfl) ?_
    try simp only [Act.put, List.setIfInBounds_toArray, List.set_cons_zero, List.set_cons_succ]
    refine AnyH.take (i := 9) (d := some 14) (v := undef) (by kernel_rfl) rfl rfl HF (fun _ _ _ h => h) (.inr ⟨by rfl, rfl⟩) (by first | assumption | rfl) ?_
    try simp only [Act.put, List.setIfInBounds_toArray, List.set_cons_zero, List.set_cons_succ]
    refine AnyH.take (i := 10) (d := some 15) (v := undef) (by kernel_rfl) rfl rfl HF (fun _ _ _ h => h) (.inr ⟨by rfl, rfl⟩) (by first | assumption | rfl) ?_
    try simp only [Act.put, List.setIfInBounds_toArray, List.set_cons_zero, List.set_cons_succ]
    refine AnyH.take (i := 11) (d := some 16) (v := undef) (by kernel_rfl) rfl rfl HF (fun _ _ _ h => h) (.inr ⟨by rfl, rfl⟩) (by first | assumption | rfl) ?_
    try simp only [Act.put, List.setIfInBounds_toArray, List.set_cons_zero, List.set_cons_succ]
    refine AnyH.take (i := 12) (d := some 17) (v := undef) (by kernel_rfl) rfl rfl HF (fun _ _ _ h => h) (.inr ⟨by rfl, rfl⟩) (by first | assumption | rfl) ?_
    try simp only [Act.put, List.setIfInBounds_toArray, List.set_cons_zero, List.set_cons_succ]
    refine AnyH.take (i := 13) (d := some 18) (v := undef) (by kernel_rfl) rfl rfl HF (fun _ _ _ h => h) (.inr ⟨by rfl, rfl⟩) (by first | assumption | rfl) ?_
    try simp only [Act.put, List.setIfInBounds_toArray, List.set_cons_zero, List.set_cons_succ]
    refine AnyH.take (i := 14) (d := some 19) (v := undef) (by kernel_rfl) rfl rfl HF (fun _ _ _ h => h) (.inr ⟨by rfl, rfl⟩) (by first | assumption | rfl) ?_
    try simp only [Act.put, List.setIfInBounds_toArray, List.set_cons_zero, List.set_cons_succ]
    refine AnyH.take (i := 15) (d := some 20) (v := undef) (by kernel_rfl) rfl rfl HF (fun _ _ _ h => h) (.inr ⟨by rfl, rfl⟩) (by first | assumption | rfl) ?_
    try simp only [Act.put, List.setIfInBounds_toArray, List.set_cons_zero, List.set_cons_succ]
    refine AnyH.take (i := 16) (d := some 21) (v := undef) (by kernel_rfl) rfl rfl HF (fun _ _ _ h => h) (.inr ⟨by rfl, rfl⟩) (by first | assumption | rfl) ?_
    try simp only [Act.put, List.setIfInBounds_toArray, List.set_cons_zero, List.set_cons_succ]
    refine AnyH.take (i := 17) (d := some 22) (v := undef) (by kernel_rfl) rfl rfl HF (fun _ _ _ h => h) (.inr ⟨by rfl, rfl⟩) (by first | assumption | rfl) ?_
    try simp only [Act.put, List.setIfInBounds_toArray, List.set_cons_zero, List.set_cons_succ]
    refine AnyH.take (i := 18) (d := some 23) (v := undef) (by kernel_rfl) rfl rfl HF (fun _ _ _ h => h) (.inr ⟨by rfl, rfl⟩) (by first | assumption | rfl) ?_
    try simp only [Act.put, List.setIfInBounds_toArray, List.set_cons_zero, List.set_cons_succ]
    refine AnyH.take (i := 19) (d := some 24) (v := undef) (by kernel_rfl) rfl rfl HF (fun _ _ _ h => h) (.inr ⟨by rfl, rfl⟩) (by first | assumption | rfl) ?_
    try simp only [Act.put, List.setIfInBounds_toArray, List.set_cons_zero, List.set_cons_succ]
    refine AnyH.take (i := 20) (d := some 25) (v := undef) (by kernel_rfl) rfl rfl HF (fun _ _ _ h => h) (.inr ⟨by rfl, rfl⟩) (by first | assumption | rfl) ?_
    try simp only [Act.put, List.setIfInBounds_toArray, List.set_cons_zero, List.set_cons_succ]
    refine AnyH.take (i := 21) (d := some 26) (v := undef) (by kernel_rfl) rfl rfl HF (fun _ _ _ h => h) (.inr ⟨by rfl, rfl⟩) (by first | assumption | rfl) ?_
    try simp only [Act.put, List.setIfInBounds_toArray, List.set_cons_zero, List.set_cons_succ]
    refine AnyH.take (i := 22) (d := some 27) (v := undef) (by kernel_rfl) rfl rfl HF (fun _ _ _ h => h) (.inr ⟨by rfl, rfl⟩) (by first | assumption | rfl) ?_
    try simp only [Act.put, List.setIfInBounds_toArray, List.set_cons_zero, List.set_cons_succ]
    refine AnyH.take (i := 23) (d := some 28) (v := undef) (by kernel_rfl) rfl rfl HF (fun _ _ _ h => h) (.inr ⟨by rfl, rfl⟩) (by first | assumption | rfl) ?_
    try simp only [Act.put, List.setIfInBounds_toArray, List.set_cons_zero, List.set_cons_succ]
    refine AnyH.take (i := 24) (d := some 29) (v := undef) (by kernel_rfl) rfl rfl HF (fun _ _ _ h => h) (.inr ⟨by rfl, rfl⟩) (by first | assumption | rfl) ?_
    try simp only [Act.put, List.setIfInBounds_toArray, List.set_cons_zero, List.set_cons_succ]
    refine AnyH.take (i := 25) (d := some 30) (v := undef) (by kernel_rfl) rfl rfl HF (fun _ _ _ h => h) (.inr ⟨by rfl, rfl⟩) (by first | assumption | rfl) ?_
    try simp only [Act.put, List.setIfInBounds_toArray, List.set_cons_zero, List.set_cons_succ]
    refine AnyH.take (i := 26) (d := some 31) (v := undef) (by kernel_rfl) rfl rfl HF (fun _ _ _ h => h) (.inr ⟨by rfl, rfl⟩) (by first | assumption | rfl) ?_
    try simp only [Act.put, List.setIfInBounds_toArray, List.set_cons_zero, List.set_cons_succ]
    refine AnyH.take (i := 27) (d := some 32) (v := undef) (by kernel_rfl) rfl rfl HF (fun _ _ _ h => h) (.inr ⟨by rfl, rfl⟩) (by first | assumption | rfl) ?_
    try simp only [Act.put, List.setIfInBounds_toArray, List.set_cons_zero, List.set_cons_succ]
    refine AnyH.take (i := 28) (d := some 33) (v := undef) (by kernel_rfl) rfl rfl HF (fun _ _ _ h => h) (.inr ⟨by rfl, rfl⟩) (by first | assumption | rfl) ?_
    try simp only [Act.put, List.setIfInBounds_toArray, List.set_cons_zero, List.set_cons_succ]
    refine AnyH.take (i := 29) (d := some 34) (v := ?_) (by kernel_rfl) rfl rfl HF (fun _ _ _ h => h) (.inl ⟨by rfl, ?_⟩) (by first | assumption | rfl) ?_
    rotate_left
    · intro w hS; try subst hS
      go_simp; try with_reducible rfl
    try simp only [Act.put, List.setIfInBounds_toArray, List.set_cons_zero, List.set_cons_succ]
    refine AnyH.take (i := 30) (d := some 4) (v := ?_) (by kernel_rfl) rfl rfl HF (fun _ _ _ h => h) (.inl ⟨by rfl, ?_⟩) (by first | assumption | rfl) ?_
    rotate_left
    · intro w hS; try subst hS
      go_simp; try with_reducible rfl
    try simp only [Act.put, List.setIfInBounds_toArray, List.set_cons_zero, List.set_cons_succ]
    refine AnyH.done (by kernel_rfl) ?_
    gi_wp2_with fail
    go_ret
    exact .inl ⟨rfl, by simpa [Tr.toList] using HJ.out, (KeepT.refl _ _).drew⟩
  | node tl k v tr ihl ihr =>
    intro n p pre W h hJ hN
    obtain ⟨b, pl, pr, rfl, hb, hl, hr⟩ := h
    have HC := Lib.hid (keep_cells hb)
    obtain ⟨c0, c1, c2, c3, -, -⟩ := node_cells hb
    have HR := Lib.hid hr
    simp only [Tr.toList, List.length_append, List.length_cons] at hN
    have H1 := Lib.hid (fun m => ihl m pl pre W.drew (hl.keep (KeepT.refl _ _).drew) (hJd _ _ hJ) (by omega))
    have H2 : Hid (∀ W1, J (pre ++ tl.toList) W1 → YieldAt Fence.wide (n - 1) Try.prog l #[Value.string k, Value.int .i64 v] W1 fun e W' => (e = .returned (.bool true) ∧ J (pre ++ tl.toList ++ [(k, v)]) W' ∧ KeepT 189 W1 W') ∨ (e = .returned (.bool false) ∧ Jx (pre ++ tl.toList ++ [(k, v)]) W')) :=
      Lib.hid fun W1 hJ1 => hY (n - 1) (pre ++ tl.toList) (k, v) W1 hJ1 (by simp; omega)
    have H3 : Hid (∀ m W2, KeepT 189 W W2 → J (pre ++ tl.toList ++ [(k, v)]) W2 → CallsIn Fence.wide m Try.prog 62 #[.pointer pr, .func (.yield l) #[] #[]] W2 (Itr J Jx (pre ++ tl.toList ++ [(k, v)]) tr.toList W2)) :=
      Lib.hid fun m W2 hk hJ2 => ihr m pr _ W2 (HR.out.keep hk) hJ2 (by simp; omega)
    clear ihl ihr hb hl hr hJ hY hN
    refine callsIn_of_wp Try.func62 rfl trivial ?_ rfl
    simp only [Try.ntmps62, List.size_toArray, List.length_cons, List.length_nil, Nat.reduceAdd, Nat.reduceSub, Array.replicate_succ, Array.replicate_zero, List.push_toArray, List.append_toArray, List.nil_append, List.cons_append]
    gi_wp2_with fail
    refine wpIn_region_anyH (fun w => w = W.drew) (by kernel_rfl) ?_
    refine AnyH.take (i := 0) (d := some 5) (v := ?_) (by kernel_rfl) rfl rfl HF (fun _ _ _ h => h) (.inl ⟨by rfl, ?_⟩) (by first | assumption | rfl) ?_
    rotate_left
    · intro w hS; try subst hS
      go_simp; try with_reducible rfl
    try simp only [Act.put, List.setIfInBounds_toArray, List.set_cons_zero, List.set_cons_succ]
    refine AnyH.take (i := 1) (d := some 6) (v := ?_) (by kernel_rfl) rfl rfl HF (fun _ _ _ h => h) (.inl ⟨by rfl, ?_⟩) (by first | assumption | rfl) ?_
    rotate_left
    · intro w hS; try subst hS
      go_simp; try with_reducible rfl
    try simp only [Act.put, List.setIfInBounds_toArray, List.set_cons_zero, List.set_cons_succ]
    refine AnyH.take (i := 2) (d := some 7) (v := ?_) (by kernel_rfl) rfl rfl HF (fun _ _ _ h => h) (.inl ⟨by rfl, ?_⟩) (by first | assumption | rfl) ?_
    rotate_left
    · intro w hS; try subst hS
      go_simp; try with_reducible rfl
    try simp only [Act.put, List.setIfInBounds_toArray, List.set_cons_zero, List.set_cons_succ]
    refine AnyH.take (i := 3) (d := some 8) (v := ?_) (by kernel_rfl) rfl rfl HF (fun _ _ _ h => h) (.inl ⟨by rfl, ?_⟩) (by first | assumption | rfl) ?_
    rotate_left
    · intro w hS; try subst hS
      go_simp; try with_reducible rfl
    try simp only [Act.put, List.setIfInBounds_toArray, List.set_cons_zero, List.set_cons_succ]
    refine AnyH.take (i := 4) (d := some 9) (v := ?_) (by kernel_rfl) rfl rfl HF (fun _ _ _ h => h) (.inl ⟨by rfl, ?_⟩) (by first | assumption | rfl) ?_
    rotate_left
    · intro w hS; try subst hS
      go_simp; try with_reducible rfl
    try simp only [Act.put, List.setIfInBounds_toArray, List.set_cons_zero, List.set_cons_succ]
    refine AnyH.take (i := 5) (d := some 10) (v := ?_) (by kernel_rfl) rfl rfl HF (fun _ _ _ h => h) (.inl ⟨by rfl, ?_⟩) (by first | assumption | rfl) ?_
    rotate_left
    · intro w hS; try subst hS
      go_simp; try with_reducible rfl
    try simp only [Act.put, List.setIfInBounds_toArray, List.set_cons_zero, List.set_cons_succ]
    refine AnyH.take (i := 6) (d := some 11) (v := ?_) (by kernel_rfl) rfl rfl HF (fun _ _ _ h => h) (.inl ⟨by rfl, ?_⟩) (by first | assumption | rfl) ?_
    rotate_left
    · intro w hS; try subst hS
      go_simp; try with_reducible rfl
    try simp only [Act.put, List.setIfInBounds_toArray, List.set_cons_zero, List.set_cons_succ]
    refine AnyH.take (i := 7) (d := some 12) (v := ?_) (by kernel_rfl) rfl rfl HF (fun _ _ _ h => h) (.inl ⟨by rfl, ?_⟩) (by first | assumption | rfl) ?_
    rotate_left
    · intro w hS; try subst hS
      go_simp; try with_reducible rfl
    try simp only [Act.put, List.setIfInBounds_toArray, List.set_cons_zero, List.set_cons_succ]
    refine AnyH.wall (i := 8) (by kernel_rfl) rfl HF (by rfl) (fun K hK => ?_)
    go_simp
    refine ⟨fun h => (by cases h), ?_⟩
    refine (H1.out (n - 1)).mono ?_
    rintro e W1 (⟨rfl, hJ1, hk1⟩ | ⟨rfl, q, hq, hx1⟩)
    · have k1 : KeepT 189 W W1 := (KeepT.refl _ _).drew.trans hk1
      obtain ⟨e0, e1, e2, e3⟩ := HC.out W1 k1
      obtain ⟨fn, tm, as_, bd, hy, hR⟩ := H2.out W1 hJ1
      have HR1 := Lib.hid hR; have K1 := Lib.hid k1
      clear hR hk1 hJ1 k1 c0 c1 c2 c3
      refine hK (fun w => w = W1) _ _ ?_
      clear hK K
      refine AnyH.take (i := 9) (d := some 14) (v := ?_) (by kernel_rfl) rfl rfl HF (fun _ _ _ h => h) (.inl ⟨by rfl, ?_⟩) (by first | assumption | rfl) ?_
      rotate_left
      · intro w hS; try subst hS
        go_simp; try with_reducible rfl
      try simp only [Act.put, List.setIfInBounds_toArray, List.set_cons_zero, List.set_cons_succ]
      refine AnyH.take (i := 10) (d := some 15) (v := ?_) (by kernel_rfl) rfl rfl HF (fun _ _ _ h => h) (.inl ⟨by rfl, ?_⟩) (by first | assumption | rfl) ?_
      rotate_left
      · intro w hS; try subst hS
        go_simp; try with_reducible rfl
      try simp only [Act.put, List.setIfInBounds_toArray, List.set_cons_zero, List.set_cons_succ]
      refine AnyH.take (i := 11) (d := some 16) (v := ?_) (by kernel_rfl) rfl rfl HF (fun _ _ _ h => h) (.inl ⟨by rfl, ?_⟩) (by first | assumption | rfl) ?_
      rotate_left
      · intro w hS; try subst hS
        go_simp; try with_reducible rfl
      try simp only [Act.put, List.setIfInBounds_toArray, List.set_cons_zero, List.set_cons_succ]
      refine AnyH.take (i := 12) (d := some 17) (v := ?_) (by kernel_rfl) rfl rfl HF (fun _ _ _ h => h) (.inl ⟨by rfl, ?_⟩) (by first | assumption | rfl) ?_
      rotate_left
      · intro w hS; try subst hS
        go_simp; try with_reducible rfl
      try simp only [Act.put, List.setIfInBounds_toArray, List.set_cons_zero, List.set_cons_succ]
      refine AnyH.take (i := 13) (d := some 18) (v := ?_) (by kernel_rfl) rfl rfl HF (fun _ _ _ h => h) (.inl ⟨by rfl, ?_⟩) (by first | assumption | rfl) ?_
      rotate_left
      · intro w hS; try subst hS
        go_simp; try with_reducible rfl
      try simp only [Act.put, List.setIfInBounds_toArray, List.set_cons_zero, List.set_cons_succ]
      refine AnyH.take (i := 14) (d := some 19) (v := ?_) (by kernel_rfl) rfl rfl HF (fun _ _ _ h => h) (.inl ⟨by rfl, ?_⟩) (by first | assumption | rfl) ?_
      rotate_left
      · intro w hS; try subst hS
        go_simp; try with_reducible rfl
      try simp only [Act.put, List.setIfInBounds_toArray, List.set_cons_zero, List.set_cons_succ]
      refine AnyH.take (i := 15) (d := some 20) (v := ?_) (by kernel_rfl) rfl rfl HF (fun _ _ _ h => h) (.inl ⟨by rfl, ?_⟩) (by first | assumption | rfl) ?_
      rotate_left
      · intro w hS; try subst hS
        go_simp; try with_reducible rfl
      try simp only [Act.put, List.setIfInBounds_toArray, List.set_cons_zero, List.set_cons_succ]
      refine AnyH.take (i := 16) (d := some 21) (v := ?_) (by kernel_rfl) rfl rfl HF (fun _ _ _ h => h) (.inl ⟨by rfl, ?_⟩) (by first | assumption | rfl) ?_
      rotate_left
      · intro w hS; try subst hS
        go_simp; try with_reducible rfl
      try simp only [Act.put, List.setIfInBounds_toArray, List.set_cons_zero, List.set_cons_succ]
      refine AnyH.take (i := 17) (d := some 22) (v := ?_) (by kernel_rfl) rfl rfl HF (fun _ _ _ h => h) (.inl ⟨by rfl, ?_⟩) (by first | assumption | rfl) ?_
      rotate_left
      · intro w hS; try subst hS
        go_simp; try with_reducible rfl
      try simp only [Act.put, List.setIfInBounds_toArray, List.set_cons_zero, List.set_cons_succ]
      refine AnyH.take (i := 18) (d := some 23) (v := ?_) (by kernel_rfl) rfl rfl HF (fun _ _ _ h => h) (.inl ⟨by rfl, ?_⟩) (by first | assumption | rfl) ?_
      rotate_left
      · intro w hS; try subst hS
        go_simp; try with_reducible rfl
      try simp only [Act.put, List.setIfInBounds_toArray, List.set_cons_zero, List.set_cons_succ]
      refine AnyH.wall (i := 19) (by kernel_rfl) rfl HF (by rfl) (fun K hK => ?_)
      go_simp
      refine ⟨fun h => (by cases h), ?_⟩
      refine HR1.out.mono ?_
      clear hy e0 e1 e2 e3
      rintro e W2 (⟨rfl, hJ2, hk2⟩ | ⟨rfl, hx2⟩)
      · have k2 : KeepT 189 W W2 := K1.out.trans hk2
        obtain ⟨e0, e1, e2, e3⟩ := HC.out W2 k2
        have H4 := Lib.hid (fun m => H3.out m W2 k2 hJ2); have K2 := Lib.hid k2
        clear hk2 hJ2 k2 H3
        refine hK (fun w => w = W2) _ _ ?_
        clear hK K
        refine AnyH.take (i := 20) (d := some 25) (v := ?_) (by kernel_rfl) rfl rfl HF (fun _ _ _ h => h) (.inl ⟨by rfl, ?_⟩) (by first | assumption | rfl) ?_
        rotate_left
        · intro w hS; try subst hS
          go_simp; try with_reducible rfl
        try simp only [Act.put, List.setIfInBounds_toArray, List.set_cons_zero, List.set_cons_succ]
        refine AnyH.take (i := 21) (d := some 26) (v := ?_) (by kernel_rfl) rfl rfl HF (fun _ _ _ h => h) (.inl ⟨by rfl, ?_⟩) (by first | assumption | rfl) ?_
        rotate_left
        · intro w hS; try subst hS
          go_simp; try with_reducible rfl
        try simp only [Act.put, List.setIfInBounds_toArray, List.set_cons_zero, List.set_cons_succ]
        refine AnyH.take (i := 22) (d := some 27) (v := ?_) (by kernel_rfl) rfl rfl HF (fun _ _ _ h => h) (.inl ⟨by rfl, ?_⟩) (by first | assumption | rfl) ?_
        rotate_left
        · intro w hS; try subst hS
          go_simp; try with_reducible rfl
        try simp only [Act.put, List.setIfInBounds_toArray, List.set_cons_zero, List.set_cons_succ]
        refine AnyH.take (i := 23) (d := some 28) (v := ?_) (by kernel_rfl) rfl rfl HF (fun _ _ _ h => h) (.inl ⟨by rfl, ?_⟩) (by first | assumption | rfl) ?_
        rotate_left
        · intro w hS; try subst hS
          go_simp; try with_reducible rfl
        try simp only [Act.put, List.setIfInBounds_toArray, List.set_cons_zero, List.set_cons_succ]
        refine AnyH.take (i := 24) (d := some 29) (v := ?_) (by kernel_rfl) rfl rfl HF (fun _ _ _ h => h) (.inl ⟨by rfl, ?_⟩) (by first | assumption | rfl) ?_
        rotate_left
        · intro w hS; try subst hS
          go_simp; try with_reducible rfl
        try simp only [Act.put, List.setIfInBounds_toArray, List.set_cons_zero, List.set_cons_succ]
        refine AnyH.take (i := 25) (d := some 30) (v := ?_) (by kernel_rfl) rfl rfl HF (fun _ _ _ h => h) (.inl ⟨by rfl, ?_⟩) (by first | assumption | rfl) ?_
        rotate_left
        · intro w hS; try subst hS
          go_simp; try with_reducible rfl
        try simp only [Act.put, List.setIfInBounds_toArray, List.set_cons_zero, List.set_cons_succ]
        refine AnyH.take (i := 26) (d := some 31) (v := ?_) (by kernel_rfl) rfl rfl HF (fun _ _ _ h => h) (.inl ⟨by rfl, ?_⟩) (by first | assumption | rfl) ?_
        rotate_left
        · intro w hS; try subst hS
          go_simp; try with_reducible rfl
        try simp only [Act.put, List.setIfInBounds_toArray, List.set_cons_zero, List.set_cons_succ]
        refine AnyH.wall (i := 27) (by kernel_rfl) rfl HF (by rfl) (fun K hK => ?_)
        go_simp
        refine ⟨fun h => (by cases h), ?_⟩
        refine (H4.out (n - 1)).mono ?_
        rintro e W3 (⟨rfl, hJ3, hk3⟩ | ⟨rfl, q, hq, hx3⟩)
        · have k3 : KeepT 189 W W3 := K2.out.trans hk3
          have HJ3 := Lib.hid hJ3; have K3 := Lib.hid k3
          clear hk3 hJ3 k3
          refine hK (fun w => w = W3) _ _ ?_
          clear hK K
          refine AnyH.take (i := 28) (d := some 33) (v := ?_) (by kernel_rfl) rfl rfl HF (fun _ _ _ h => h) (.inl ⟨by rfl, ?_⟩) (by first | assumption | rfl) ?_
          rotate_left
          · intro w hS; try subst hS
            go_simp; try with_reducible rfl
          try simp only [Act.put, List.setIfInBounds_toArray, List.set_cons_zero, List.set_cons_succ]
          refine AnyH.take (i := 29) (d := some 34) (v := ?_) (by kernel_rfl) rfl rfl HF (fun _ _ _ h => h) (.inl ⟨by rfl, ?_⟩) (by first | assumption | rfl) ?_
          rotate_left
          · intro w hS; try subst hS
            go_simp; try with_reducible rfl
          try simp only [Act.put, List.setIfInBounds_toArray, List.set_cons_zero, List.set_cons_succ]
          refine AnyH.take (i := 30) (d := some 4) (v := ?_) (by kernel_rfl) rfl rfl HF (fun _ _ _ h => h) (.inl ⟨by rfl, ?_⟩) (by first | assumption | rfl) ?_
          rotate_left
          · intro w hS; try subst hS
            go_simp; try with_reducible rfl
          try simp only [Act.put, List.setIfInBounds_toArray, List.set_cons_zero, List.set_cons_succ]
          refine AnyH.done (by kernel_rfl) ?_
          gi_wp2_with fail
          go_ret
          exact .inl ⟨rfl, by simpa [Tr.toList, List.append_assoc] using HJ3.out, K3.out⟩
        · have HX := Lib.hid hx3; have HQ := Lib.hid hq
          clear hx3 hq
          refine hK (fun w => w = W3) _ _ ?_
          clear hK K
          refine AnyH.take (i := 28) (d := some 33) (v := ?_) (by kernel_rfl) rfl rfl HF (fun _ _ _ h => h) (.inl ⟨by rfl, ?_⟩) (by first | assumption | rfl) ?_
          rotate_left
          · intro w hS; try subst hS
            go_simp; try with_reducible rfl
          try simp only [Act.put, List.setIfInBounds_toArray, List.set_cons_zero, List.set_cons_succ]
          refine AnyH.take (i := 29) (d := some 34) (v := ?_) (by kernel_rfl) rfl rfl HF (fun _ _ _ h => h) (.inl ⟨by rfl, ?_⟩) (by first | assumption | rfl) ?_
          rotate_left
          · intro w hS; try subst hS
            go_simp; try with_reducible rfl
          try simp only [Act.put, List.setIfInBounds_toArray, List.set_cons_zero, List.set_cons_succ]
          refine AnyH.take (i := 30) (d := some 4) (v := ?_) (by kernel_rfl) rfl rfl HF (fun _ _ _ h => h) (.inl ⟨by rfl, ?_⟩) (by first | assumption | rfl) ?_
          rotate_left
          · intro w hS; try subst hS
            go_simp; try with_reducible rfl
          try simp only [Act.put, List.setIfInBounds_toArray, List.set_cons_zero, List.set_cons_succ]
          refine AnyH.done (by kernel_rfl) ?_
          gi_wp2_with fail
          go_ret
          obtain ⟨r, hr'⟩ := HQ.out
          exact .inr ⟨rfl, tl.toList ++ (k, v) :: q, ⟨r, by simp [Tr.toList, ← hr']⟩, by simpa [List.append_assoc] using HX.out⟩
      · have HX := Lib.hid hx2
        clear hx2
        refine hK (fun w => w = W2) _ _ ?_
        clear hK K
        refine AnyH.take (i := 20) (d := some 25) (v := ?_) (by kernel_rfl) rfl rfl HF (fun _ _ _ h => h) (.inl ⟨by rfl, ?_⟩) (by first | assumption | rfl) ?_
        rotate_left
        · intro w hS; try subst hS
          go_simp; try with_reducible rfl
        try simp only [Act.put, List.setIfInBounds_toArray, List.set_cons_zero, List.set_cons_succ]
        refine AnyH.take (i := 21) (d := some 26) (v := ?_) (by kernel_rfl) rfl rfl HF (fun _ _ _ h => h) (.inl ⟨by rfl, ?_⟩) (by first | assumption | rfl) ?_
        rotate_left
        · intro w hS; try subst hS
          go_simp; try with_reducible rfl
        try simp only [Act.put, List.setIfInBounds_toArray, List.set_cons_zero, List.set_cons_succ]
        refine AnyH.take (i := 22) (d := some 27) (v := undef) (by kernel_rfl) rfl rfl HF (fun _ _ _ h => h) (.inr ⟨by rfl, rfl⟩) (by first | assumption | rfl) ?_
        try simp only [Act.put, List.setIfInBounds_toArray, List.set_cons_zero, List.set_cons_succ]
        refine AnyH.take (i := 23) (d := some 28) (v := undef) (by kernel_rfl) rfl rfl HF (fun _ _ _ h => h) (.inr ⟨by rfl, rfl⟩) (by first | assumption | rfl) ?_
        try simp only [Act.put, List.setIfInBounds_toArray, List.set_cons_zero, List.set_cons_succ]
        refine AnyH.take (i := 24) (d := some 29) (v := undef) (by kernel_rfl) rfl rfl HF (fun _ _ _ h => h) (.inr ⟨by rfl, rfl⟩) (by first | assumption | rfl) ?_
        try simp only [Act.put, List.setIfInBounds_toArray, List.set_cons_zero, List.set_cons_succ]
        refine AnyH.take (i := 25) (d := some 30) (v := undef) (by kernel_rfl) rfl rfl HF (fun _ _ _ h => h) (.inr ⟨by rfl, rfl⟩) (by first | assumption | rfl) ?_
        try simp only [Act.put, List.setIfInBounds_toArray, List.set_cons_zero, List.set_cons_succ]
        refine AnyH.take (i := 26) (d := some 31) (v := undef) (by kernel_rfl) rfl rfl HF (fun _ _ _ h => h) (.inr ⟨by rfl, rfl⟩) (by first | assumption | rfl) ?_
        try simp only [Act.put, List.setIfInBounds_toArray, List.set_cons_zero, List.set_cons_succ]
        refine AnyH.take (i := 27) (d := some 32) (v := undef) (by kernel_rfl) rfl rfl HF (fun _ _ _ h => h) (.inr ⟨by rfl, rfl⟩) (by first | assumption | rfl) ?_
        try simp only [Act.put, List.setIfInBounds_toArray, List.set_cons_zero, List.set_cons_succ]
        refine AnyH.take (i := 28) (d := some 33) (v := ?_) (by kernel_rfl) rfl rfl HF (fun _ _ _ h => h) (.inl ⟨by rfl, ?_⟩) (by first | assumption | rfl) ?_
        rotate_left
        · intro w hS; try subst hS
          go_simp; try with_reducible rfl
        try simp only [Act.put, List.setIfInBounds_toArray, List.set_cons_zero, List.set_cons_succ]
        refine AnyH.take (i := 29) (d := some 34) (v := ?_) (by kernel_rfl) rfl rfl HF (fun _ _ _ h => h) (.inl ⟨by rfl, ?_⟩) (by first | assumption | rfl) ?_
        rotate_left
        · intro w hS; try subst hS
          go_simp; try with_reducible rfl
        try simp only [Act.put, List.setIfInBounds_toArray, List.set_cons_zero, List.set_cons_succ]
        refine AnyH.take (i := 30) (d := some 4) (v := ?_) (by kernel_rfl) rfl rfl HF (fun _ _ _ h => h) (.inl ⟨by rfl, ?_⟩) (by first | assumption | rfl) ?_
        rotate_left
        · intro w hS; try subst hS
          go_simp; try with_reducible rfl
        try simp only [Act.put, List.setIfInBounds_toArray, List.set_cons_zero, List.set_cons_succ]
        refine AnyH.done (by kernel_rfl) ?_
        gi_wp2_with fail
        go_ret
        exact .inr ⟨rfl, tl.toList ++ [(k, v)], ⟨tr.toList, by simp [Tr.toList]⟩, by simpa [List.append_assoc] using HX.out⟩
    · have HX := Lib.hid hx1; have HQ := Lib.hid hq
      clear hx1 hq
      refine hK (fun w => w = W1) _ _ ?_
      clear hK K
      refine AnyH.take (i := 9) (d := some 14) (v := ?_) (by kernel_rfl) rfl rfl HF (fun _ _ _ h => h) (.inl ⟨by rfl, ?_⟩) (by first | assumption | rfl) ?_
      rotate_left
      · intro w hS; try subst hS
        go_simp; try with_reducible rfl
      try simp only [Act.put, List.setIfInBounds_toArray, List.set_cons_zero, List.set_cons_succ]
      refine AnyH.take (i := 10) (d := some 15) (v := undef) (by kernel_rfl) rfl rfl HF (fun _ _ _ h => h) (.inr ⟨by rfl, rfl⟩) (by first | assumption | rfl) ?_
      try simp only [Act.put, List.setIfInBounds_toArray, List.set_cons_zero, List.set_cons_succ]
      refine AnyH.take (i := 11) (d := some 16) (v := undef) (by kernel_rfl) rfl rfl HF (fun _ _ _ h => h) (.inr ⟨by rfl, rfl⟩) (by first | assumption | rfl) ?_
      try simp only [Act.put, List.setIfInBounds_toArray, List.set_cons_zero, List.set_cons_succ]
      refine AnyH.take (i := 12) (d := some 17) (v := undef) (by kernel_rfl) rfl rfl HF (fun _ _ _ h => h) (.inr ⟨by rfl, rfl⟩) (by first | assumption | rfl) ?_
      try simp only [Act.put, List.setIfInBounds_toArray, List.set_cons_zero, List.set_cons_succ]
      refine AnyH.take (i := 13) (d := some 18) (v := undef) (by kernel_rfl) rfl rfl HF (fun _ _ _ h => h) (.inr ⟨by rfl, rfl⟩) (by first | assumption | rfl) ?_
      try simp only [Act.put, List.setIfInBounds_toArray, List.set_cons_zero, List.set_cons_succ]
      refine AnyH.take (i := 14) (d := some 19) (v := undef) (by kernel_rfl) rfl rfl HF (fun _ _ _ h => h) (.inr ⟨by rfl, rfl⟩) (by first | assumption | rfl) ?_
      try simp only [Act.put, List.setIfInBounds_toArray, List.set_cons_zero, List.set_cons_succ]
      refine AnyH.take (i := 15) (d := some 20) (v := undef) (by kernel_rfl) rfl rfl HF (fun _ _ _ h => h) (.inr ⟨by rfl, rfl⟩) (by first | assumption | rfl) ?_
      try simp only [Act.put, List.setIfInBounds_toArray, List.set_cons_zero, List.set_cons_succ]
      refine AnyH.take (i := 16) (d := some 21) (v := undef) (by kernel_rfl) rfl rfl HF (fun _ _ _ h => h) (.inr ⟨by rfl, rfl⟩) (by first | assumption | rfl) ?_
      try simp only [Act.put, List.setIfInBounds_toArray, List.set_cons_zero, List.set_cons_succ]
      refine AnyH.take (i := 17) (d := some 22) (v := undef) (by kernel_rfl) rfl rfl HF (fun _ _ _ h => h) (.inr ⟨by rfl, rfl⟩) (by first | assumption | rfl) ?_
      try simp only [Act.put, List.setIfInBounds_toArray, List.set_cons_zero, List.set_cons_succ]
      refine AnyH.take (i := 18) (d := some 23) (v := undef) (by kernel_rfl) rfl rfl HF (fun _ _ _ h => h) (.inr ⟨by rfl, rfl⟩) (by first | assumption | rfl) ?_
      try simp only [Act.put, List.setIfInBounds_toArray, List.set_cons_zero, List.set_cons_succ]
      refine AnyH.take (i := 19) (d := some 24) (v := undef) (by kernel_rfl) rfl rfl HF (fun _ _ _ h => h) (.inr ⟨by rfl, rfl⟩) (by first | assumption | rfl) ?_
      try simp only [Act.put, List.setIfInBounds_toArray, List.set_cons_zero, List.set_cons_succ]
      refine AnyH.take (i := 20) (d := some 25) (v := ?_) (by kernel_rfl) rfl rfl HF (fun _ _ _ h => h) (.inl ⟨by rfl, ?_⟩) (by first | assumption | rfl) ?_
      rotate_left
      · intro w hS; try subst hS
        go_simp; try with_reducible rfl
      try simp only [Act.put, List.setIfInBounds_toArray, List.set_cons_zero, List.set_cons_succ]
      refine AnyH.take (i := 21) (d := some 26) (v := ?_) (by kernel_rfl) rfl rfl HF (fun _ _ _ h => h) (.inl ⟨by rfl, ?_⟩) (by first | assumption | rfl) ?_
      rotate_left
      · intro w hS; try subst hS
        go_simp; try with_reducible rfl
      try simp only [Act.put, List.setIfInBounds_toArray, List.set_cons_zero, List.set_cons_succ]
      refine AnyH.take (i := 22) (d := some 27) (v := undef) (by kernel_rfl) rfl rfl HF (fun _ _ _ h => h) (.inr ⟨by rfl, rfl⟩) (by first | assumption | rfl) ?_
      try simp only [Act.put, List.setIfInBounds_toArray, List.set_cons_zero, List.set_cons_succ]
      refine AnyH.take (i := 23) (d := some 28) (v := undef) (by kernel_rfl) rfl rfl HF (fun _ _ _ h => h) (.inr ⟨by rfl, rfl⟩) (by first | assumption | rfl) ?_
      try simp only [Act.put, List.setIfInBounds_toArray, List.set_cons_zero, List.set_cons_succ]
      refine AnyH.take (i := 24) (d := some 29) (v := undef) (by kernel_rfl) rfl rfl HF (fun _ _ _ h => h) (.inr ⟨by rfl, rfl⟩) (by first | assumption | rfl) ?_
      try simp only [Act.put, List.setIfInBounds_toArray, List.set_cons_zero, List.set_cons_succ]
      refine AnyH.take (i := 25) (d := some 30) (v := undef) (by kernel_rfl) rfl rfl HF (fun _ _ _ h => h) (.inr ⟨by rfl, rfl⟩) (by first | assumption | rfl) ?_
      try simp only [Act.put, List.setIfInBounds_toArray, List.set_cons_zero, List.set_cons_succ]
      refine AnyH.take (i := 26) (d := some 31) (v := undef) (by kernel_rfl) rfl rfl HF (fun _ _ _ h => h) (.inr ⟨by rfl, rfl⟩) (by first | assumption | rfl) ?_
      try simp only [Act.put, List.setIfInBounds_toArray, List.set_cons_zero, List.set_cons_succ]
      refine AnyH.take (i := 27) (d := some 32) (v := undef) (by kernel_rfl) rfl rfl HF (fun _ _ _ h => h) (.inr ⟨by rfl, rfl⟩) (by first | assumption | rfl) ?_
      try simp only [Act.put, List.setIfInBounds_toArray, List.set_cons_zero, List.set_cons_succ]
      refine AnyH.take (i := 28) (d := some 33) (v := ?_) (by kernel_rfl) rfl rfl HF (fun _ _ _ h => h) (.inl ⟨by rfl, ?_⟩) (by first | assumption | rfl) ?_
      rotate_left
      · intro w hS; try subst hS
        go_simp; try with_reducible rfl
      try simp only [Act.put, List.setIfInBounds_toArray, List.set_cons_zero, List.set_cons_succ]
      refine AnyH.take (i := 29) (d := some 34) (v := ?_) (by kernel_rfl) rfl rfl HF (fun _ _ _ h => h) (.inl ⟨by rfl, ?_⟩) (by first | assumption | rfl) ?_
      rotate_left
      · intro w hS; try subst hS
        go_simp; try with_reducible rfl
      try simp only [Act.put, List.setIfInBounds_toArray, List.set_cons_zero, List.set_cons_succ]
      refine AnyH.take (i := 30) (d := some 4) (v := ?_) (by kernel_rfl) rfl rfl HF (fun _ _ _ h => h) (.inl ⟨by rfl, ?_⟩) (by first | assumption | rfl) ?_
      rotate_left
      · intro w hS; try subst hS
        go_simp; try with_reducible rfl
      try simp only [Act.put, List.setIfInBounds_toArray, List.set_cons_zero, List.set_cons_succ]
      refine AnyH.done (by kernel_rfl) ?_
      gi_wp2_with fail
      go_ret
      exact .inr ⟨rfl, q, HQ.out.trans (by simp [Tr.toList]), HX.out⟩
end sd
end Go.Proofs.Ytlfodhejpbjfcaa
namespace Go.Proofs.Ytlfodhejpbjfcaa
open Go.RowKit Go.Shelf
namespace sd
attribute [local go_sem] Oper.semAt_some

theorem keep_putObj {W : World} {l : Nat} {o o' : Obj} (hl : W.heap[l]? = some o) (ho : o.isCells = false) : KeepT 189 W (W.putObj l o') := fun _ _ _ h => heap_putObj_cells h hl ho

theorem all_any {W : World} {p : Option Addr} : Calls Try.prog 41 #[.agg #[.pointer p]] W fun e w' => e = .returned (.func (.func 61) #[] #[.pointer (some ⟨W.heap.size, 0, none⟩)]) ∧ w' = W.alloc (.cells #[.pointer p] 110) := by
  have hmf : ∀ (fn : Fn) (first cap : Array Value) (w : World), (Instr.makeFunc fn first cap).run Try.prog w = .ok (.func fn first cap) w := fun _ _ _ _ => rfl
  go_enter Try.func41, Try.ntmps41
  go_wp2
  go_ret
  exact ⟨rfl, rfl⟩

set_option maxRecDepth 100000 in
theorem all_stops (n : Nat) (B : Nat) (p : Option Addr) (T : Tr ByteArray Int) (w : World) (hB : w.heap[B]? = some (.cells #[.pointer p] 110 (0, 0))) (hT : Is w p T) :
    SeqStopsK Fence.wide n Try.prog 61 #[.pointer (some ⟨B, 0, none⟩)] (fun x : ByteArray × Int => #[Value.string x.1, Value.int .i64 x.2]) (KeepT 189) (fun ys => ys = T.toList) (fun pre => pre <+: T.toList) T.toList.length w := by
  intro l J Jx W hW hJ _ hY h0
  have hc := box_cell (box_below hW hB)
  have hJd : ∀ pre W, J pre W → J pre W.drew := fun pre W hj => hJ pre W W.drew none hj ⟨rfl, rfl, rfl, Nat.le_refl _, fun _ _ _ => rfl⟩ (fun r e => by cases e)
  have hR : Rnd l J Jx T.toList.length := fun m pre x W1 hj hl => yield_anyDepth m (hY pre x W1 hj hl)
  have hp := each_in l T.toList.length J Jx hR hJd T (n - 1) p [] W (hT.below hW) h0 (by simp)
  have HP := Lib.hid hp
  clear hp hR hJd hY hJ h0
  refine callsIn_of_wp Try.func61 rfl trivial ?_ rfl
  simp only [Try.ntmps61, List.size_toArray, List.length_cons, List.length_nil, Nat.reduceAdd, Nat.reduceSub, Array.replicate_succ, Array.replicate_zero, List.push_toArray, List.append_toArray, List.nil_append, List.cons_append]
  gi_wp2_with fail
  refine ⟨trivial, (fun h => by cases h), ?_⟩
  refine HP.out.mono ?_
  rintro e W1 (⟨rfl, hJ1, -⟩ | ⟨rfl, q, hq, hx⟩)
  · have HJ := Lib.hid hJ1; clear hJ1
    gi_wp2_with fail
    go_end0
    exact ⟨⟨_, rfl⟩, .inl ⟨_, rfl, by simpa using HJ.out⟩⟩
  · have HX := Lib.hid hx; have HQ := Lib.hid hq; clear hx hq
    gi_wp2_with fail
    go_end0
    exact ⟨⟨_, rfl⟩, .inr ⟨q, HQ.out, by simpa using HX.out⟩⟩
end sd
end Go.Proofs.Ytlfodhejpbjfcaa
namespace Go.Proofs.Ytlfodhejpbjfcaa
open Go.RowKit Go.Shelf
namespace S
attribute [local go_sem] Oper.semAt_some

/-- What the loop keeps. -/
def LI (n0 : Nat) (w : World) (D : Nat) (xs : List (ByteArray × Int)) (W : World) : Prop :=
  (∃ v, W.heap[D]? = some (.cells #[v] 22 (0, 0)) ∧ Prs n0 W v xs) ∧ Below n0 w W
theorem LI_own {n0 : Nat} {w : World} {D B : Nat} {xs : List (ByteArray × Int)} {A C : World} {row : Option Nat} (h : LI n0 w D xs A) (hg : A.grownBy C row) (hr : CalmRow B A row) (hn : n0 ≤ w.heap.size) (hB : n0 ≤ B) : LI n0 w D xs C := by
  obtain ⟨⟨v, hv, hS⟩, hb⟩ := h
  exact ⟨⟨v, own_cells hg hr hv, own_SlA hg hr hS⟩, own_below hg hr hn hB hb⟩
theorem encP_one (x : ByteArray × Int) : ∀ u ∈ encP x, u.oneCell' = true := by
  intro u hu
  simp only [encP, List.mem_cons, List.not_mem_nil, or_false] at hu
  rcases hu with rfl | rfl <;> rfl

set_option maxRecDepth 100000 in
set_option maxHeartbeats 4000000 in
theorem List_any {W : World} {X : Bx} (hX : BxAt W X) (hn : X.T.toList.length ≤ 1000000) :
    Calls Try.prog 14 #[.pointer (some ⟨X.b, 0, none⟩)] W fun e w' => ∃ v, e = .returned v ∧ Prs W.heap.size w' v X.T.toList ∧ Below W.heap.size W w' := by
  have HF : ∀ f, Fence.wide.fn f := fun _ => trivial
  obtain ⟨b, m, N, q, T, last⟩ := X
  obtain ⟨h1, h2, h3⟩ := hX
  dsimp only at *
  obtain ⟨W1, hW1⟩ : ∃ w, W.alloc (.cells #[.slice none 0 0] 22) = w := ⟨_, rfl⟩
  have hb1 : Below W.heap.size W W1 := by rw [← hW1]; exact (Below.refl _ W).alloc (Nat.le_refl _) _
  have n1 : W1.heap[W.heap.size]? = some (.cells #[.slice none 0 0] 22 (0, 0)) := by rw [← hW1]; exact heap_new _ _
  have hBX : BoxC W1 b 0 N q m := box_below hb1 h1
  have HB1 := Lib.hid hb1; have HN1 := Lib.hid n1; have HX := Lib.hid hBX; have HT := Lib.hid (h2.below hb1); have HL := Lib.hid hn
  have hfl : ∀ (n : Value) (q : Value) (w : World), (Instr.field 112 (.agg #[n, q]) 1).run Try.prog w = .ok (.agg #[q]) w := fun _ _ _ => by kernel_rfl
  clear h1 h2 h3 hb1 n1 hBX hn
  refine (callsIn_wide (n := 9)).1 ?_
  refine callsIn_of_wp_marks Try.func14 rfl trivial ?_ rfl
  simp only [Try.ntmps14, List.size_toArray, List.length_cons, List.length_nil, Nat.reduceAdd, Nat.reduceSub, Array.replicate_succ, Array.replicate_zero, List.push_toArray, List.append_toArray, List.nil_append, List.cons_append]
  gi_wp2_with fail
  refine callsIn_wide.2 ((committed_any HX.out).mono ?_)
  rintro e w2 ⟨rfl, b2⟩
  have HB2 := Lib.hid (Below.step HB1.out b2); have HN2 := Lib.hid (box_below b2 HN1.out); have HT2 := Lib.hid (HT.out.below b2)
  clear b2 hW1
  gi_wp2_with fail
  refine callsIn_wide.2 (sd.all_any.mono ?_)
  rintro e w4 ⟨rfl, rfl⟩
  gi_wp2_with fail
  clear hfl
  obtain ⟨W0, hW0⟩ : ∃ W0, (w2.alloc (.cells #[.pointer q] 110)) = W0 := ⟨_, rfl⟩
  have hbA : Below w2.heap.size w2 W0 := by rw [← hW0]; exact (Below.refl _ w2).alloc (Nat.le_refl _) _
  have hB : W0.heap[w2.heap.size]? = some (.cells #[.pointer q] 110 (0, 0)) := by rw [← hW0]; exact heap_new _ _
  have hD : W0.heap[W.heap.size]? = some (.cells #[.slice none 0 0] 22 (0, 0)) := box_below hbA HN2.out
  have hB0 : Below W.heap.size W W0 := Below.step HB2.out hbA
  have hT0 : sd.Is W0 q T := HT2.out.below hbA
  rw [hW0]
  clear HT2 HB2 HN2 HX HT HB1 HN1 hbA
  refine wpIn_rangeFunc_ownF rfl (by omega) (gf := 61) (lb := #[.pointer (some ⟨w2.heap.size, 0, none⟩)]) rfl trivial (enters_of Try.func61 (by kernel_rfl) rfl)
    (sd.all_stops 8 w2.heap.size q T W0 hB hT0) KeepT.trans (fun W l o o' _ hl ho _ => sd.keep_putObj hl ho) (Below.refl _ _) (fun _ => rfl)
    (fun pre Y => LI W.heap.size W W.heap.size pre Y) (fun _ _ _ => False)
    (fun s A C row hs hg hr => LI_own hs hg hr (Nat.le_refl _) hB0.size) (fun _ _ _ _ _ h _ _ => h.elim)
    ⟨⟨_, hD, SlA.nil _ _ _ _ _⟩, hB0⟩
    (fun x => { tmps := #[.pointer (some ⟨b, 0, none⟩), undef, .slice none 0 0, .pointer (some ⟨W.heap.size, 0, none⟩), .string x.1, .int .i64 x.2, .pointer (some ⟨b, 0, none⟩), .bool false, .pointer (some ⟨b, 0, none⟩), .agg #[.int .i64 N, .pointer q], .agg #[.pointer q], .func (.func 61) #[] #[.pointer (some ⟨w2.heap.size, 0, none⟩)], .string x.1, .int .i64 x.2, undef, undef, undef, undef, undef, undef, undef], defers := [] }) ?assign ?body ?done ?stop
  case assign =>
    intro l x W K hK
    gi_wp2_with fail
    exact hK
  case body =>
    rintro l pre x Y ⟨⟨v, hv, hS⟩, hb⟩ hlen
    have hc := box_cell hv
    have HL1 := HL.out
    clear hW0 hB hD hB0 hT0
    gi_wp2_with (
      gi_at_builtin
      refine wp_app1In (l := pre) (w0 := Y) elemP encP_len rfl _ _ rfl rfl hS x rfl rfl (encP_one x) (by omega) hb.size ?_
      intro v' Y' hS' hg hb'
      replace hg : (Y.alloc (.cells #[.string x.1, .int .i64 x.2] 49)).grownBy Y' v.ownBlock := hg
      have hv' := app_other hS hg hv (by decide)
      have hkt : KeepT 189 Y Y' := fun _ _ _ h => app_other hS hg h (by decide)
      have hko : KeepsOthers Y Y' := app_keepsOthers hS hg
      obtain ⟨a0, cp, rfl⟩ := hS'.len
      have hc' := box_cell hv'
      have hf' := box_frozen hv'
      clear hc)
    refine ⟨keepsOthers_setCell hko _ _, hkt.trans (KeepT.setCell (a := ⟨W.heap.size, 0, none⟩) hv' (by decide)), ⟨⟨_, box_set _ hv', ?_⟩, ?_⟩⟩
    · have hS2 := hS'.setCell (a := ⟨W.heap.size, 0, none⟩) (.slice a0 (pre ++ [x]).length cp) hv' (by decide)
      simpa using hS2
    · exact (hb.trans hb').setCell (p := ⟨W.heap.size, 0, none⟩) (Nat.le_refl _) _
  case done =>
    rintro D xs Y hD' rfl ⟨⟨v, hv, hS⟩, hb⟩ hK
    have hc := box_cell hv
    have hs0 := hB0.size
    clear hW0 hB hD hB0 hT0
    gi_wp2_with fail
    refine ⟨by simp, .inl ⟨_, _, rfl, run_takeDeferred hK, ?_⟩⟩
    have hr : CalmRow W.heap.size Y (some D) := fun r e => by cases e; exact ⟨by omega, _, hK, rfl⟩
    refine ⟨v, ?_, v, rfl, own_SlA (grownBy_putObj' _ _ _) hr hS, own_below (grownBy_putObj' _ _ _) hr (Nat.le_refl _) (Nat.le_refl _) hb⟩
    simp [results, Try.f14, go_sem]
  case stop =>
    rintro D c pre W _ _ hF _
    exact hF.elim
end S
end Go.Proofs.Ytlfodhejpbjfcaa
