/- The iterators each and after, at each instance: whatever a round does. -/
import Derived.RangeFuncKeeps
import Derived.RangeFuncBound
import Derived.RangeFuncLeaves
import Derived.Shelf.Abstract
import Derived.WalkKit
import Derived.OwnWalkIn
import Derived.TacticsInMore
import Derived.Test.YtlfodhejpbjfcaaOrdHeld
import Derived.Test.YtlfodhejpbjfcaaMethsd
import Derived.Test.YtlfodhejpbjfcaaRounds
namespace Go.Proofs.Ytlfodhejpbjfcaa
open Go.RowKit Go.Shelf
namespace sd
attribute [local go_sem] Oper.semAt_some

/-- What each round of a loop over the entries promises. -/
def Rnd (l : Nat) (J Jx : List (ByteArray × Int) → World → Prop) (N : Nat) : Prop :=
  ∀ (m : Nat) (pre : List (ByteArray × Int)) (x : ByteArray × Int) (W : World), J pre W → pre.length < N → YieldAt Fence.wide m Try.prog l #[Value.string x.1, Value.int .i64 x.2] W fun e W' =>
    (e = .returned (.bool true) ∧ J (pre ++ [x]) W' ∧ KeepT 189 W W') ∨ (e = .returned (.bool false) ∧ Jx (pre ++ [x]) W')
/-- What an iterator over xs leaves. -/
def Itr (J Jx : List (ByteArray × Int) → World → Prop) (pre xs : List (ByteArray × Int)) (W : World) (e : Ending) (W' : World) : Prop :=
  (e = .returned (.bool true) ∧ J (pre ++ xs) W' ∧ KeepT 189 W W') ∨ (e = .returned (.bool false) ∧ ∃ q, q <+: xs ∧ Jx (pre ++ q) W')

theorem keep_cells {W : World} {b : Nat} {k v l r h c : Value} (hb : W.heap[b]? = some (.cells #[k, v, l, r, h, c] 189 (0, 0))) (w : World) (hk : KeepT 189 W w) :
    w.cell? ⟨b, 0, none⟩ = some k ∧ w.cell? ⟨b, 1, none⟩ = some v ∧ w.cell? ⟨b, 2, none⟩ = some l ∧ w.cell? ⟨b, 3, none⟩ = some r := by
  obtain ⟨h0, h1, h2, h3, -, -⟩ := node_cells (hk _ _ _ hb)
  exact ⟨h0, h1, h2, h3⟩

set_option maxRecDepth 100000 in
set_option maxHeartbeats 4000000 in
theorem each_in (l N : Nat) (J Jx : List (ByteArray × Int) → World → Prop) (hY : Rnd l J Jx N) (hJd : ∀ pre W, J pre W → J pre W.drew) : ∀ (T : Tr ByteArray Int) (n : Nat) (p : Option Addr) (pre : List (ByteArray × Int)) (W : World), Is W p T → J pre W → pre.length + T.toList.length ≤ N →
    CallsIn Fence.wide n Try.prog 62 #[.pointer p, .func (.yield l) #[] #[]] W (Itr J Jx pre T.toList W) := by
  intro T
  have HF : ∀ f, Fence.wide.fn f := fun _ => trivial
  induction T with
  | nil =>
    intro n p pre W h hJ _
    obtain rfl : p = none := h
    have HJ := Lib.hid (hJd _ _ hJ)
    clear hJ
    refine callsIn_of_wp Try.func62 rfl trivial ?_ rfl
    simp only [Try.ntmps62, List.size_toArray, List.length_cons, List.length_nil, Nat.reduceAdd, Nat.reduceSub, Array.replicate_succ, Array.replicate_zero, List.push_toArray, List.append_toArray, List.nil_append, List.cons_append]
    gi_wp2_with fail
    refine wpIn_region_anyH (fun w => w = W.drew) (by kernel_rfl) ?_
    refine AnyH.take (i := 0) (d := some 5) (v := ?_) (by kernel_rfl) rfl rfl HF (fun _ _ _ h => h) (.inl ⟨by rfl, ?_⟩) (by first | assumption | rfl) ?_
    rotate_left
    · intro w hS; try subst hS
      go_simp; try with_reducible rfl
    try simp only [Act.put, List.setIfInBounds_toArray, List.set_cons_zero, List.set_cons_succ]
    refine AnyH.take (i := 1) (d := some 6) (v := ?_) (by kernel_rfl) rfl rfl HF (fun _ _ _ h => h) (.inl ⟨by rfl, ?_⟩) (by first | assumption | rfl) ?_
    rotate_left
    · intro w hS; try subst hS
      go_simp; try with_reducible rfl
    try simp only [Act.put, List.setIfInBounds_toArray, List.set_cons_zero, List.set_cons_succ]
    refine AnyH.take (i := 2) (d := some 7) (v := ?_) (by kernel_rfl) rfl rfl HF (fun _ _ _ h => h) (.inl ⟨by rfl, ?_⟩) (by first | assumption | rfl) ?_
    rotate_left
    · intro w hS; try subst hS
      go_simp; try with_reducible rfl
    try simp only [Act.put, List.setIfInBounds_toArray, List.set_cons_zero, List.set_cons_succ]
    refine AnyH.take (i := 3) (d := some 8) (v := undef) (by kernel_rfl) rfl rfl HF (fun _ _ _ h => h) (.inr ⟨by rfl, rfl⟩) (by first | assumption | rfl) ?_
    try simp only [Act.put, List.setIfInBounds_toArray, List.set_cons_zero, List.set_cons_succ]
    refine AnyH.take (i := 4) (d := some 9) (v := undef) (by kernel_rfl) rfl rfl HF (fun _ _ _ h => h) (.inr ⟨by rfl, rfl⟩) (by first | assumption | rfl) ?_
    try simp only [Act.put, List.setIfInBounds_toArray, List.set_cons_zero, List.set_cons_succ]
    refine AnyH.take (i := 5) (d := some 10) (v := undef) (by kernel_rfl) rfl rfl HF (fun _ _ _ h => h) (.inr ⟨by rfl, rfl⟩) (by first | assumption | rfl) ?_
    try simp only [Act.put, List.setIfInBounds_toArray, List.set_cons_zero, List.set_cons_succ]
    refine AnyH.take (i := 6) (d := some 11) (v := undef) (by kernel_rfl) rfl rfl HF (fun _ _ _ h => h) (.inr ⟨by rfl, rfl⟩) (by first | assumption | rfl) ?_
    try simp only [Act.put, List.setIfInBounds_toArray, List.set_cons_zero, List.set_cons_succ]
    refine AnyH.take (i := 7) (d := some 12) (v := undef) (by kernel_rfl) rfl rfl HF (fun _ _ _ h => h) (.inr ⟨by rfl, rfl⟩) (by first | assumption | rfl) ?_
    try simp only [Act.put, List.setIfInBounds_toArray, List.set_cons_zero, List.set_cons_succ]
    refine AnyH.take (i := 8) (d := some 13) (v := undef) (by kernel_rfl) rfl rfl HF (fun _ _ _ h => h) (.inr ⟨by rfl, rfl⟩) (by first | assumption | rfl) ?_
    try simp only [Act.put, List.setIfInBounds_toArray, List.set_cons_zero, List.set_cons_succ]
    refine AnyH.take (i := 9) (d := some 14) (v := undef) (by kernel_rfl) rfl rfl HF (fun _ _ _ h => h) (.inr ⟨by rfl, rfl⟩) (by first | assumption | rfl) ?_
    try simp only [Act.put, List.setIfInBounds_toArray, List.set_cons_zero, List.set_cons_succ]
    refine AnyH.take (i := 10) (d := some 15) (v := undef) (by kernel_rfl) rfl rfl HF (fun _ _ _ h => h) (.inr ⟨by rfl, rfl⟩) (by first | assumption | rfl) ?_
    try simp only [Act.put, List.setIfInBounds_toArray, List.set_cons_zero, List.set_cons_succ]
    refine AnyH.take (i := 11) (d := some 16) (v := undef) (by kernel_rfl) rfl rfl HF (fun _ _ _ h => h) (.inr ⟨by rfl, rfl⟩) (by first | assumption | rfl) ?_
    try simp only [Act.put, List.setIfInBounds_toArray, List.set_cons_zero, List.set_cons_succ]
    refine AnyH.take (i := 12) (d := some 17) (v := undef) (by kernel_rfl) rfl rfl HF (fun _ _ _ h => h) (.inr ⟨by rfl, rfl⟩) (by first | assumption | rfl) ?_
    try simp only [Act.put, List.setIfInBounds_toArray, List.set_cons_zero, List.set_cons_succ]
    refine AnyH.take (i := 13) (d := some 18) (v := undef) (by kernel_rfl) rfl rfl HF (fun _ _ _ h => h) (.inr ⟨by rfl, rfl⟩) (by first | assumption | rfl) ?_
    try simp only [Act.put, List.setIfInBounds_toArray, List.set_cons_zero, List.set_cons_succ]
    refine AnyH.take (i := 14) (d := some 19) (v := undef) (by kernel_rfl) rfl rfl HF (fun _ _ _ h => h) (.inr ⟨by rfl, rfl⟩) (by first | assumption | rfl) ?_
    try simp only [Act.put, List.setIfInBounds_toArray, List.set_cons_zero, List.set_cons_succ]
    refine AnyH.take (i := 15) (d := some 20) (v := undef) (by kernel_rfl) rfl rfl HF (fun _ _ _ h => h) (.inr ⟨by rfl, rfl⟩) (by first | assumption | rfl) ?_
    try simp only [Act.put, List.setIfInBounds_toArray, List.set_cons_zero, List.set_cons_succ]
    refine AnyH.take (i := 16) (d := some 21) (v := undef) (by kernel_rfl) rfl rfl HF (fun _ _ _ h => h) (.inr ⟨by rfl, rfl⟩) (by first | assumption | rfl) ?_
    try simp only [Act.put, List.setIfInBounds_toArray, List.set_cons_zero, List.set_cons_succ]
    refine AnyH.take (i := 17) (d := some 22) (v := undef) (by kernel_rfl) rfl rfl HF (fun _ _ _ h => h) (.inr ⟨by rfl, rfl⟩) (by first | assumption | rfl) ?_
    try simp only [Act.put, List.setIfInBounds_toArray, List.set_cons_zero, List.set_cons_succ]
    refine AnyH.take (i := 18) (d := some 23) (v := undef) (by kernel_rfl) rfl rfl HF (fun _ _ _ h => h) (.inr ⟨by rfl, rfl⟩) (by first | assumption | rfl) ?_
    try simp only [Act.put, List.setIfInBounds_toArray, List.set_cons_zero, List.set_cons_succ]
    refine AnyH.take (i := 19) (d := some 24) (v := undef) (by kernel_rfl) rfl rfl HF (fun _ _ _ h => h) (.inr ⟨by rfl, rfl⟩) (by first | assumption | rfl) ?_
    try simp only [Act.put, List.setIfInBounds_toArray, List.set_cons_zero, List.set_cons_succ]
    refine AnyH.take (i := 20) (d := some 25) (v := undef) (by kernel_rfl) rfl rfl HF (fun _ _ _ h => h) (.inr ⟨by rfl, rfl⟩) (by first | assumption | rfl) ?_
    try simp only [Act.put, List.setIfInBounds_toArray, List.set_cons_zero, List.set_cons_succ]
    refine AnyH.take (i := 21) (d := some 26) (v := undef) (by kernel_rfl) rfl rfl HF (fun _ _ _ h => h) (.inr ⟨by rfl, rfl⟩) (by first | assumption | rfl) ?_
    try simp only [Act.put, List.setIfInBounds_toArray, List.set_cons_zero, List.set_cons_succ]
    refine AnyH.take (i := 22) (d := some 27) (v := undef) (by kernel_rfl) rfl rfl HF (fun _ _ _ h => h) (.inr ⟨by rfl, rfl⟩) (by first | assumption | rfl) ?_
    try simp only [Act.put, List.setIfInBounds_toArray, List.set_cons_zero, List.set_cons_succ]
    refine AnyH.take (i := 23) (d := some 28) (v := undef) (by kernel_rfl) rfl rfl HF (fun _ _ _ h => h) (.inr ⟨by rfl, rfl⟩) (by first | assumption | rfl) ?_
    try simp only [Act.put, List.setIfInBounds_toArray, List.set_cons_zero, List.set_cons_succ]
    refine AnyH.take (i := 24) (d := some 29) (v := undef) (by kernel_rfl) rfl rfl HF (fun _ _ _ h => h) (.inr ⟨by rfl, rfl⟩) (by first | assumption | rfl) ?_
    try simp only [Act.put, List.setIfInBounds_toArray, List.set_cons_zero, List.set_cons_succ]
    refine AnyH.take (i := 25) (d := some 30) (v := undef) (by kernel_rfl) rfl rfl HF (fun _ _ _ h => h) (.inr ⟨by rfl, rfl⟩) (by first | assumption | rfl) ?_
    try simp only [Act.put, List.setIfInBounds_toArray, List.set_cons_zero, List.set_cons_succ]
    refine AnyH.take (i := 26) (d := some 31) (v := undef) (by kernel_rfl) rfl rfl HF (fun _ _ _ h => h) (.inr ⟨by rfl, rfl⟩) (by first | assumption | rfl) ?_
    try simp only [Act.put, List.setIfInBounds_toArray, List.set_cons_zero, List.set_cons_succ]
    refine AnyH.take (i := 27) (d := some 32) (v := undef) (by kernel_rfl) rfl rfl HF (fun _ _ _ h => h) (.inr ⟨by rfl, rfl⟩) (by first | assumption | rfl) ?_
    try simp only [Act.put, List.setIfInBounds_toArray, List.set_cons_zero, List.set_cons_succ]
    refine AnyH.take (i := 28) (d := some 33) (v := undef) (by kernel_rfl) rfl rfl HF (fun _ _ _ h => h) (.inr ⟨by rfl, rfl⟩) (by first | assumption | rfl) ?_
    try simp only [Act.put, List.setIfInBounds_toArray, List.set_cons_zero, List.set_cons_succ]
    refine AnyH.take (i := 29) (d := some 34) (v := ?_) (by kernel_rfl) rfl rfl HF (fun _ _ _ h => h) (.inl ⟨by rfl, ?_⟩) (by first | assumption | rfl) ?_
    rotate_left
    · intro w hS; try subst hS
      go_simp; try with_reducible rfl
    try simp only [Act.put, List.setIfInBounds_toArray, List.set_cons_zero, List.set_cons_succ]
    refine AnyH.take (i := 30) (d := some 4) (v := ?_) (by kernel_rfl) rfl rfl HF (fun _ _ _ h => h) (.inl ⟨by rfl, ?_⟩) (by first | assumption | rfl) ?_
    rotate_left
    · intro w hS; try subst hS
      go_simp; try with_reducible rfl
    try simp only [Act.put, List.setIfInBounds_toArray, List.set_cons_zero, List.set_cons_succ]
    refine AnyH.done (by kernel_rfl) ?_
    gi_wp2_with fail
    go_ret
    exact .inl ⟨rfl, by simpa [Tr.toList] using HJ.out, (KeepT.refl _ _).drew⟩
  | node tl k v tr ihl ihr =>
    intro n p pre W h hJ hN
    obtain ⟨b, pl, pr, rfl, hb, hl, hr⟩ := h
    have HC := Lib.hid (keep_cells hb)
    obtain ⟨c0, c1, c2, c3, -, -⟩ := node_cells hb
    have HR := Lib.hid hr
    simp only [Tr.toList, List.length_append, List.length_cons] at hN
    have H1 := Lib.hid (fun m => ihl m pl pre W.drew (hl.keep (KeepT.refl _ _).drew) (hJd _ _ hJ) (by omega))
    have H2 : Hid (∀ W1, J (pre ++ tl.toList) W1 → YieldAt Fence.wide (n - 1) Try.prog l #[Value.string k, Value.int .i64 v] W1 fun e W' => (e = .returned (.bool true) ∧ J (pre ++ tl.toList ++ [(k, v)]) W' ∧ KeepT 189 W1 W') ∨ (e = .returned (.bool false) ∧ Jx (pre ++ tl.toList ++ [(k, v)]) W')) :=
      Lib.hid fun W1 hJ1 => hY (n - 1) (pre ++ tl.toList) (k, v) W1 hJ1 (by simp; omega)
    have H3 : Hid (∀ m W2, KeepT 189 W W2 → J (pre ++ tl.toList ++ [(k, v)]) W2 → CallsIn Fence.wide m Try.prog 62 #[.pointer pr, .func (.yield l) #[] #[]] W2 (Itr J Jx (pre ++ tl.toList ++ [(k, v)]) tr.toList W2)) :=
      Lib.hid fun m W2 hk hJ2 => ihr m pr _ W2 (HR.out.keep hk) hJ2 (by simp; omega)
    clear ihl ihr hb hl hr hJ hY hN
    refine callsIn_of_wp Try.func62 rfl trivial ?_ rfl
    simp only [Try.ntmps62, List.size_toArray, List.length_cons, List.length_nil, Nat.reduceAdd, Nat.reduceSub, Array.replicate_succ, Array.replicate_zero, List.push_toArray, List.append_toArray, List.nil_append, List.cons_append]
    gi_wp2_with fail
    refine wpIn_region_anyH (fun w => w = W.drew) (by kernel_rfl) ?_
    refine AnyH.take (i := 0) (d := some 5) (v := ?_) (by kernel_rfl) rfl rfl HF (fun _ _ _ h => h) (.inl ⟨by rfl, ?_⟩) (by first | assumption | rfl) ?_
    rotate_left
    · intro w hS; try subst hS
      go_simp; try with_reducible rfl
    try simp only [Act.put, List.setIfInBounds_toArray, List.set_cons_zero, List.set_cons_succ]
    refine AnyH.take (i := 1) (d := some 6) (v := ?_) (by kernel_rfl) rfl rfl HF (fun _ _ _ h => h) (.inl ⟨by rfl, ?_⟩) (by first | assumption | rfl) ?_
    rotate_left
    · intro w hS; try subst hS
      go_simp; try with_reducible rfl
    try simp only [Act.put, List.setIfInBounds_toArray, List.set_cons_zero, List.set_cons_succ]
    refine AnyH.take (i := 2) (d := some 7) (v := ?_) (by kernel_rfl) rfl rfl HF (fun _ _ _ h => h) (.inl ⟨by rfl, ?_⟩) (by first | assumption | rfl) ?_
    rotate_left
    · intro w hS; try subst hS
      go_simp; try with_reducible rfl
    try simp only [Act.put, List.setIfInBounds_toArray, List.set_cons_zero, List.set_cons_succ]
    refine AnyH.take (i := 3) (d := some 8) (v := ?_) (by kernel_rfl) rfl rfl HF (fun _ _ _ h => h) (.inl ⟨by rfl, ?_⟩) (by first | assumption | rfl) ?_
    rotate_left
    · intro w hS; try subst hS
      go_simp; try with_reducible rfl
    try simp only [Act.put, List.setIfInBounds_toArray, List.set_cons_zero, List.set_cons_succ]
    refine AnyH.take (i := 4) (d := some 9) (v := ?_) (by kernel_rfl) rfl rfl HF (fun _ _ _ h => h) (.inl ⟨by rfl, ?_⟩) (by first | assumption | rfl) ?_
    rotate_left
    · intro w hS; try subst hS
      go_simp; try with_reducible rfl
    try simp only [Act.put, List.setIfInBounds_toArray, List.set_cons_zero, List.set_cons_succ]
    refine AnyH.take (i := 5) (d := some 10) (v := ?_) (by kernel_rfl) rfl rfl HF (fun _ _ _ h => h) (.inl ⟨by rfl, ?_⟩) (by first | assumption | rfl) ?_
    rotate_left
    · intro w hS; try subst hS
      go_simp; try with_reducible rfl
    try simp only [Act.put, List.setIfInBounds_toArray, List.set_cons_zero, List.set_cons_succ]
    refine AnyH.take (i := 6) (d := some 11) (v := ?_) (by kernel_rfl) rfl rfl HF (fun _ _ _ h => h) (.inl ⟨by rfl, ?_⟩) (by first | assumption | rfl) ?_
    rotate_left
    · intro w hS; try subst hS
      go_simp; try with_reducible rfl
    try simp only [Act.put, List.setIfInBounds_toArray, List.set_cons_zero, List.set_cons_succ]
    refine AnyH.take (i := 7) (d := some 12) (v := ?_) (by kernel_rfl) rfl rfl HF (fun _ _ _ h => h) (.inl ⟨by rfl, ?_⟩) (by first | assumption | rfl) ?_
    rotate_left
    · intro w hS; try subst hS
      go_simp; try with_reducible rfl
    try simp only [Act.put, List.setIfInBounds_toArray, List.set_cons_zero, List.set_cons_succ]
    refine AnyH.wall (i := 8) (by kernel_rfl) rfl HF (by rfl) (fun K hK => ?_)
    go_simp
    refine ⟨fun h => (by cases h), ?_⟩
    refine (H1.out (n - 1)).mono ?_
    rintro e W1 (⟨rfl, hJ1, hk1⟩ | ⟨rfl, q, hq, hx1⟩)
    · have k1 : KeepT 189 W W1 := (KeepT.refl _ _).drew.trans hk1
      obtain ⟨e0, e1, e2, e3⟩ := HC.out W1 k1
      obtain ⟨fn, tm, as_, bd, hy, hR⟩ := H2.out W1 hJ1
      have HR1 := Lib.hid hR; have K1 := Lib.hid k1
      clear hR hk1 hJ1 k1 c0 c1 c2 c3
      refine hK (fun w => w = W1) _ _ ?_
      clear hK K
      refine AnyH.take (i := 9) (d := some 14) (v := ?_) (by kernel_rfl) rfl rfl HF (fun _ _ _ h => h) (.inl ⟨by rfl, ?_⟩) (by first | assumption | rfl) ?_
      rotate_left
      · intro w hS; try subst hS
        go_simp; try with_reducible rfl
      try simp only [Act.put, List.setIfInBounds_toArray, List.set_cons_zero, List.set_cons_succ]
      refine AnyH.take (i := 10) (d := some 15) (v := ?_) (by kernel_rfl) rfl rfl HF (fun _ _ _ h => h) (.inl ⟨by rfl, ?_⟩) (by first | assumption | rfl) ?_
      rotate_left
      · intro w hS; try subst hS
        go_simp; try with_reducible rfl
      try simp only [Act.put, List.setIfInBounds_toArray, List.set_cons_zero, List.set_cons_succ]
      refine AnyH.take (i := 11) (d := some 16) (v := ?_) (by kernel_rfl) rfl rfl HF (fun _ _ _ h => h) (.inl ⟨by rfl, ?_⟩) (by first | assumption | rfl) ?_
      rotate_left
      · intro w hS; try subst hS
        go_simp; try with_reducible rfl
      try simp only [Act.put, List.setIfInBounds_toArray, List.set_cons_zero, List.set_cons_succ]
      refine AnyH.take (i := 12) (d := some 17) (v := ?_) (by kernel_rfl) rfl rfl HF (fun _ _ _ h => h) (.inl ⟨by rfl, ?_⟩) (by first | assumption | rfl) ?_
      rotate_left
      · intro w hS; try subst hS
        go_simp; try with_reducible rfl
      try simp only [Act.put, List.setIfInBounds_toArray, List.set_cons_zero, List.set_cons_succ]
      refine AnyH.take (i := 13) (d := some 18) (v := ?_) (by kernel_rfl) rfl rfl HF (fun _ _ _ h => h) (.inl ⟨by rfl, ?_⟩) (by first | assumption | rfl) ?_
      rotate_left
      · intro w hS; try subst hS
        go_simp; try with_reducible rfl
      try simp only [Act.put, List.setIfInBounds_toArray, List.set_cons_zero, List.set_cons_succ]
      refine AnyH.take (i := 14) (d := some 19) (v := ?_) (by kernel_rfl) rfl rfl HF (fun _ _ _ h => h) (.inl ⟨by rfl, ?_⟩) (by first | assumption | rfl) ?_
      rotate_left
      · intro w hS; try subst hS
        go_simp; try with_reducible rfl
      try simp only [Act.put, List.setIfInBounds_toArray, List.set_cons_zero, List.set_cons_succ]
      refine AnyH.take (i := 15) (d := some 20) (v := ?_) (by kernel_rfl) rfl rfl HF (fun _ _ _ h => h) (.inl ⟨by rfl, ?_⟩) (by first | assumption | rfl) ?_
      rotate_left
      · intro w hS; try subst hS
        go_simp; try with_reducible rfl
      try simp only [Act.put, List.setIfInBounds_toArray, List.set_cons_zero, List.set_cons_succ]
      refine AnyH.take (i := 16) (d := some 21) (v := ?_) (by kernel_rfl) rfl rfl HF (fun _ _ _ h => h) (.inl ⟨by rfl, ?_⟩) (by first | assumption | rfl) ?_
      rotate_left
      · intro w hS; try subst hS
        go_simp; try with_reducible rfl
      try simp only [Act.put, List.setIfInBounds_toArray, List.set_cons_zero, List.set_cons_succ]
      refine AnyH.take (i := 17) (d := some 22) (v := ?_) (by kernel_rfl) rfl rfl HF (fun _ _ _ h => h) (.inl ⟨by rfl, ?_⟩) (by first | assumption | rfl) ?_
      rotate_left
      · intro w hS; try subst hS
        go_simp; try with_reducible rfl
      try simp only [Act.put, List.setIfInBounds_toArray, List.set_cons_zero, List.set_cons_succ]
      refine AnyH.take (i := 18) (d := some 23) (v := ?_) (by kernel_rfl) rfl rfl HF (fun _ _ _ h => h) (.inl ⟨by rfl, ?_⟩) (by first | assumption | rfl) ?_
      rotate_left
      · intro w hS; try subst hS
        go_simp; try with_reducible rfl
      try simp only [Act.put, List.setIfInBounds_toArray, List.set_cons_zero, List.set_cons_succ]
      refine AnyH.wall (i := 19) (by kernel_rfl) rfl HF (by rfl) (fun K hK => ?_)
      go_simp
      refine ⟨fun h => (by cases h), ?_⟩
      refine HR1.out.mono ?_
      clear hy e0 e1 e2 e3
      rintro e W2 (⟨rfl, hJ2, hk2⟩ | ⟨rfl, hx2⟩)
      · have k2 : KeepT 189 W W2 := K1.out.trans hk2
        obtain ⟨e0, e1, e2, e3⟩ := HC.out W2 k2
        have H4 := Lib.hid (fun m => H3.out m W2 k2 hJ2); have K2 := Lib.hid k2
        clear hk2 hJ2 k2 H3
        refine hK (fun w => w = W2) _ _ ?_
        clear hK K
        refine AnyH.take (i := 20) (d := some 25) (v := ?_) (by kernel_rfl) rfl rfl HF (fun _ _ _ h => h) (.inl ⟨by rfl, ?_⟩) (by first | assumption | rfl) ?_
        rotate_left
        · intro w hS; try subst hS
          go_simp; try with_reducible rfl
        try simp only [Act.put, List.setIfInBounds_toArray, List.set_cons_zero, List.set_cons_succ]
        refine AnyH.take (i := 21) (d := some 26) (v := ?_) (by kernel_rfl) rfl rfl HF (fun _ _ _ h => h) (.inl ⟨by rfl, ?_⟩) (by first | assumption | rfl) ?_
        rotate_left
        · intro w hS; try subst hS
          go_simp; try with_reducible rfl
        try simp only [Act.put, List.setIfInBounds_toArray, List.set_cons_zero, List.set_cons_succ]
        refine AnyH.take (i := 22) (d := some 27) (v := ?_) (by kernel_rfl) rfl rfl HF (fun _ _ _ h => h) (.inl ⟨by rfl, ?_⟩) (by first | assumption | rfl) ?_
        rotate_left
        · intro w hS; try subst hS
          go_simp; try with_reducible rfl
        try simp only [Act.put, List.setIfInBounds_toArray, List.set_cons_zero, List.set_cons_succ]
        refine AnyH.take (i := 23) (d := some 28) (v := ?_) (by kernel_rfl) rfl rfl HF (fun _ _ _ h => h) (.inl ⟨by rfl, ?_⟩) (by first | assumption | rfl) ?_
        rotate_left
        · intro w hS; try subst hS
          go_simp; try with_reducible rfl
        try simp only [Act.put, List.setIfInBounds_toArray, List.set_cons_zero, List.set_cons_succ]
        refine AnyH.take (i := 24) (d := some 29) (v := ?_) (by kernel_rfl) rfl rfl HF (fun _ _ _ h => h) (.inl ⟨by rfl, ?_⟩) (by first | assumption | rfl) ?_
        rotate_left
        · intro w hS; try subst hS
          go_simp; try with_reducible rfl
        try simp only [Act.put, List.setIfInBounds_toArray, List.set_cons_zero, List.set_cons_succ]
        refine AnyH.take (i := 25) (d := some 30) (v := ?_) (by kernel_rfl) rfl rfl HF (fun _ _ _ h => h) (.inl ⟨by rfl, ?_⟩) (by first | assumption | rfl) ?_
        rotate_left
        · intro w hS; try subst hS
          go_simp; try with_reducible rfl
        try simp only [Act.put, List.setIfInBounds_toArray, List.set_cons_zero, List.set_cons_succ]
        refine AnyH.take (i := 26) (d := some 31) (v := ?_) (by kernel_rfl) rfl rfl HF (fun _ _ _ h => h) (.inl ⟨by rfl, ?_⟩) (by first | assumption | rfl) ?_
        rotate_left
        · intro w hS; try subst hS
          go_simp; try with_reducible rfl
        try simp only [Act.put, List.setIfInBounds_toArray, List.set_cons_zero, List.set_cons_succ]
        refine AnyH.wall (i := 27) (by kernel_rfl) rfl HF (by rfl) (fun K hK => ?_)
        go_simp
        refine ⟨fun h => (by cases h), ?_⟩
        refine (H4.out (n - 1)).mono ?_
        rintro e W3 (⟨rfl, hJ3, hk3⟩ | ⟨rfl, q, hq, hx3⟩)
        · have k3 : KeepT 189 W W3 := K2.out.trans hk3
          have HJ3 := Lib.hid hJ3; have K3 := Lib.hid k3
          clear hk3 hJ3 k3
          refine hK (fun w => w = W3) _ _ ?_
          clear hK K
          refine AnyH.take (i := 28) (d := some 33) (v := ?_) (by kernel_rfl) rfl rfl HF (fun _ _ _ h => h) (.inl ⟨by rfl, ?_⟩) (by first | assumption | rfl) ?_
          rotate_left
          · intro w hS; try subst hS
            go_simp; try with_reducible rfl
          try simp only [Act.put, List.setIfInBounds_toArray, List.set_cons_zero, List.set_cons_succ]
          refine AnyH.take (i := 29) (d := some 34) (v := ?_) (by kernel_rfl) rfl rfl HF (fun _ _ _ h => h) (.inl ⟨by rfl, ?_⟩) (by first | assumption | rfl) ?_
          rotate_left
          · intro w hS; try subst hS
            go_simp; try with_reducible rfl
          try simp only [Act.put, List.setIfInBounds_toArray, List.set_cons_zero, List.set_cons_succ]
          refine AnyH.take (i := 30) (d := some 4) (v := ?_) (by kernel_rfl) rfl rfl HF (fun _ _ _ h => h) (.inl ⟨by rfl, ?_⟩) (by first | assumption | rfl) ?_
          rotate_left
          · intro w hS; try subst hS
            go_simp; try with_reducible rfl
          try simp only [Act.put, List.setIfInBounds_toArray, List.set_cons_zero, List.set_cons_succ]
          refine AnyH.done (by kernel_rfl) ?_
          gi_wp2_with fail
          go_ret
          exact .inl ⟨rfl, by simpa [Tr.toList, List.append_assoc] using HJ3.out, K3.out⟩
        · have HX := Lib.hid hx3; have HQ := Lib.hid hq
          clear hx3 hq
          refine hK (fun w => w = W3) _ _ ?_
          clear hK K
          refine AnyH.take (i := 28) (d := some 33) (v := ?_) (by kernel_rfl) rfl rfl HF (fun _ _ _ h => h) (.inl ⟨by rfl, ?_⟩) (by first | assumption | rfl) ?_
          rotate_left
          · intro w hS; try subst hS
            go_simp; try with_reducible rfl
          try simp only [Act.put, List.setIfInBounds_toArray, List.set_cons_zero, List.set_cons_succ]
          refine AnyH.take (i := 29) (d := some 34) (v := ?_) (by kernel_rfl) rfl rfl HF (fun _ _ _ h => h) (.inl ⟨by rfl, ?_⟩) (by first | assumption | rfl) ?_
          rotate_left
          · intro w hS; try subst hS
            go_simp; try with_reducible rfl
          try simp only [Act.put, List.setIfInBounds_toArray, List.set_cons_zero, List.set_cons_succ]
          refine AnyH.take (i := 30) (d := some 4) (v := ?_) (by kernel_rfl) rfl rfl HF (fun _ _ _ h => h) (.inl ⟨by rfl, ?_⟩) (by first | assumption | rfl) ?_
          rotate_left
          · intro w hS; try subst hS
            go_simp; try with_reducible rfl
          try simp only [Act.put, List.setIfInBounds_toArray, List.set_cons_zero, List.set_cons_succ]
          refine AnyH.done (by kernel_rfl) ?_
          gi_wp2_with fail
          go_ret
          obtain ⟨r, hr'⟩ := HQ.out
          exact .inr ⟨rfl, tl.toList ++ (k, v) :: q, ⟨r, by simp [Tr.toList, ← hr']⟩, by simpa [List.append_assoc] using HX.out⟩
      · have HX := Lib.hid hx2
        clear hx2
        refine hK (fun w => w = W2) _ _ ?_
        clear hK K
        refine AnyH.take (i := 20) (d := some 25) (v := ?_) (by kernel_rfl) rfl rfl HF (fun _ _ _ h => h) (.inl ⟨by rfl, ?_⟩) (by first | assumption | rfl) ?_
        rotate_left
        · intro w hS; try subst hS
          go_simp; try with_reducible rfl
        try simp only [Act.put, List.setIfInBounds_toArray, List.set_cons_zero, List.set_cons_succ]
        refine AnyH.take (i := 21) (d := some 26) (v := ?_) (by kernel_rfl) rfl rfl HF (fun _ _ _ h => h) (.inl ⟨by rfl, ?_⟩) (by first | assumption | rfl) ?_
        rotate_left
        · intro w hS; try subst hS
          go_simp; try with_reducible rfl
        try simp only [Act.put, List.setIfInBounds_toArray, List.set_cons_zero, List.set_cons_succ]
        refine AnyH.take (i := 22) (d := some 27) (v := undef) (by kernel_rfl) rfl rfl HF (fun _ _ _ h => h) (.inr ⟨by rfl, rfl⟩) (by first | assumption | rfl) ?_
        try simp only [Act.put, List.setIfInBounds_toArray, List.set_cons_zero, List.set_cons_succ]
        refine AnyH.take (i := 23) (d := some 28) (v := undef) (by kernel_rfl) rfl rfl HF (fun _ _ _ h => h) (.inr ⟨by rfl, rfl⟩) (by first | assumption | rfl) ?_
        try simp only [Act.put, List.setIfInBounds_toArray, List.set_cons_zero, List.set_cons_succ]
        refine AnyH.take (i := 24) (d := some 29) (v := undef) (by kernel_rfl) rfl rfl HF (fun _ _ _ h => h) (.inr ⟨by rfl, rfl⟩) (by first | assumption | rfl) ?_
        try simp only [Act.put, List.setIfInBounds_toArray, List.set_cons_zero, List.set_cons_succ]
        refine AnyH.take (i := 25) (d := some 30) (v := undef) (by kernel_rfl) rfl rfl HF (fun _ _ _ h => h) (.inr ⟨by rfl, rfl⟩) (by first | assumption | rfl) ?_
        try simp only [Act.put, List.setIfInBounds_toArray, List.set_cons_zero, List.set_cons_succ]
        refine AnyH.take (i := 26) (d := some 31) (v := undef) (by kernel_rfl) rfl rfl HF (fun _ _ _ h => h) (.inr ⟨by rfl, rfl⟩) (by first | assumption | rfl) ?_
        try simp only [Act.put, List.setIfInBounds_toArray, List.set_cons_zero, List.set_cons_succ]
        refine AnyH.take (i := 27) (d := some 32) (v := undef) (by kernel_rfl) rfl rfl HF (fun _ _ _ h => h) (.inr ⟨by rfl, rfl⟩) (by first | assumption | rfl) ?_
        try simp only [Act.put, List.setIfInBounds_toArray, List.set_cons_zero, List.set_cons_succ]
        refine AnyH.take (i := 28) (d := some 33) (v := ?_) (by kernel_rfl) rfl rfl HF (fun _ _ _ h => h) (.inl ⟨by rfl, ?_⟩) (by first | assumption | rfl) ?_
        rotate_left
        · intro w hS; try subst hS
          go_simp; try with_reducible rfl
        try simp only [Act.put, List.setIfInBounds_toArray, List.set_cons_zero, List.set_cons_succ]
        refine AnyH.take (i := 29) (d := some 34) (v := ?_) (by kernel_rfl) rfl rfl HF (fun _ _ _ h => h) (.inl ⟨by rfl, ?_⟩) (by first | assumption | rfl) ?_
        rotate_left
        · intro w hS; try subst hS
          go_simp; try with_reducible rfl
        try simp only [Act.put, List.setIfInBounds_toArray, List.set_cons_zero, List.set_cons_succ]
        refine AnyH.take (i := 30) (d := some 4) (v := ?_) (by kernel_rfl) rfl rfl HF (fun _ _ _ h => h) (.inl ⟨by rfl, ?_⟩) (by first | assumption | rfl) ?_
        rotate_left
        · intro w hS; try subst hS
          go_simp; try with_reducible rfl
        try simp only [Act.put, List.setIfInBounds_toArray, List.set_cons_zero, List.set_cons_succ]
        refine AnyH.done (by kernel_rfl) ?_
        gi_wp2_with fail
        go_ret
        exact .inr ⟨rfl, tl.toList ++ [(k, v)], ⟨tr.toList, by simp [Tr.toList]⟩, by simpa [List.append_assoc] using HX.out⟩
    · have HX := Lib.hid hx1; have HQ := Lib.hid hq
      clear hx1 hq
      refine hK (fun w => w = W1) _ _ ?_
      clear hK K
      refine AnyH.take (i := 9) (d := some 14) (v := ?_) (by kernel_rfl) rfl rfl HF (fun _ _ _ h => h) (.inl ⟨by rfl, ?_⟩) (by first | assumption | rfl) ?_
      rotate_left
      · intro w hS; try subst hS
        go_simp; try with_reducible rfl
      try simp only [Act.put, List.setIfInBounds_toArray, List.set_cons_zero, List.set_cons_succ]
      refine AnyH.take (i := 10) (d := some 15) (v := undef) (by kernel_rfl) rfl rfl HF (fun _ _ _ h => h) (.inr ⟨by rfl, rfl⟩) (by first | assumption | rfl) ?_
      try simp only [Act.put, List.setIfInBounds_toArray, List.set_cons_zero, List.set_cons_succ]
      refine AnyH.take (i := 11) (d := some 16) (v := undef) (by kernel_rfl) rfl rfl HF (fun _ _ _ h => h) (.inr ⟨by rfl, rfl⟩) (by first | assumption | rfl) ?_
      try simp only [Act.put, List.setIfInBounds_toArray, List.set_cons_zero, List.set_cons_succ]
      refine AnyH.take (i := 12) (d := some 17) (v := undef) (by kernel_rfl) rfl rfl HF (fun _ _ _ h => h) (.inr ⟨by rfl, rfl⟩) (by first | assumption | rfl) ?_
      try simp only [Act.put, List.setIfInBounds_toArray, List.set_cons_zero, List.set_cons_succ]
      refine AnyH.take (i := 13) (d := some 18) (v := undef) (by kernel_rfl) rfl rfl HF (fun _ _ _ h => h) (.inr ⟨by rfl, rfl⟩) (by first | assumption | rfl) ?_
      try simp only [Act.put, List.setIfInBounds_toArray, List.set_cons_zero, List.set_cons_succ]
      refine AnyH.take (i := 14) (d := some 19) (v := undef) (by kernel_rfl) rfl rfl HF (fun _ _ _ h => h) (.inr ⟨by rfl, rfl⟩) (by first | assumption | rfl) ?_
      try simp only [Act.put, List.setIfInBounds_toArray, List.set_cons_zero, List.set_cons_succ]
      refine AnyH.take (i := 15) (d := some 20) (v := undef) (by kernel_rfl) rfl rfl HF (fun _ _ _ h => h) (.inr ⟨by rfl, rfl⟩) (by first | assumption | rfl) ?_
      try simp only [Act.put, List.setIfInBounds_toArray, List.set_cons_zero, List.set_cons_succ]
      refine AnyH.take (i := 16) (d := some 21) (v := undef) (by kernel_rfl) rfl rfl HF (fun _ _ _ h => h) (.inr ⟨by rfl, rfl⟩) (by first | assumption | rfl) ?_
      try simp only [Act.put, List.setIfInBounds_toArray, List.set_cons_zero, List.set_cons_succ]
      refine AnyH.take (i := 17) (d := some 22) (v := undef) (by kernel_rfl) rfl rfl HF (fun _ _ _ h => h) (.inr ⟨by rfl, rfl⟩) (by first | assumption | rfl) ?_
      try simp only [Act.put, List.setIfInBounds_toArray, List.set_cons_zero, List.set_cons_succ]
      refine AnyH.take (i := 18) (d := some 23) (v := undef) (by kernel_rfl) rfl rfl HF (fun _ _ _ h => h) (.inr ⟨by rfl, rfl⟩) (by first | assumption | rfl) ?_
      try simp only [Act.put, List.setIfInBounds_toArray, List.set_cons_zero, List.set_cons_succ]
      refine AnyH.take (i := 19) (d := some 24) (v := undef) (by kernel_rfl) rfl rfl HF (fun _ _ _ h => h) (.inr ⟨by rfl, rfl⟩) (by first | assumption | rfl) ?_
      try simp only [Act.put, List.setIfInBounds_toArray, List.set_cons_zero, List.set_cons_succ]
      refine AnyH.take (i := 20) (d := some 25) (v := ?_) (by kernel_rfl) rfl rfl HF (fun _ _ _ h => h) (.inl ⟨by rfl, ?_⟩) (by first | assumption | rfl) ?_
      rotate_left
      · intro w hS; try subst hS
        go_simp; try with_reducible rfl
      try simp only [Act.put, List.setIfInBounds_toArray, List.set_cons_zero, List.set_cons_succ]
      refine AnyH.take (i := 21) (d := some 26) (v := ?_) (by kernel_rfl) rfl rfl HF (fun _ _ _ h => h) (.inl ⟨by rfl, ?_⟩) (by first | assumption | rfl) ?_
      rotate_left
      · intro w hS; try subst hS
        go_simp; try with_reducible rfl
      try simp only [Act.put, List.setIfInBounds_toArray, List.set_cons_zero, List.set_cons_succ]
      refine AnyH.take (i := 22) (d := some 27) (v := undef) (by kernel_rfl) rfl rfl HF (fun _ _ _ h => h) (.inr ⟨by rfl, rfl⟩) (by first | assumption | rfl) ?_
      try simp only [Act.put, List.setIfInBounds_toArray, List.set_cons_zero, List.set_cons_succ]
      refine AnyH.take (i := 23) (d := some 28) (v := undef) (by kernel_rfl) rfl rfl HF (fun _ _ _ h => h) (.inr ⟨by rfl, rfl⟩) (by first | assumption | rfl) ?_
      try simp only [Act.put, List.setIfInBounds_toArray, List.set_cons_zero, List.set_cons_succ]
      refine AnyH.take (i := 24) (d := some 29) (v := undef) (by kernel_rfl) rfl rfl HF (fun _ _ _ h => h) (.inr ⟨by rfl, rfl⟩) (by first | assumption | rfl) ?_
      try simp only [Act.put, List.setIfInBounds_toArray, List.set_cons_zero, List.set_cons_succ]
      refine AnyH.take (i := 25) (d := some 30) (v := undef) (by kernel_rfl) rfl rfl HF (fun _ _ _ h => h) (.inr ⟨by rfl, rfl⟩) (by first | assumption | rfl) ?_
      try simp only [Act.put, List.setIfInBounds_toArray, List.set_cons_zero, List.set_cons_succ]
      refine AnyH.take (i := 26) (d := some 31) (v := undef) (by kernel_rfl) rfl rfl HF (fun _ _ _ h => h) (.inr ⟨by rfl, rfl⟩) (by first | assumption | rfl) ?_
      try simp only [Act.put, List.setIfInBounds_toArray, List.set_cons_zero, List.set_cons_succ]
      refine AnyH.take (i := 27) (d := some 32) (v := undef) (by kernel_rfl) rfl rfl HF (fun _ _ _ h => h) (.inr ⟨by rfl, rfl⟩) (by first | assumption | rfl) ?_
      try simp only [Act.put, List.setIfInBounds_toArray, List.set_cons_zero, List.set_cons_succ]
      refine AnyH.take (i := 28) (d := some 33) (v := ?_) (by kernel_rfl) rfl rfl HF (fun _ _ _ h => h) (.inl ⟨by rfl, ?_⟩) (by first | assumption | rfl) ?_
      rotate_left
      · intro w hS; try subst hS
        go_simp; try with_reducible rfl
      try simp only [Act.put, List.setIfInBounds_toArray, List.set_cons_zero, List.set_cons_succ]
      refine AnyH.take (i := 29) (d := some 34) (v := ?_) (by kernel_rfl) rfl rfl HF (fun _ _ _ h => h) (.inl ⟨by rfl, ?_⟩) (by first | assumption | rfl) ?_
      rotate_left
      · intro w hS; try subst hS
        go_simp; try with_reducible rfl
      try simp only [Act.put, List.setIfInBounds_toArray, List.set_cons_zero, List.set_cons_succ]
      refine AnyH.take (i := 30) (d := some 4) (v := ?_) (by kernel_rfl) rfl rfl HF (fun _ _ _ h => h) (.inl ⟨by rfl, ?_⟩) (by first | assumption | rfl) ?_
      rotate_left
      · intro w hS; try subst hS
        go_simp; try with_reducible rfl
      try simp only [Act.put, List.setIfInBounds_toArray, List.set_cons_zero, List.set_cons_succ]
      refine AnyH.done (by kernel_rfl) ?_
      gi_wp2_with fail
      go_ret
      exact .inr ⟨rfl, q, HQ.out.trans (by simp [Tr.toList]), HX.out⟩
end sd
end Go.Proofs.Ytlfodhejpbjfcaa
