/- The reference's Add. -/
import Derived.Test.YtjbllcakaljpgaaKeep
import Derived.Test.YtjbllcakaljpgaaFloatM
import Derived.Test.YtjbllcakaljpgaaRefPlainB
namespace Go.Proofs.Ytjbllcakaljpgaa
open Go.RowKit
namespace M
attribute [local go_sem] Oper.semAt_some
theorem fidL_at {r : Ru} : ∀ (R : List Ru) (n j : Nat) (hj : j < R.length), r ∉ R.take j → R[j] = r → fidL r n R = n + j
  | a :: R, n, 0, hj, _, h => by rw [fidL, if_pos (by simpa using h)]; omega
  | a :: R, n, j + 1, hj, hn, h => by
    simp only [List.take_succ_cons, List.mem_cons, not_or] at hn
    rw [fidL, if_neg (fun e => hn.1 e.symm), fidL_at R (n + 1) j (by simpa using hj) hn.2 (by simpa using h)]; omega
theorem fidL_none {r : Ru} : ∀ (R : List Ru) (n : Nat), r ∉ R → fidL r n R = 0
  | [], _, _ => rfl
  | a :: R, n, h => by
    simp only [List.mem_cons, not_or] at h
    rw [fidL, if_neg (fun e => h.1 e.symm), fidL_none R (n + 1) h.2]
theorem ru_cases {a b : Ru} (h : ¬ a = b) : (¬ (a.kind : Int) = b.kind) ∨ ((a.kind : Int) = b.kind ∧ ¬ (a.letter : Int) = b.letter) ∨ ((a.kind : Int) = b.kind ∧ (a.letter : Int) = b.letter ∧ ¬ (a.left : Int) = b.left) ∨ ((a.kind : Int) = b.kind ∧ (a.letter : Int) = b.letter ∧ (a.left : Int) = b.left ∧ ¬ (a.right : Int) = b.right) ∨ ((a.kind : Int) = b.kind ∧ (a.letter : Int) = b.letter ∧ (a.left : Int) = b.left ∧ (a.right : Int) = b.right ∧ ¬ (a.times : Int) = b.times) := by
  obtain ⟨a1, a2, a3, a4, a5⟩ := a
  obtain ⟨b1, b2, b3, b4, b5⟩ := b
  simp only [Ru.mk.injEq, not_and] at h
  dsimp only
  by_cases k1 : a1 = b1
  · by_cases k2 : a2 = b2
    · by_cases k3 : a3 = b3
      · by_cases k4 : a4 = b4
        · exact .inr (.inr (.inr (.inr ⟨by omega, by omega, by omega, by omega, by have := h k1 k2 k3 k4; omega⟩)))
        · exact .inr (.inr (.inr (.inl ⟨by omega, by omega, by omega, by omega⟩)))
      · exact .inr (.inr (.inl ⟨by omega, by omega, by omega⟩))
    · exact .inr (.inl ⟨by omega, by omega⟩)
  · exact .inl (by omega)
theorem encRu_one (r : Ru) : ∀ u ∈ encRu r, u.oneCell' = true := by simp [encRu, Value.oneCell']
theorem encLn_one (n : Nat) : ∀ u ∈ encLn n, u.oneCell' = true := by simp [encLn, Value.oneCell']
theorem RsC.set {W : World} {g : Nat} {a b : Value} (h : RsC W g a b) (a' b' : Value) : RsC ((W.setCell ⟨g, 0, none⟩ a').setCell ⟨g, 1, none⟩ b') g a' b' := by
  unfold RsC at h ⊢
  exact heap_set0 _ (heap_set0 _ h)
/-- What is known of the values that come up in an open order. -/
def PPa (n0 : Nat) (R : List Ru) (L : List Nat) (r : Ru) (n : Nat) (x : Nat) (v : Value) (w : World) : Prop := match x with
  | 0 => ∃ B, v = .slice (some ⟨B, 0, none⟩) 0 0 ∧ Rus n0 w v []
  | 3 => Rus n0 w v R
  | 5 => ∃ B, v = .slice (some ⟨B, 0, none⟩) 1 1 ∧ Rus n0 w v [r]
  | 6 => Rus n0 w v (R ++ [r])
  | 7 => ∃ B, v = .slice (some ⟨B, 0, none⟩) 0 0 ∧ Lns n0 w v []
  | 10 => Lns n0 w v L
  | 12 => ∃ B, v = .slice (some ⟨B, 0, none⟩) 1 1 ∧ Lns n0 w v [n]
  | 13 => Lns n0 w v (L ++ [n])
  | _ => ∃ a b, v = .agg #[a, b] ∧ Rus n0 w a (R ++ [r]) ∧ Lns n0 w b (L ++ [n])
/-- What each of them keeps. -/
def FRa (x : Nat) (w w' : World) : Prop := match x with
  | 6 => KeepT 3 w w'
  | 13 => KeepT 115 w w'
  | _ => Below w.heap.size w w'
theorem PPa.below {n0 : Nat} {R : List Ru} {L : List Nat} {r : Ru} {n x : Nat} {v : Value} {w w' : World} (h : PPa n0 R L r n x v w) (hb : Below w.heap.size w w') : PPa n0 R L r n x v w' := by
  unfold PPa at h ⊢
  split at h
  · obtain ⟨B, e, h⟩ := h; exact ⟨B, e, h.below hb⟩
  · exact h.below hb
  · obtain ⟨B, e, h⟩ := h; exact ⟨B, e, h.below hb⟩
  · exact h.below hb
  · obtain ⟨B, e, h⟩ := h; exact ⟨B, e, h.below hb⟩
  · exact h.below hb
  · obtain ⟨B, e, h⟩ := h; exact ⟨B, e, h.below hb⟩
  · exact h.below hb
  · obtain ⟨a, b, e, h1, h2⟩ := h; exact ⟨a, b, e, h1.below hb, h2.below hb⟩
/-- The result's box stands, and all below it. -/
def SAd (g : Nat) (wq w : World) : Prop := Below g wq w ∧ ∃ x y, RsC w g x y
theorem SAd.below {g : Nat} {wq w w' : World} (h : SAd g wq w) (hb : Below w.heap.size w w') (hg : g ≤ wq.heap.size) : SAd g wq w' := by
  obtain ⟨h1, x, y, h2⟩ := h
  exact ⟨h1.trans (hb.mono (Nat.le_trans hg h1.size)), x, y, below_block hb h2⟩
theorem SAd.keep {g n : Nat} {wq w w' : World} (h : SAd g wq w) (hb : Below n w w') (hn : g ≤ n) (hk : KeepT 61 w w') : SAd g wq w' := by
  obtain ⟨h1, x, y, h2⟩ := h
  exact ⟨h1.trans (hb.mono hn), x, y, hk _ _ _ h2⟩
set_option maxRecDepth 100000 in
set_option maxHeartbeats 8000000 in
theorem refAdd_any {W : World} {v u : Value} {R : List Ru} {L : List Nat} (hR : Rus 0 W v R) (hL : Lns 0 W u L) (r : Ru) (n : Nat) (hRL : R.length = L.length) (hl : R.length ≤ 1000000) :
    Calls Try.prog 76 #[.agg #[v, u], ruV r, .int .i64 n] W fun e w' => ∃ v' u', e = .returned (.tuple #[.agg #[v', u'], .int .i64 (addR R L r n).2]) ∧ Rus 0 w' v' (addR R L r n).1.1 ∧ Lns 0 w' u' (addR R L r n).1.2 ∧ Below W.heap.size W w' := by
  have HF : ∀ f, Fence.wide.fn f := fun _ => trivial
  obtain ⟨va, vc, rfl⟩ := hR.len
  obtain ⟨ua, uc, rfl⟩ := hL.len
  rw [← hRL]
  rw [← hRL] at hL
  unfold ruV
  obtain ⟨W1, hW1⟩ : ∃ w, W.alloc (.cells #[.slice va R.length vc, .slice ua R.length uc] 61) = w := ⟨_, rfl⟩
  have b1 : Below W.heap.size W W1 := by rw [← hW1]; exact (Below.refl _ _).alloc (Nat.le_refl _) _
  have k1 : RsC W1 W.heap.size (.slice va R.length vc) (.slice ua R.length uc) := by rw [← hW1]; exact heap_new' _ _
  have s1 : W1.heap.size = W.heap.size + 1 := by rw [← hW1]; simp
  obtain ⟨W2, hW2⟩ : ∃ w, W1.alloc (.cells #[.int .i64 r.kind, .int .u8 r.letter, .int .i64 r.left, .int .i64 r.right, .int .i64 r.times] 115) = w := ⟨_, rfl⟩
  have b2 : Below W1.heap.size W1 W2 := by rw [← hW2]; exact (Below.refl _ _).alloc (Nat.le_refl _) _
  have k2 : RuC W2 W1.heap.size r := by rw [← hW2]; exact RuC.new _ _
  have s2 : W2.heap.size = W.heap.size + 2 := by rw [← hW2]; simp [s1]
  obtain ⟨W3, hW3⟩ : ∃ w, W2.alloc (.cells #[.slice none 0 0, .slice none 0 0] 61) = w := ⟨_, rfl⟩
  have b3 : Below W2.heap.size W2 W3 := by rw [← hW3]; exact (Below.refl _ _).alloc (Nat.le_refl _) _
  have k3 : RsC W3 W2.heap.size (.slice none 0 0) (.slice none 0 0) := by rw [← hW3]; exact heap_new' _ _
  have B3 := Lib.hid (Below.after b1 (Below.after b2 b3))
  have K1 : Hid (RsC W3 W.heap.size (.slice va R.length vc) (.slice ua R.length uc)) := Lib.hid (below_block b3 (below_block b2 k1))
  have K2 : Hid (RuC W3 (W.heap.size + 1) r) := Lib.hid (by rw [← s1]; exact below_block b3 k2)
  have K3 : Hid (RsC W3 (W.heap.size + 2) (.slice none 0 0) (.slice none 0 0)) := Lib.hid (by rw [← s2]; exact k3)
  have HR := Lib.hid hR; have HL := Lib.hid hL; have HRL := Lib.hid hRL; have S1 := Lib.hid s1; have S2 := Lib.hid s2
  have hgd : Try.prog.eqGuardType Try.prog.depth 115 = false := by kernel_rfl
  obtain ⟨A, hA⟩ : ∃ A, addR R L r n = A := ⟨_, rfl⟩
  have HA := Lib.hid hA
  rw [hA]
  clear hR hL hRL b1 b2 b3 k1 k2 k3 hA
  go_enter Try.func76, Try.ntmps76
  go_wp2_with fail
  clear hW1 hW2 hW3 s1 s2
  go_loopw [8] (fun c wr => ∃ j : Nat, j ≤ R.length ∧ c = .int .i64 j ∧ r ∉ R.take j ∧ Below W3.heap.size W3 wr) (fun c _ => R.length - (intOf c).toNat)
  case atStart => exact ⟨0, by omega, rfl, by simp, Below.refl _ _⟩
  case round =>
    obtain ⟨j, hj, rfl, hN, hB⟩ := hrel
    have HN := Lib.hid hN; have HB := Lib.hid hB
    have k1 : ∀ w, Below wr.heap.size wr w → RsC w W.heap.size (.slice va R.length vc) (.slice ua R.length uc) := fun w hw => below_block (Below.after hB hw) K1.out
    have k2 : ∀ w, Below wr.heap.size wr w → RuC w (W.heap.size + 1) r := fun w hw => below_block (Below.after hB hw) K2.out
    have K1' := Lib.hid k1; have K2' := Lib.hid k2
    have z0 : ∀ w, Below wr.heap.size wr w → w.cell? ⟨W.heap.size, 0, none⟩ = some (.slice va R.length vc) := fun w hw => (k1 w hw).cells.1
    have z1 : ∀ w, Below wr.heap.size wr w → w.cell? ⟨W.heap.size, 1, none⟩ = some (.slice ua R.length uc) := fun w hw => (k1 w hw).cells.2.1
    have r0 : ∀ w, Below wr.heap.size wr w → w.cell? ⟨W.heap.size + 1, 0, none⟩ = some (.int .i64 r.kind) := fun w hw => (k2 w hw).cells.1
    have r1 : ∀ w, Below wr.heap.size wr w → w.cell? ⟨W.heap.size + 1, 1, none⟩ = some (.int .u8 r.letter) := fun w hw => (k2 w hw).cells.2.1
    have r2 : ∀ w, Below wr.heap.size wr w → w.cell? ⟨W.heap.size + 1, 2, none⟩ = some (.int .i64 r.left) := fun w hw => (k2 w hw).cells.2.2.1
    have r3 : ∀ w, Below wr.heap.size wr w → w.cell? ⟨W.heap.size + 1, 3, none⟩ = some (.int .i64 r.right) := fun w hw => (k2 w hw).cells.2.2.2.1
    have r4 : ∀ w, Below wr.heap.size wr w → w.cell? ⟨W.heap.size + 1, 4, none⟩ = some (.int .i64 r.times) := fun w hw => (k2 w hw).cells.2.2.2.2
    clear hN k1 k2
    have w0 : wr.cell? ⟨W.heap.size, 0, none⟩ = some (.slice va R.length vc) := z0 wr (Below.refl _ _)
    by_cases hlt : j < R.length
    · have hlt2 : (j : Int) < (R.length : Int) := by omega
      obtain ⟨g, cap, e1, h1, h2, hc⟩ := HR.out.at hlt
      simp only [Value.slice.injEq] at e1
      obtain ⟨rfl, -, rfl⟩ := e1
      have hbw : Below W.heap.size W wr := Below.after B3.out hB
      have m0 : ∀ w, Below wr.heap.size wr w → w.cell? ⟨g, j * 5, none⟩ = some (.int .i64 R[j].kind) := fun w hw => (hc w (Below.after hbw hw) j hlt).1
      have m1 : ∀ w, Below wr.heap.size wr w → w.cell? ⟨g, j * 5 + 1, none⟩ = some (.int .u8 R[j].letter) := fun w hw => (hc w (Below.after hbw hw) j hlt).2.1
      have m2 : ∀ w, Below wr.heap.size wr w → w.cell? ⟨g, j * 5 + 2, none⟩ = some (.int .i64 R[j].left) := fun w hw => (hc w (Below.after hbw hw) j hlt).2.2.1
      have m3 : ∀ w, Below wr.heap.size wr w → w.cell? ⟨g, j * 5 + 3, none⟩ = some (.int .i64 R[j].right) := fun w hw => (hc w (Below.after hbw hw) j hlt).2.2.2.1
      have m4 : ∀ w, Below wr.heap.size wr w → w.cell? ⟨g, j * 5 + 4, none⟩ = some (.int .i64 R[j].times) := fun w hw => (hc w (Below.after hbw hw) j hlt).2.2.2.2
      have HAT : Hid (R[j] = r → addR R L r n = ((R, L), j + 1)) := Lib.hid (fun h => by
        have := fidL_at R 1 j hlt HN.out h
        unfold addR
        rw [this, if_neg (by omega)]; simp; omega)
      have HSN : Hid (¬ R[j] = r → r ∉ R.take (j + 1)) := Lib.hid (fun h => by
        rw [List.take_succ_eq_append_getElem hlt]
        simp only [List.mem_append, List.mem_singleton, not_or]
        exact ⟨HN.out, fun e => h e.symm⟩)
      generalize R[j] = y at *
      have B0 : Below wr.heap.size wr wr.drew := (Below.refl _ _).drew
      clear hc hbw hB
      by_cases hy : y = r
      · have HA2 := Lib.hid (HAT.out hy)
        subst hy
        have hw1 : IntKind.i64.wrap ((j : Int) + 1) = (j : Int) + 1 := by rw [IntKind.wrap_i64]; omega
        go_wp2_with fail
        refine wp_region_anyH (Below wr.heap.size wr) (by kernel_rfl) ?_
        refine AnyH.take (i := 0) (d := some 16) (v := ?_) (by kernel_rfl) rfl rfl HF (fun _ _ _ h => h) (.inl ⟨by rfl, ?_⟩) (by first | assumption | rfl) ?_
        rotate_left
        · intro w hS; try subst hS
          go_simp; try with_reducible rfl
        try simp only [Act.put, List.setIfInBounds_toArray, List.set_cons_zero, List.set_cons_succ]
        refine AnyH.take (i := 1) (d := some 17) (v := ?_) (by kernel_rfl) rfl rfl HF (fun _ _ _ h => h) (.inl ⟨by rfl, ?_⟩) (by first | assumption | rfl) ?_
        rotate_left
        · intro w hS; try subst hS
          go_simp; try with_reducible rfl
        try simp only [Act.put, List.setIfInBounds_toArray, List.set_cons_zero, List.set_cons_succ]
        refine AnyH.take (i := 2) (d := some 18) (v := ?_) (by kernel_rfl) rfl rfl HF (fun _ _ _ h => h) (.inl ⟨by rfl, ?_⟩) (by first | assumption | rfl) ?_
        rotate_left
        · intro w hS; try subst hS
          go_simp; try with_reducible rfl
        try simp only [Act.put, List.setIfInBounds_toArray, List.set_cons_zero, List.set_cons_succ]
        refine AnyH.take (i := 3) (d := some 19) (v := ?_) (by kernel_rfl) rfl rfl HF (fun _ _ _ h => h) (.inl ⟨by rfl, ?_⟩) (by first | assumption | rfl) ?_
        rotate_left
        · intro w hS; try subst hS
          go_simp; try with_reducible rfl
        try simp only [Act.put, List.setIfInBounds_toArray, List.set_cons_zero, List.set_cons_succ]
        refine AnyH.take (i := 4) (d := some 20) (v := ?_) (by kernel_rfl) rfl rfl HF (fun _ _ _ h => h) (.inl ⟨by rfl, ?_⟩) (by first | assumption | rfl) ?_
        rotate_left
        · intro w hS; try subst hS
          go_simp; try with_reducible rfl
        try simp only [Act.put, List.setIfInBounds_toArray, List.set_cons_zero, List.set_cons_succ]
        refine AnyH.take (i := 5) (d := some 21) (v := ?_) (by kernel_rfl) rfl rfl HF (fun _ _ _ h => h) (.inl ⟨by rfl, ?_⟩) (by first | assumption | rfl) ?_
        rotate_left
        · intro w hS; try subst hS
          go_simp; try with_reducible rfl
        try simp only [Act.put, List.setIfInBounds_toArray, List.set_cons_zero, List.set_cons_succ]
        refine AnyH.take (i := 6) (d := some 22) (v := ?_) (by kernel_rfl) rfl rfl HF (fun _ _ _ h => h) (.inl ⟨by rfl, ?_⟩) (by first | assumption | rfl) ?_
        rotate_left
        · intro w hS; try subst hS
          go_simp; try with_reducible rfl
        try simp only [Act.put, List.setIfInBounds_toArray, List.set_cons_zero, List.set_cons_succ]
        refine AnyH.done (by kernel_rfl) ?_
        obtain ⟨wb, hwb⟩ : ∃ w, wr.drew = w := ⟨_, rfl⟩
        rw [hwb] at B0
        have HB0 := Lib.hid B0
        have z0' := z0 wb B0
        have z1' := z1 wb B0
        have k3 : RsC wb (W.heap.size + 2) (.slice none 0 0) (.slice none 0 0) := below_block (Below.after HB.out B0) K3.out
        have HK3 := Lib.hid k3
        obtain ⟨g0, g1, f0, f1⟩ := k3.cells
        obtain ⟨w2, hw2⟩ : ∃ w, (wb.setCell ⟨W.heap.size + 2, 0, none⟩ (.slice (some ⟨g, 0, none⟩) R.length vc)).setCell ⟨W.heap.size + 2, 1, none⟩ (.slice ua R.length uc) = w := ⟨_, rfl⟩
        have k4 : RsC w2 (W.heap.size + 2) (.slice (some ⟨g, 0, none⟩) R.length vc) (.slice ua R.length uc) := by rw [← hw2]; exact k3.set _ _
        obtain ⟨x0, x1, -, -⟩ := k4.cells
        have HBW : Hid (Below W.heap.size W w2) := Lib.hid (by
          rw [← hw2]
          exact ((Below.after B3.out (Below.after HB.out HB0.out)).setCell (p := ⟨W.heap.size + 2, 0, none⟩) (by simp) _).setCell (p := ⟨W.heap.size + 2, 1, none⟩) (by simp) _)
        clear z0 z1 r0 r1 r2 r3 r4 m0 m1 m2 m3 m4 B0 k3 k4 w0
        go_wp2_with fail
        exact bodyPost_ret (v := .tuple #[.agg #[.slice (some ⟨g, 0, none⟩) R.length vc, .slice ua R.length uc], .int .i64 ((j + 1 : Nat) : Int)]) (by simp [results, Try.results76, go_sem, x0, x1]) rfl ⟨_, _, by rw [← HA.out, HA2.out], by rw [← HA.out, HA2.out]; exact HR.out.below HBW.out, by rw [← HA.out, HA2.out]; exact HL.out.below HBW.out, HBW.out⟩
      · have HY := Lib.hid hy
        have hcase := ru_cases hy
        clear hy
        rcases hcase with q1 | ⟨q1, q2⟩ | ⟨q1, q2, q3⟩ | ⟨q1, q2, q3, q4⟩ | ⟨q1, q2, q3, q4, q5⟩
        all_goals
          go_wp2_with fail
          refine wp_region_anyH (Below wr.heap.size wr) (by kernel_rfl) ?_
          refine AnyH.take (i := 0) (d := some 16) (v := ?_) (by kernel_rfl) rfl rfl HF (fun _ _ _ h => h) (.inl ⟨by rfl, ?_⟩) (by first | assumption | rfl) ?_
          rotate_left
          · intro w hS; try subst hS
            go_simp; try with_reducible rfl
          try simp only [Act.put, List.setIfInBounds_toArray, List.set_cons_zero, List.set_cons_succ]
          refine AnyH.take (i := 1) (d := some 17) (v := ?_) (by kernel_rfl) rfl rfl HF (fun _ _ _ h => h) (.inl ⟨by rfl, ?_⟩) (by first | assumption | rfl) ?_
          rotate_left
          · intro w hS; try subst hS
            go_simp; try with_reducible rfl
          try simp only [Act.put, List.setIfInBounds_toArray, List.set_cons_zero, List.set_cons_succ]
          refine AnyH.take (i := 2) (d := some 18) (v := ?_) (by kernel_rfl) rfl rfl HF (fun _ _ _ h => h) (.inl ⟨by rfl, ?_⟩) (by first | assumption | rfl) ?_
          rotate_left
          · intro w hS; try subst hS
            go_simp; try with_reducible rfl
          try simp only [Act.put, List.setIfInBounds_toArray, List.set_cons_zero, List.set_cons_succ]
          refine AnyH.take (i := 3) (d := some 19) (v := ?_) (by kernel_rfl) rfl rfl HF (fun _ _ _ h => h) (.inl ⟨by rfl, ?_⟩) (by first | assumption | rfl) ?_
          rotate_left
          · intro w hS; try subst hS
            go_simp; try with_reducible rfl
          try simp only [Act.put, List.setIfInBounds_toArray, List.set_cons_zero, List.set_cons_succ]
          refine AnyH.take (i := 4) (d := some 20) (v := ?_) (by kernel_rfl) rfl rfl HF (fun _ _ _ h => h) (.inl ⟨by rfl, ?_⟩) (by first | assumption | rfl) ?_
          rotate_left
          · intro w hS; try subst hS
            go_simp; try with_reducible rfl
          try simp only [Act.put, List.setIfInBounds_toArray, List.set_cons_zero, List.set_cons_succ]
          refine AnyH.take (i := 5) (d := some 21) (v := ?_) (by kernel_rfl) rfl rfl HF (fun _ _ _ h => h) (.inl ⟨by rfl, ?_⟩) (by first | assumption | rfl) ?_
          rotate_left
          · intro w hS; try subst hS
            go_simp; try with_reducible rfl
          try simp only [Act.put, List.setIfInBounds_toArray, List.set_cons_zero, List.set_cons_succ]
          refine AnyH.take (i := 6) (d := some 22) (v := ?_) (by kernel_rfl) rfl rfl HF (fun _ _ _ h => h) (.inl ⟨by rfl, ?_⟩) (by first | assumption | rfl) ?_
          rotate_left
          · intro w hS; try subst hS
            go_simp; try with_reducible rfl
          try simp only [Act.put, List.setIfInBounds_toArray, List.set_cons_zero, List.set_cons_succ]
          refine AnyH.done (by kernel_rfl) ?_
          have HBW := Lib.hid (Below.after HB.out B0)
          clear z0 z1 r0 r1 r2 r3 r4 m0 m1 m2 m3 m4 B0
          go_wp2_with fail
          go_roundw
          case rel => exact ⟨j + 1, by omega, by go_num, HSN.out HY.out, HBW.out⟩
          case measure => simp [intOf]; omega
    · have hjR : R.length = j := by omega
      have hge : ¬ (j : Int) < (R.length : Int) := by omega
      have HNo : Hid (addR R L r n = ((R ++ [r], L ++ [n]), R.length + 1)) := Lib.hid (by
        have h := HN.out
        rw [← hjR, List.take_length] at h
        unfold addR
        rw [fidL_none R 1 h, if_pos rfl])
      have hw1 : IntKind.i64.wrap ((R.length : Int) + 1) = (R.length : Int) + 1 := by rw [IntKind.wrap_i64]; omega
      have HJ := Lib.hid hjR
      clear hjR hB
      obtain ⟨wq, hwq⟩ : ∃ w, wr.drew = w := ⟨_, rfl⟩
      have D0 : Below wr.heap.size wr wq := by rw [← hwq]; exact (Below.refl _ _).drew
      have hbq : Below W.heap.size W wq := Below.after B3.out (Below.after HB.out D0)
      have HRq := Lib.hid (HR.out.below hbq); have HLq := Lib.hid (HL.out.below hbq)
      have k3 : RsC wq (W.heap.size + 2) (.slice none 0 0) (.slice none 0 0) := below_block (Below.after HB.out D0) K3.out
      have HK3 := Lib.hid k3; have HBQ := Lib.hid hbq
      have HLT : Hid (W.heap.size + 2 < wq.heap.size) := Lib.hid (Array.getElem?_eq_some_iff.1 k3).1
      have S0 : SAd (W.heap.size + 2) wq wq := ⟨Below.refl _ _, _, _, k3⟩
      have y0 : ∀ w, SAd (W.heap.size + 2) wq w → w.cell? ⟨W.heap.size, 0, none⟩ = some (.slice va R.length vc) := fun w hw => (hw.1.cell (p := ⟨W.heap.size, 0, none⟩) (by simp)).trans (z0 wq D0)
      have y1 : ∀ w, SAd (W.heap.size + 2) wq w → w.cell? ⟨W.heap.size, 1, none⟩ = some (.slice ua R.length uc) := fun w hw => (hw.1.cell (p := ⟨W.heap.size, 1, none⟩) (by simp)).trans (z1 wq D0)
      have t0 : ∀ w, SAd (W.heap.size + 2) wq w → w.cell? ⟨W.heap.size + 1, 0, none⟩ = some (.int .i64 r.kind) := fun w hw => (hw.1.cell (p := ⟨W.heap.size + 1, 0, none⟩) (by simp)).trans (r0 wq D0)
      have t1 : ∀ w, SAd (W.heap.size + 2) wq w → w.cell? ⟨W.heap.size + 1, 1, none⟩ = some (.int .u8 r.letter) := fun w hw => (hw.1.cell (p := ⟨W.heap.size + 1, 1, none⟩) (by simp)).trans (r1 wq D0)
      have t2 : ∀ w, SAd (W.heap.size + 2) wq w → w.cell? ⟨W.heap.size + 1, 2, none⟩ = some (.int .i64 r.left) := fun w hw => (hw.1.cell (p := ⟨W.heap.size + 1, 2, none⟩) (by simp)).trans (r2 wq D0)
      have t3 : ∀ w, SAd (W.heap.size + 2) wq w → w.cell? ⟨W.heap.size + 1, 3, none⟩ = some (.int .i64 r.right) := fun w hw => (hw.1.cell (p := ⟨W.heap.size + 1, 3, none⟩) (by simp)).trans (r3 wq D0)
      have t4 : ∀ w, SAd (W.heap.size + 2) wq w → w.cell? ⟨W.heap.size + 1, 4, none⟩ = some (.int .i64 r.times) := fun w hw => (hw.1.cell (p := ⟨W.heap.size + 1, 4, none⟩) (by simp)).trans (r4 wq D0)
      have HSZ : Hid (∀ w, SAd (W.heap.size + 2) wq w → Below W.heap.size W w) := Lib.hid (fun w hw => hbq.trans (hw.1.mono (by omega)))
      clear z0 z1 r0 r1 r2 r3 r4 D0 k3 hbq
      go_wp2_with fail
      clear w0
      refine wp_region_anyH (SAd (W.heap.size + 2) wq) (by kernel_rfl) ?_
      rw [hwq]
      clear hwq
      refine AnyH.take (i := 1) (d := some 27) (v := ?_) (by kernel_rfl) rfl rfl HF (fun _ _ _ h => h) (.inl ⟨by rfl, ?_⟩) (by first | assumption | rfl) ?_
      rotate_left
      · intro w hS; try subst hS
        go_simp; try with_reducible rfl
      try simp only [Act.put, List.setIfInBounds_toArray, List.set_cons_zero, List.set_cons_succ]
      refine AnyH.take (i := 2) (d := some 28) (v := ?_) (by kernel_rfl) rfl rfl HF (fun _ _ _ h => h) (.inl ⟨by rfl, ?_⟩) (by first | assumption | rfl) ?_
      rotate_left
      · intro w hS; try subst hS
        go_simp; try with_reducible rfl
      try simp only [Act.put, List.setIfInBounds_toArray, List.set_cons_zero, List.set_cons_succ]
      refine AnyH.take (i := 4) (d := some 30) (v := ?_) (by kernel_rfl) rfl rfl HF (fun _ _ _ h => h) (.inl ⟨by rfl, ?_⟩) (by first | assumption | rfl) ?_
      rotate_left
      · intro w hS; try subst hS
        go_simp; try with_reducible rfl
      try simp only [Act.put, List.setIfInBounds_toArray, List.set_cons_zero, List.set_cons_succ]
      refine AnyH.take (i := 8) (d := some 34) (v := ?_) (by kernel_rfl) rfl rfl HF (fun _ _ _ h => h) (.inl ⟨by rfl, ?_⟩) (by first | assumption | rfl) ?_
      rotate_left
      · intro w hS; try subst hS
        go_simp; try with_reducible rfl
      try simp only [Act.put, List.setIfInBounds_toArray, List.set_cons_zero, List.set_cons_succ]
      refine AnyH.take (i := 9) (d := some 35) (v := ?_) (by kernel_rfl) rfl rfl HF (fun _ _ _ h => h) (.inl ⟨by rfl, ?_⟩) (by first | assumption | rfl) ?_
      rotate_left
      · intro w hS; try subst hS
        go_simp; try with_reducible rfl
      try simp only [Act.put, List.setIfInBounds_toArray, List.set_cons_zero, List.set_cons_succ]
      refine AnyH.take (i := 11) (d := some 37) (v := ?_) (by kernel_rfl) rfl rfl HF (fun _ _ _ h => h) (.inl ⟨by rfl, ?_⟩) (by first | assumption | rfl) ?_
      rotate_left
      · intro w hS; try subst hS
        go_simp; try with_reducible rfl
      try simp only [Act.put, List.setIfInBounds_toArray, List.set_cons_zero, List.set_cons_succ]
      refine AnyH.take (i := 15) (d := some 41) (v := ?_) (by kernel_rfl) rfl rfl HF (fun _ _ _ h => h) (.inl ⟨by rfl, ?_⟩) (by first | assumption | rfl) ?_
      rotate_left
      · intro w hS; try subst hS
        go_simp; try with_reducible rfl
      try simp only [Act.put, List.setIfInBounds_toArray, List.set_cons_zero, List.set_cons_succ]
      refine AnyH.take (i := 16) (d := some 42) (v := ?_) (by kernel_rfl) rfl rfl HF (fun _ _ _ h => h) (.inl ⟨by rfl, ?_⟩) (by first | assumption | rfl) ?_
      rotate_left
      · intro w hS; try subst hS
        go_simp; try with_reducible rfl
      try simp only [Act.put, List.setIfInBounds_toArray, List.set_cons_zero, List.set_cons_succ]
      refine AnyH.take (i := 17) (d := some 43) (v := ?_) (by kernel_rfl) rfl rfl HF (fun _ _ _ h => h) (.inl ⟨by rfl, ?_⟩) (by first | assumption | rfl) ?_
      rotate_left
      · intro w hS; try subst hS
        go_simp; try with_reducible rfl
      try simp only [Act.put, List.setIfInBounds_toArray, List.set_cons_zero, List.set_cons_succ]
      refine AnyH.take (i := 18) (d := some 44) (v := ?_) (by kernel_rfl) rfl rfl HF (fun _ _ _ h => h) (.inl ⟨by rfl, ?_⟩) (by first | assumption | rfl) ?_
      rotate_left
      · intro w hS; try subst hS
        go_simp; try with_reducible rfl
      try simp only [Act.put, List.setIfInBounds_toArray, List.set_cons_zero, List.set_cons_succ]
      refine AnyH.floatAL [0, 3, 5, 6, 7, 10, 12, 13, 14] 2
        (fun x => match x with | 3 => [0] | 6 => [0, 3, 5] | 10 => [0, 3, 5, 6, 7] | 13 => [0, 3, 5, 6, 7, 10, 12] | 14 => [0, 3, 5, 6, 7, 10, 12, 13] | _ => [])
        (fun x => match x with | 3 => [0] | 6 => [3, 5] | 10 => [7] | 13 => [10, 12] | 14 => [6, 13] | _ => [])
        (fun x => match x with | 0 => [5, 7, 12] | 3 => [5, 7, 12] | 5 => [0, 3, 7, 12] | 6 => [7, 12] | 7 => [0, 3, 5, 6, 12] | 10 => [6, 12] | 12 => [0, 3, 5, 6, 7, 10] | 13 => [6] | _ => [])
        (fun x => match x with | 0 => 26 | 3 => 29 | 5 => 31 | 6 => 32 | 7 => 33 | 10 => 36 | 12 => 38 | 13 => 39 | _ => 40) (fun x => x == 14)
        (PPa wq.heap.size R L r n) FRa ?fok ?dok ?mok (by kernel_rfl) HF S0 ?mono ?step ?tail
      case fok => kernel_rfl
      case dok => kernel_rfl
      case mok => kernel_rfl
      case mono =>
        intro x hx i hi v w w' hP hR
        simp only [List.mem_cons, List.not_mem_nil, or_false] at hx
        rcases hx with rfl | rfl | rfl | rfl | rfl | rfl | rfl | rfl | rfl
        · exact hP.below hR
        · exact hP.below hR
        · exact hP.below hR
        · simp only [List.mem_cons, List.not_mem_nil, or_false] at hi
          rcases hi with rfl | rfl
          · obtain ⟨B, e, h⟩ := hP; exact ⟨B, e, SlA.keep h hR⟩
          · obtain ⟨B, e, h⟩ := hP; exact ⟨B, e, SlA.keep h hR⟩
        · exact hP.below hR
        · exact hP.below hR
        · exact hP.below hR
        · simp only [List.mem_cons, List.not_mem_nil, or_false] at hi
          subst hi
          exact SlA.keep (show Rus wq.heap.size w v (R ++ [r]) from hP) hR
        · exact hP.below hR
      case step =>
        intro x hx vs w hS hP K hK
        have hbw := HSZ.out w hS
        have hlt := HLT.out
        simp only [List.mem_cons, List.not_mem_nil, or_false] at hx
        rcases hx with rfl | rfl | rfl | rfl | rfl | rfl | rfl | rfl | rfl
        · refine StepIn.mk rfl (by rfl) ?_
          simp only [putL, List.foldl_nil, List.foldl_cons, Act.put, List.setIfInBounds_toArray, List.set_cons_zero, List.set_cons_succ] at hK ⊢
          go_simp
          exact hK _ _ (SAd.below hS ((Below.refl _ _).alloc (Nat.le_refl _) _) (by omega)) ((Below.refl _ _).alloc (Nat.le_refl _) _) ⟨_, rfl, SlA.mono (SlA.lit (l := []) encRu_len rfl (by simp)) hS.1.size⟩
        · obtain ⟨B, hB0, h0⟩ := hP 0 (by simp)
          rw [hB0] at h0
          obtain ⟨v', w', hrun, hown, hb⟩ := run_catE elemRu encRu_len 58 h0 (HR.out.below hbw) (by omega) hS.1.size
          refine StepIn.mk rfl (by rfl) ?_
          simp only [putL, List.foldl_nil, List.foldl_cons, hB0, Act.put, List.setIfInBounds_toArray, List.set_cons_zero, List.set_cons_succ] at hK ⊢
          simp [execOp, resolve, invoke, builtin, hrun, Result.andThen, Act.eval, Oper.uponIn]
          exact hK _ _ (SAd.below hS hb (by omega)) hb hown
        · refine StepIn.mk rfl (by rfl) ?_
          simp only [putL, List.foldl_nil, List.foldl_cons, Act.put, List.setIfInBounds_toArray, List.set_cons_zero, List.set_cons_succ] at hK ⊢
          go_simp
          exact hK _ _ (SAd.below hS ((Below.refl _ _).alloc (Nat.le_refl _) _) (by omega)) ((Below.refl _ _).alloc (Nat.le_refl _) _) ⟨_, rfl, SlA.mono (SlA.lit (l := [r]) encRu_len rfl (by simp; unfold maxLen; omega)) hS.1.size⟩
        · have h3 : Rus wq.heap.size w (vs 3) R := hP 3 (by simp)
          obtain ⟨B, hB5, h5⟩ := hP 5 (by simp)
          rw [hB5] at h5
          obtain ⟨v', w', hrun, hown, hg, hb⟩ := run_catO (l2 := [r]) elemRu encRu_len encRu_one 58 h3 h5 (by simp; omega) hS.1.size
          have hkt : KeepT 3 w w' := keep_own h3 hg (by decide)
          refine StepIn.mk rfl (by rfl) ?_
          simp only [putL, List.foldl_nil, List.foldl_cons, hB5, Act.put, List.setIfInBounds_toArray, List.set_cons_zero, List.set_cons_succ] at hK ⊢
          simp only [List.length_singleton] at hrun
          simp [execOp, resolve, invoke, builtin, hrun, Result.andThen, Act.eval, Oper.uponIn]
          exact hK _ _ (SAd.keep hS hb (by omega) (keep_own h3 hg (by decide))) hkt hown
        · refine StepIn.mk rfl (by rfl) ?_
          simp only [putL, List.foldl_nil, List.foldl_cons, Act.put, List.setIfInBounds_toArray, List.set_cons_zero, List.set_cons_succ] at hK ⊢
          go_simp
          exact hK _ _ (SAd.below hS ((Below.refl _ _).alloc (Nat.le_refl _) _) (by omega)) ((Below.refl _ _).alloc (Nat.le_refl _) _) ⟨_, rfl, SlA.mono (SlA.lit (l := []) encLn_len rfl (by simp)) hS.1.size⟩
        · obtain ⟨B, hB0, h0⟩ := hP 7 (by simp)
          rw [hB0] at h0
          obtain ⟨v', w', hrun, hown, hb⟩ := run_catE elemLn encLn_len 59 h0 (HL.out.below hbw) (by rw [← HRL.out]; omega) hS.1.size
          refine StepIn.mk rfl (by rfl) ?_
          simp only [putL, List.foldl_nil, List.foldl_cons, hB0, Act.put, List.setIfInBounds_toArray, List.set_cons_zero, List.set_cons_succ] at hK ⊢
          simp [execOp, resolve, invoke, builtin, hrun, Result.andThen, Act.eval, Oper.uponIn]
          exact hK _ _ (SAd.below hS hb (by omega)) hb hown
        · refine StepIn.mk rfl (by rfl) ?_
          simp only [putL, List.foldl_nil, List.foldl_cons, Act.put, List.setIfInBounds_toArray, List.set_cons_zero, List.set_cons_succ] at hK ⊢
          go_simp
          exact hK _ _ (SAd.below hS ((Below.refl _ _).alloc (Nat.le_refl _) _) (by omega)) ((Below.refl _ _).alloc (Nat.le_refl _) _) ⟨_, rfl, SlA.mono (SlA.lit (l := [n]) encLn_len rfl (by simp; unfold maxLen; omega)) hS.1.size⟩
        · have h3 : Lns wq.heap.size w (vs 10) L := hP 10 (by simp)
          obtain ⟨B, hB5, h5⟩ := hP 12 (by simp)
          rw [hB5] at h5
          obtain ⟨v', w', hrun, hown, hg, hb⟩ := run_catO (l2 := [n]) elemLn encLn_len encLn_one 59 h3 h5 (by have := HRL.out; simp; omega) hS.1.size
          have hkt : KeepT 115 w w' := keep_own h3 hg (by decide)
          refine StepIn.mk rfl (by rfl) ?_
          simp only [putL, List.foldl_nil, List.foldl_cons, hB5, Act.put, List.setIfInBounds_toArray, List.set_cons_zero, List.set_cons_succ] at hK ⊢
          simp only [List.length_singleton] at hrun
          simp [execOp, resolve, invoke, builtin, hrun, Result.andThen, Act.eval, Oper.uponIn]
          exact hK _ _ (SAd.keep hS hb (by omega) (keep_own h3 hg (by decide))) hkt hown
        · have h6 : Rus wq.heap.size w (vs 6) (R ++ [r]) := hP 6 (by simp)
          have h13 : Lns wq.heap.size w (vs 13) (L ++ [n]) := hP 13 (by simp)
          obtain ⟨a6, c6, e6⟩ := h6.len
          obtain ⟨a13, c13, e13⟩ := h13.len
          rw [List.length_append, List.length_singleton] at e6 e13
          refine StepIn.mk rfl (by rfl) ?_
          simp only [putL, List.foldl_nil, List.foldl_cons, e6, e13, Act.put, List.setIfInBounds_toArray, List.set_cons_zero, List.set_cons_succ] at hK ⊢
          rw [e6] at h6
          rw [e13] at h13
          go_simp
          exact hK _ _ hS (Below.refl _ _) ⟨_, _, rfl, h6, h13⟩
      case tail =>
        intro vs w hS hP
        obtain ⟨a, b, h14, h6, h13⟩ := hP 14 (by simp) rfl
        obtain ⟨a6, c6, rfl⟩ := h6.len
        obtain ⟨a13, c13, rfl⟩ := h13.len
        rw [List.length_append, List.length_singleton] at h14 h6 h13
        simp only [putL, List.foldl_nil, List.foldl_cons, h14, Act.put, List.setIfInBounds_toArray, List.set_cons_zero, List.set_cons_succ]
        have H6 := Lib.hid h6; have H13 := Lib.hid h13; have HS := Lib.hid hS
        obtain ⟨x, y, k3⟩ := hS.2
        obtain ⟨g0, g1, f0, f1⟩ := k3.cells
        obtain ⟨w2, hw2⟩ : ∃ z, (w.setCell ⟨W.heap.size + 2, 0, none⟩ (.slice a6 (R.length + 1) c6)).setCell ⟨W.heap.size + 2, 1, none⟩ (.slice a13 (L.length + 1) c13) = z := ⟨_, rfl⟩
        have k4 : RsC w2 (W.heap.size + 2) (.slice a6 (R.length + 1) c6) (.slice a13 (L.length + 1) c13) := by rw [← hw2]; exact k3.set _ _
        have S4 : SAd (W.heap.size + 2) wq w2 := ⟨by rw [← hw2]; exact (hS.1.setCell (p := ⟨W.heap.size + 2, 0, none⟩) (Nat.le_refl _) _).setCell (p := ⟨W.heap.size + 2, 1, none⟩) (Nat.le_refl _) _, _, _, k4⟩
        obtain ⟨x0, x1, -, -⟩ := k4.cells
        have HKT : Hid (∀ t, 61 ≠ t → KeepT t w w2) := Lib.hid (fun t ht => by
          rw [← hw2]
          exact (KeepT.setCell (a := ⟨W.heap.size + 2, 0, none⟩) k3 ht).trans (KeepT.setCell (a := ⟨W.heap.size + 2, 1, none⟩) (show (w.setCell ⟨W.heap.size + 2, 0, none⟩ (.slice a6 (R.length + 1) c6)).heap[W.heap.size + 2]? = _ from heap_set0 _ k3) ht))
        clear k3 k4
        clear hP h14 h6 h13
        refine AnyH.one (i := 19) (by kernel_rfl) (by kernel_rfl) rfl HF (by rfl) (fun K hK => ?_)
        go_simp
        refine hK _ _ S4 ?_
        clear hK K
        try simp only [Act.put, List.setIfInBounds_toArray, List.set_cons_zero, List.set_cons_succ]
        refine AnyH.take (i := 20) (d := some 7) (v := ?_) (by kernel_rfl) rfl rfl HF (fun _ _ _ h => h) (.inl ⟨by rfl, ?_⟩) (by first | assumption | rfl) ?_
        rotate_left
        · intro w hS; try subst hS
          go_simp; try with_reducible rfl
        try simp only [Act.put, List.setIfInBounds_toArray, List.set_cons_zero, List.set_cons_succ]
        refine AnyH.done (by kernel_rfl) ?_
        go_wp2_with fail
        exact bodyPost_ret (v := .tuple #[.agg #[.slice a6 (R.length + 1) c6, .slice a13 (L.length + 1) c13], .int .i64 ((R.length + 1 : Nat) : Int)]) (by simp [results, Try.results76, go_sem, x0, x1]) rfl ⟨_, _, by rw [← HA.out, HNo.out], by rw [← HA.out, HNo.out]; exact SlA.mono (SlA.keep H6.out (HKT.out _ (by decide))) (Nat.zero_le _), by rw [← HA.out, HNo.out]; exact SlA.mono (SlA.keep H13.out (HKT.out _ (by decide))) (Nat.zero_le _), HSZ.out _ S4⟩
end M
end Go.Proofs.Ytjbllcakaljpgaa
