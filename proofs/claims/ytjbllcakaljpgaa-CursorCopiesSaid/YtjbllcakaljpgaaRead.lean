/- The cursor: Read. -/
import Derived.Test.YtjbllcakaljpgaaExtr
import Derived.Test.YtjbllcakaljpgaaCur1
import Derived.Test.YtjbllcakaljpgaaMoves
namespace Go.Proofs.Ytjbllcakaljpgaa
open Go.RowKit Go.Lib
namespace M
attribute [local go_sem] Oper.semAt_some
/-- How many letters a Read takes. -/
def rdN (len k : Nat) (n : Int) : Nat := min (if n < 0 then 0 else if n > 65536 then 65536 else n).toNat (len - k)
theorem rdN_le (len k : Nat) (n : Int) : rdN len k n ≤ 65536 ∧ rdN len k n ≤ len - k := by
  unfold rdN
  refine ⟨Nat.le_trans (Nat.min_le_left _ _) ?_, Nat.min_le_right _ _⟩
  split
  · omega
  · split <;> omega
set_option maxRecDepth 100000 in
set_option maxHeartbeats 4000000 in
theorem read_any {n0 B most : Nat} {W : World} {E : List En} (hs : StAt n0 W B most E) (hwf : Wf E) (hE : E.length ≤ 1048576) {c id len k : Nat} (h : CuC W c B id len k) (hid : id ≤ E.length) (hlen : (txt E id).length = len) (hk : k ≤ len) (n : Int) :
    Calls Try.prog 21 #[.pointer (some ⟨c, 0, none⟩), .int .i64 n] W fun e w' => ∃ v, e = .returned v ∧ Bys W.heap.size w' v (((txt E id).drop k).take (rdN len k n)) ∧ CuC w' c B id len (k + rdN len k n) ∧ BC c W w' := by
  have HF : ∀ f, Fence.wide.fn f := fun _ => trivial
  have hlb := (hwf.len hid).2
  rw [hlen] at hlb
  have m0 : ∀ w, Below W.heap.size W w → w.cell? ⟨c, 0, none⟩ = some (.pointer (some ⟨B, 0, none⟩)) := fun w hw => (CuC.cells (below_block hw h)).1
  have m1 : ∀ w, Below W.heap.size W w → w.cell? ⟨c, 1, none⟩ = some (.int .i64 id) := fun w hw => (CuC.cells (below_block hw h)).2.1
  have m2 : ∀ w, Below W.heap.size W w → w.cell? ⟨c, 2, none⟩ = some (.int .i64 len) := fun w hw => (CuC.cells (below_block hw h)).2.2.1
  have m3 : ∀ w, Below W.heap.size W w → w.cell? ⟨c, 3, none⟩ = some (.int .i64 k) := fun w hw => (CuC.cells (below_block hw h)).2.2.2.1
  obtain ⟨hq1, hq2⟩ := rdN_le len k n
  obtain ⟨q, hq⟩ : ∃ q, rdN len k n = q := ⟨_, rfl⟩
  rw [hq] at hq1 hq2 ⊢
  have H := Lib.hid h
  have HEX : Hid (∀ w, Below W.heap.size W w → Calls Try.prog 19 #[.pointer (some ⟨B, 0, none⟩), .int .i64 id, .int .i64 k, .int .i64 q] w fun e w' => ∃ v, e = .returned (.tuple #[v, .nilIface]) ∧ Bys w.heap.size w' v (((txt E id).drop k).take q) ∧ Below w.heap.size w w') := Lib.hid (fun w hw => extract_any (hs.below hw) hwf hE hid (by rw [hlen]; omega) hq1)
  have hw1 : IntKind.i64.wrap ((len : Int) - (k : Int)) = (len : Int) - (k : Int) := by rw [IntKind.wrap_i64]; omega
  have hw2 : IntKind.i64.wrap ((k : Int) + (q : Int)) = ((k + q : Nat) : Int) := by rw [IntKind.wrap_i64]; omega
  have hwq : IntKind.i64.wrap (q : Int) = (q : Int) := by rw [IntKind.wrap_i64]; omega
  have HW2 := Lib.hid hw2
  have hmin : ∀ y : Int, y = (if n < 0 then 0 else if n > 65536 then 65536 else n) → 0 ≤ y ∧ ((¬ (len : Int) - (k : Int) < y ∧ y = (q : Int)) ∨ ((len : Int) - (k : Int) < y ∧ (len : Int) - (k : Int) = (q : Int))) := by
    intro y hy
    unfold rdN at hq
    rw [← hy] at hq
    have hy0 : 0 ≤ y := by
      rw [hy]
      split
      · omega
      · split <;> omega
    refine ⟨hy0, ?_⟩
    by_cases g : ¬ (len : Int) - (k : Int) < y
    · left; refine ⟨g, ?_⟩; rw [Nat.min_eq_left (by omega)] at hq; omega
    · right; refine ⟨by omega, ?_⟩; rw [Nat.min_eq_right (by omega)] at hq; omega
  obtain ⟨y, hy⟩ : ∃ y : Int, y = (if n < 0 then 0 else if n > 65536 then 65536 else n) := ⟨_, rfl⟩
  have hmin := hmin y hy
  have HY := Lib.hid hy.symm
  clear h hs hwf hq hlen hy hlb hw2
  obtain ⟨hy0, hmin⟩ := hmin
  rcases hmin with ⟨g1, g2⟩ | ⟨g1, g2⟩
  all_goals
    try have g3 : (q : Int) < y := by omega
    go_enter Try.func21, Try.ntmps21
    go_wp2_with fail
    refine wp_region_anyH (Below W.heap.size W) (by kernel_rfl) ?_
    obtain ⟨wa, hwa⟩ : ∃ w, W.drew = w := ⟨_, rfl⟩
    have S0 : Below W.heap.size W wa := by rw [← hwa]; exact (Below.refl _ _).drew
    rw [hwa]
    clear hwa
    refine AnyH.take (i := 0) (d := some 9) (v := ?_) (by kernel_rfl) rfl rfl HF (fun _ _ _ h => h) (.inl ⟨by rfl, ?_⟩) (by first | assumption | rfl) ?_
    rotate_left
    · intro w hS; try subst hS
      go_simp; try with_reducible rfl
    try simp only [Act.put, List.setIfInBounds_toArray, List.set_cons_zero, List.set_cons_succ]
    refine AnyH.take (i := 2) (d := some 11) (v := ?_) (by kernel_rfl) rfl rfl HF (fun _ _ _ h => h) (.inl ⟨by rfl, ?_⟩) (by first | assumption | rfl) ?_
    rotate_left
    · intro w hS; try subst hS
      go_simp; try with_reducible rfl
    try simp only [Act.put, List.setIfInBounds_toArray, List.set_cons_zero, List.set_cons_succ]
    refine AnyH.take (i := 3) (d := some 12) (v := ?_) (by kernel_rfl) rfl rfl HF (fun _ _ _ h => h) (.inl ⟨by rfl, ?_⟩) (by first | assumption | rfl) ?_
    rotate_left
    · intro w hS; try subst hS
      go_simp; try with_reducible rfl
    try simp only [Act.put, List.setIfInBounds_toArray, List.set_cons_zero, List.set_cons_succ]
    refine AnyH.take (i := 4) (d := some 13) (v := ?_) (by kernel_rfl) rfl rfl HF (fun _ _ _ h => h) (.inl ⟨by rfl, ?_⟩) (by first | assumption | rfl) ?_
    rotate_left
    · intro w hS; try subst hS
      go_simp; try with_reducible rfl
    try simp only [Act.put, List.setIfInBounds_toArray, List.set_cons_zero, List.set_cons_succ]
    refine AnyH.take (i := 5) (d := some 14) (v := ?_) (by kernel_rfl) rfl rfl HF (fun _ _ _ h => h) (.inl ⟨by rfl, ?_⟩) (by first | assumption | rfl) ?_
    rotate_left
    · intro w hS; try subst hS
      go_simp; try with_reducible rfl
    try simp only [Act.put, List.setIfInBounds_toArray, List.set_cons_zero, List.set_cons_succ]
    refine AnyH.take (i := 6) (d := some 15) (v := ?_) (by kernel_rfl) rfl rfl HF (fun _ _ _ h => h) (.inl ⟨by rfl, ?_⟩) (by first | assumption | rfl) ?_
    rotate_left
    · intro w hS; try subst hS
      go_simp; try with_reducible rfl
    try simp only [Act.put, List.setIfInBounds_toArray, List.set_cons_zero, List.set_cons_succ]
    refine AnyH.take (i := 7) (d := some 16) (v := ?_) (by kernel_rfl) rfl rfl HF (fun _ _ _ h => h) (.inl ⟨by rfl, ?_⟩) (by first | assumption | rfl) ?_
    rotate_left
    · intro w hS; try subst hS
      go_simp; try with_reducible rfl
    try simp only [Act.put, List.setIfInBounds_toArray, List.set_cons_zero, List.set_cons_succ]
    refine AnyH.take (i := 8) (d := some 17) (v := ?_) (by kernel_rfl) rfl rfl HF (fun _ _ _ h => h) (.inl ⟨by rfl, ?_⟩) (by first | assumption | rfl) ?_
    rotate_left
    · intro w hS; try subst hS
      go_simp; try with_reducible rfl
    try simp only [Act.put, List.setIfInBounds_toArray, List.set_cons_zero, List.set_cons_succ]
    refine AnyH.take (i := 9) (d := some 18) (v := ?_) (by kernel_rfl) rfl rfl HF (fun _ _ _ h => h) (.inl ⟨by rfl, ?_⟩) (by first | assumption | rfl) ?_
    rotate_left
    · intro w hS; try subst hS
      go_simp; try with_reducible rfl
    try simp only [Act.put, List.setIfInBounds_toArray, List.set_cons_zero, List.set_cons_succ]
    refine AnyH.take (i := 10) (d := some 19) (v := ?_) (by kernel_rfl) rfl rfl HF (fun _ _ _ h => h) (.inl ⟨by rfl, ?_⟩) (by first | assumption | rfl) ?_
    rotate_left
    · intro w hS; try subst hS
      go_simp; try with_reducible rfl
    try simp only [Act.put, List.setIfInBounds_toArray, List.set_cons_zero, List.set_cons_succ]
    refine AnyH.one (i := 1) (by kernel_rfl) (by kernel_rfl) rfl HF (by rfl) (fun K hK => ?_)
    go_simp
    first | ((with_reducible refine And.intro ?hdep ?_); (case hdep => first | rfl | (intro h; cases h))) | skip
    refine callsIn_wide.2 ((clip_any wa n 0 65536).mono ?_)
    rintro e w ⟨rfl, h⟩; rw [h]; clear h w
    have hy : (if n < 0 then (0 : Int) else if n > 65536 then 65536 else n) = y := HY.out
    rw [hy]
    clear hy
    refine hK _ _ S0 ?_
    clear hK K
    try simp only [Act.put, List.setIfInBounds_toArray, List.set_cons_zero, List.set_cons_succ]
    refine AnyH.take (i := 11) (d := some 20) (v := ?_) (by kernel_rfl) rfl rfl HF (fun _ _ _ h => h) (.inl ⟨by rfl, ?_⟩) (by first | assumption | rfl) ?_
    rotate_left
    · intro w hS; try subst hS
      go_simp; try with_reducible rfl
    try simp only [Act.put, List.setIfInBounds_toArray, List.set_cons_zero, List.set_cons_succ]
    refine AnyH.take (i := 12) (d := some 1) (v := ?_) (by kernel_rfl) rfl rfl HF (fun _ _ _ h => h) (.inl ⟨by rfl, ?_⟩) (by first | assumption | rfl) ?_
    rotate_left
    · intro w hS; try subst hS
      go_simp; try with_reducible rfl
    try simp only [Act.put, List.setIfInBounds_toArray, List.set_cons_zero, List.set_cons_succ]
    refine AnyH.done (by kernel_rfl) ?_
    try rw [g2]
    clear g1 g2
    try clear g3
    go_wp2_with fail
    refine wp_region_anyH (Below W.heap.size W) (by kernel_rfl) ?_
    obtain ⟨wb, hwb⟩ : ∃ w, wa.drew = w := ⟨_, rfl⟩
    have S1 : Below W.heap.size W wb := by rw [← hwb]; exact S0.drew
    rw [hwb]
    clear hwb S0
    refine AnyH.take (i := 0) (d := some 22) (v := ?_) (by kernel_rfl) rfl rfl HF (fun _ _ _ h => h) (.inl ⟨by rfl, ?_⟩) (by first | assumption | rfl) ?_
    rotate_left
    · intro w hS; try subst hS
      go_simp; try with_reducible rfl
    try simp only [Act.put, List.setIfInBounds_toArray, List.set_cons_zero, List.set_cons_succ]
    refine AnyH.take (i := 1) (d := some 23) (v := ?_) (by kernel_rfl) rfl rfl HF (fun _ _ _ h => h) (.inl ⟨by rfl, ?_⟩) (by first | assumption | rfl) ?_
    rotate_left
    · intro w hS; try subst hS
      go_simp; try with_reducible rfl
    try simp only [Act.put, List.setIfInBounds_toArray, List.set_cons_zero, List.set_cons_succ]
    refine AnyH.take (i := 2) (d := some 24) (v := ?_) (by kernel_rfl) rfl rfl HF (fun _ _ _ h => h) (.inl ⟨by rfl, ?_⟩) (by first | assumption | rfl) ?_
    rotate_left
    · intro w hS; try subst hS
      go_simp; try with_reducible rfl
    try simp only [Act.put, List.setIfInBounds_toArray, List.set_cons_zero, List.set_cons_succ]
    refine AnyH.take (i := 3) (d := some 25) (v := ?_) (by kernel_rfl) rfl rfl HF (fun _ _ _ h => h) (.inl ⟨by rfl, ?_⟩) (by first | assumption | rfl) ?_
    rotate_left
    · intro w hS; try subst hS
      go_simp; try with_reducible rfl
    try simp only [Act.put, List.setIfInBounds_toArray, List.set_cons_zero, List.set_cons_succ]
    refine AnyH.take (i := 4) (d := some 26) (v := ?_) (by kernel_rfl) rfl rfl HF (fun _ _ _ h => h) (.inl ⟨by rfl, ?_⟩) (by first | assumption | rfl) ?_
    rotate_left
    · intro w hS; try subst hS
      go_simp; try with_reducible rfl
    try simp only [Act.put, List.setIfInBounds_toArray, List.set_cons_zero, List.set_cons_succ]
    refine AnyH.take (i := 5) (d := some 27) (v := ?_) (by kernel_rfl) rfl rfl HF (fun _ _ _ h => h) (.inl ⟨by rfl, ?_⟩) (by first | assumption | rfl) ?_
    rotate_left
    · intro w hS; try subst hS
      go_simp; try with_reducible rfl
    try simp only [Act.put, List.setIfInBounds_toArray, List.set_cons_zero, List.set_cons_succ]
    refine AnyH.take (i := 6) (d := some 28) (v := ?_) (by kernel_rfl) rfl rfl HF (fun _ _ _ h => h) (.inl ⟨by rfl, ?_⟩) (by first | assumption | rfl) ?_
    rotate_left
    · intro w hS; try subst hS
      go_simp; try with_reducible rfl
    try simp only [Act.put, List.setIfInBounds_toArray, List.set_cons_zero, List.set_cons_succ]
    refine AnyH.take (i := 7) (d := some 29) (v := ?_) (by kernel_rfl) rfl rfl HF (fun _ _ _ h => h) (.inl ⟨by rfl, ?_⟩) (by first | assumption | rfl) ?_
    rotate_left
    · intro w hS; try subst hS
      go_simp; try with_reducible rfl
    try simp only [Act.put, List.setIfInBounds_toArray, List.set_cons_zero, List.set_cons_succ]
    refine AnyH.take (i := 8) (d := some 30) (v := ?_) (by kernel_rfl) rfl rfl HF (fun _ _ _ h => h) (.inl ⟨by rfl, ?_⟩) (by first | assumption | rfl) ?_
    rotate_left
    · intro w hS; try subst hS
      go_simp; try with_reducible rfl
    try simp only [Act.put, List.setIfInBounds_toArray, List.set_cons_zero, List.set_cons_succ]
    refine AnyH.take (i := 9) (d := some 31) (v := ?_) (by kernel_rfl) rfl rfl HF (fun _ _ _ h => h) (.inl ⟨by rfl, ?_⟩) (by first | assumption | rfl) ?_
    rotate_left
    · intro w hS; try subst hS
      go_simp; try with_reducible rfl
    try simp only [Act.put, List.setIfInBounds_toArray, List.set_cons_zero, List.set_cons_succ]
    refine AnyH.take (i := 10) (d := some 32) (v := ?_) (by kernel_rfl) rfl rfl HF (fun _ _ _ h => h) (.inl ⟨by rfl, ?_⟩) (by first | assumption | rfl) ?_
    rotate_left
    · intro w hS; try subst hS
      go_simp; try with_reducible rfl
    try simp only [Act.put, List.setIfInBounds_toArray, List.set_cons_zero, List.set_cons_succ]
    refine AnyH.take (i := 11) (d := some 33) (v := ?_) (by kernel_rfl) rfl rfl HF (fun _ _ _ h => h) (.inl ⟨by rfl, ?_⟩) (by first | assumption | rfl) ?_
    rotate_left
    · intro w hS; try subst hS
      go_simp; try with_reducible rfl
    try simp only [Act.put, List.setIfInBounds_toArray, List.set_cons_zero, List.set_cons_succ]
    refine AnyH.take (i := 12) (d := some 34) (v := ?_) (by kernel_rfl) rfl rfl HF (fun _ _ _ h => h) (.inl ⟨by rfl, ?_⟩) (by first | assumption | rfl) ?_
    rotate_left
    · intro w hS; try subst hS
      go_simp; try with_reducible rfl
    try simp only [Act.put, List.setIfInBounds_toArray, List.set_cons_zero, List.set_cons_succ]
    refine AnyH.one (i := 13) (by kernel_rfl) (by kernel_rfl) rfl HF (by rfl) (fun K hK => ?_)
    go_simp
    first | ((with_reducible refine And.intro ?hdep ?_); (case hdep => first | rfl | (intro h; cases h))) | skip
    refine callsIn_wide.2 ((HEX.out wb S1).mono ?_)
    rintro e w4 ⟨v, rfl, y4, b4⟩
    have S4 : Below W.heap.size W w4 := Below.after S1 b4
    have HY4 : Hid (Bys W.heap.size w4 v (((txt E id).drop k).take q)) := Lib.hid (SlA.mono y4 S1.size)
    clear b4 y4
    refine hK _ _ S4 ?_
    clear hK K
    try simp only [Act.put, List.setIfInBounds_toArray, List.set_cons_zero, List.set_cons_succ]
    refine AnyH.take (i := 14) (d := some 21) (v := ?_) (by kernel_rfl) rfl rfl HF (fun _ _ _ h => h) (.inl ⟨by rfl, ?_⟩) (by first | assumption | rfl) ?_
    rotate_left
    · intro w hS; try subst hS
      go_simp; try with_reducible rfl
    try simp only [Act.put, List.setIfInBounds_toArray, List.set_cons_zero, List.set_cons_succ]
    refine AnyH.take (i := 15) (d := some 36) (v := ?_) (by kernel_rfl) rfl rfl HF (fun _ _ _ h => h) (.inl ⟨by rfl, ?_⟩) (by first | assumption | rfl) ?_
    rotate_left
    · intro w hS; try subst hS
      go_simp; try with_reducible rfl
    try simp only [Act.put, List.setIfInBounds_toArray, List.set_cons_zero, List.set_cons_succ]
    refine AnyH.take (i := 16) (d := some 37) (v := ?_) (by kernel_rfl) rfl rfl HF (fun _ _ _ h => h) (.inl ⟨by rfl, ?_⟩) (by first | assumption | rfl) ?_
    rotate_left
    · intro w hS; try subst hS
      go_simp; try with_reducible rfl
    try simp only [Act.put, List.setIfInBounds_toArray, List.set_cons_zero, List.set_cons_succ]
    refine AnyH.take (i := 17) (d := some 5) (v := ?_) (by kernel_rfl) rfl rfl HF (fun _ _ _ h => h) (.inl ⟨by rfl, ?_⟩) (by first | assumption | rfl) ?_
    rotate_left
    · intro w hS; try subst hS
      go_simp; try with_reducible rfl
    try simp only [Act.put, List.setIfInBounds_toArray, List.set_cons_zero, List.set_cons_succ]
    refine AnyH.take (i := 18) (d := some 6) (v := ?_) (by kernel_rfl) rfl rfl HF (fun _ _ _ h => h) (.inl ⟨by rfl, ?_⟩) (by first | assumption | rfl) ?_
    rotate_left
    · intro w hS; try subst hS
      go_simp; try with_reducible rfl
    try simp only [Act.put, List.setIfInBounds_toArray, List.set_cons_zero, List.set_cons_succ]
    refine AnyH.done (by kernel_rfl) ?_
    have k4 : CuC w4 c B id len k := below_block S4 H.out
    obtain ⟨-, -, -, c3, f3⟩ := k4.cells
    have HB4 := Lib.hid S4; have K4 := Lib.hid k4
    have hw2 := HW2.out
    clear m0 m1 m2 m3 S1 S4 k4
    go_wp2_with fail
    go_ret
    exact ⟨_, rfl, SlA.setCell HY4.out (a := ⟨c, 3, none⟩) _ K4.out (by decide), CuC.move K4.out (k + q), (BC.of HB4.out).set (p := ⟨c, 3, none⟩) (.inr rfl) _⟩
end M
end Go.Proofs.Ytjbllcakaljpgaa
