/- CursorSkips: the walk. -/
import Derived.Test.YtjbllcakaljpgaaBegun
namespace Go.Proofs.Ytjbllcakaljpgaa
open Go.RowKit Go.Lib
namespace M
attribute [local go_sem] Oper.semAt_some
/-- The box of two numbers. -/
def TwC (W : World) (g : Nat) (a b : Int) : Prop := W.heap[g]? = some (.cells #[.int .i64 a, .int .i64 b] 23 (0, 0))
theorem TwC.cells {W : World} {g : Nat} {a b : Int} (h : TwC W g a b) : W.cell? ⟨g, 0, none⟩ = some (.int .i64 a) ∧ W.cell? ⟨g, 1, none⟩ = some (.int .i64 b) := by
  unfold TwC at h
  simp [World.cell?, h]
set_option maxRecDepth 100000 in
set_option maxHeartbeats 8000000 in
theorem skips_any {W : World} {v : Value} {M : List Mk} (hM : RowMk W v M) (n a b : Int) :
    Calls Try.prog 3 #[v, .int .i64 n, .agg #[.int .i64 a, .int .i64 b]] W fun e w' => e = .returned (.bool true) ∧ Below W.heap.size W w' := by
  have HF : ∀ f, Fence.wide.fn f := fun _ => trivial
  have H := Lib.hid hM
  obtain ⟨va, vc, rfl, -, hcm, -, -⟩ := hM
  unfold maxLen at hcm
  obtain ⟨W1, hW1⟩ : ∃ w, W.alloc (.cells #[.int .i64 a, .int .i64 b] 23) = w := ⟨_, rfl⟩
  have k1 : TwC W1 W.heap.size a b := by rw [← hW1]; exact heap_new' _ _
  have b1 : Below W.heap.size W W1 := by rw [← hW1]; exact (Below.refl _ _).alloc (Nat.le_refl _) _
  have m0 : ∀ w, Below W1.heap.size W1 w → w.cell? ⟨W.heap.size, 0, none⟩ = some (.int .i64 a) := fun w hw => (TwC.cells (below_block hw k1)).1
  have m1 : ∀ w, Below W1.heap.size W1 w → w.cell? ⟨W.heap.size, 1, none⟩ = some (.int .i64 b) := fun w hw => (TwC.cells (below_block hw k1)).2
  have B1 := Lib.hid b1
  obtain ⟨w2, hw2⟩ : ∃ w, W1.drew = w := ⟨_, rfl⟩
  have S0 : Below W1.heap.size W1 w2 := by rw [← hw2]; exact (Below.refl _ _).drew
  have HB2 := Lib.hid (Below.after b1 S0)
  clear k1 b1
  by_cases hl : M.length ≤ 100
  · have hl2 : ¬ (M.length : Int) > 100 := by omega
    have HG := Lib.hid (begun_any (H.out.below HB2.out) hl n)
    have HWF : Hid (Wf (bldF M [] [0]).1 ∧ (bldF M [] [0]).1.length ≤ 100 ∧ resAt (bldF M [] [0]).2 n ≤ (bldF M [] [0]).1.length) := Lib.hid (by
      obtain ⟨a', cap', ha', -, -, hmb, -⟩ := H.out
      obtain ⟨q1, q2, q3, q4⟩ := bldF_wf M (E := []) (R := [0]) .nil (by simp) (fun m hm => (hmb m hm).1)
      exact ⟨q1, by simp at q2; omega, resAt_le q4 n⟩)
    unfold BegunP at HG
    generalize (bldF M [] [0]).1 = E at *
    generalize resAt (bldF M [] [0]).2 n = id at *
    have hlen : (entAt E id).w.len ≤ 1152921504606846976 := by
      obtain ⟨q1, q2⟩ := HWF.out.1.len HWF.out.2.2
      rw [q1]; exact q2
    generalize (entAt E id).w.len = len at *
    go_enter Try.func3, Try.ntmps3
    go_wp2_with fail
    refine wp_region_anyH (Below W1.heap.size W1) (by kernel_rfl) ?_
    rw [hw2]
    clear hw2 hW1
    refine AnyH.take (i := 0) (d := some 15) (v := ?_) (by kernel_rfl) rfl rfl HF (fun _ _ _ h => h) (.inl ⟨by rfl, ?_⟩) (by first | assumption | rfl) ?_
    rotate_left
    · intro w hS; try subst hS
      go_simp; try with_reducible rfl
    try simp only [Act.put, List.setIfInBounds_toArray, List.set_cons_zero, List.set_cons_succ]
    refine AnyH.take (i := 1) (d := some 16) (v := ?_) (by kernel_rfl) rfl rfl HF (fun _ _ _ h => h) (.inl ⟨by rfl, ?_⟩) (by first | assumption | rfl) ?_
    rotate_left
    · intro w hS; try subst hS
      go_simp; try with_reducible rfl
    try simp only [Act.put, List.setIfInBounds_toArray, List.set_cons_zero, List.set_cons_succ]
    refine AnyH.take (i := 2) (d := some 17) (v := ?_) (by kernel_rfl) rfl rfl HF (fun _ _ _ h => h) (.inl ⟨by rfl, ?_⟩) (by first | assumption | rfl) ?_
    rotate_left
    · intro w hS; try subst hS
      go_simp; try with_reducible rfl
    try simp only [Act.put, List.setIfInBounds_toArray, List.set_cons_zero, List.set_cons_succ]
    refine AnyH.take (i := 3) (d := some 18) (v := ?_) (by kernel_rfl) rfl rfl HF (fun _ _ _ h => h) (.inl ⟨by rfl, ?_⟩) (by first | assumption | rfl) ?_
    rotate_left
    · intro w hS; try subst hS
      go_simp; try with_reducible rfl
    try simp only [Act.put, List.setIfInBounds_toArray, List.set_cons_zero, List.set_cons_succ]
    refine AnyH.take (i := 4) (d := some 7) (v := ?_) (by kernel_rfl) rfl rfl HF (fun _ _ _ h => h) (.inl ⟨by rfl, ?_⟩) (by first | assumption | rfl) ?_
    rotate_left
    · intro w hS; try subst hS
      go_simp; try with_reducible rfl
    try simp only [Act.put, List.setIfInBounds_toArray, List.set_cons_zero, List.set_cons_succ]
    refine AnyH.take (i := 5) (d := some 8) (v := ?_) (by kernel_rfl) rfl rfl HF (fun _ _ _ h => h) (.inl ⟨by rfl, ?_⟩) (by first | assumption | rfl) ?_
    rotate_left
    · intro w hS; try subst hS
      go_simp; try with_reducible rfl
    try simp only [Act.put, List.setIfInBounds_toArray, List.set_cons_zero, List.set_cons_succ]
    refine AnyH.done (by kernel_rfl) ?_
    clear m0 m1 S0
    go_wp2_with fail
    refine HG.out.mono ?_
    rintro e w3 ⟨B, c, rfl, -, k3, hc, b3⟩
    have HB3 := Lib.hid (Below.after HB2.out b3)
    have HC : Hid (W.heap.size ≤ c) := Lib.hid (Nat.le_trans HB2.out.size hc)
    obtain ⟨x, hx⟩ : ∃ x : Nat, mv len 0 a = (x : Int) := ⟨(mv len 0 a).toNat, by have := mv_in (Nat.zero_le len) a; omega⟩
    have hxl : x ≤ len := by have := mv_in (Nat.zero_le len) a; omega
    have HS := Lib.hid (skip_any k3 (Nat.zero_le _) hlen a)
    rw [hx] at HS
    have K3 := Lib.hid k3
    have hcase : (a < 0 ∧ x = 0) ∨ a = (x : Int) ∨ ((len : Int) < a ∧ x = len) := by
      unfold mv at hx
      split at hx
      · left; omega
      · split at hx
        · right; right; omega
        · right; left; omega
    clear k3 hx b3 hc HG
    go_wp2_with fail
    refine HS.out.mono ?_
    rintro e w ⟨rfl, w4, b4, rfl⟩
    have k4 : CuC (w4.setCell ⟨c, 3, none⟩ (.int .i64 (((0 : Nat) : Int) + (x : Int)))) c B id len x := by
      have := CuC.move (below_block b4 K3.out) x
      rwa [show ((0 : Nat) : Int) + (x : Int) = (x : Int) by omega]
    have b5 : Below W.heap.size W (w4.setCell ⟨c, 3, none⟩ (.int .i64 (((0 : Nat) : Int) + (x : Int)))) := (Below.after HB3.out b4).setCell (p := ⟨c, 3, none⟩) HC.out _
    obtain ⟨w5, hw5⟩ : ∃ w, w4.setCell ⟨c, 3, none⟩ (.int .i64 (((0 : Nat) : Int) + (x : Int))) = w := ⟨_, rfl⟩
    rw [hw5] at k4 b5 ⊢
    have HB5 := Lib.hid b5
    have HL := Lib.hid (length_any k4); have HO := Lib.hid (offset_any k4)
    obtain ⟨y, hy⟩ : ∃ y : Int, mv len x b = y := ⟨_, rfl⟩
    have hyin := mv_in hxl b
    have HS2 := Lib.hid (skip_any k4 hxl hlen b)
    rw [hy] at HS2 hyin
    obtain ⟨z, hz⟩ : ∃ z : Nat, (x : Int) + y = (z : Int) := ⟨((x : Int) + y).toNat, by omega⟩
    have hzl : z ≤ len := by omega
    have K5 := Lib.hid k4
    have hm2 : mv len z (-y) = -y := by
      unfold mv
      rw [if_neg (by omega), if_neg (by omega)]
    have hcase2 : (b < -(x : Int) ∧ y = -(x : Int)) ∨ (b < 0 ∧ -(x : Int) ≤ b ∧ b = y) ∨ (0 ≤ b ∧ b ≤ (len : Int) - x ∧ b = y) ∨ ((len : Int) - x < b ∧ 0 ≤ b ∧ y = (len : Int) - x) := by
      unfold mv at hy
      split at hy
      · left; omega
      · split at hy
        · right; right; right; omega
        · right
          by_cases hb : b < 0
          · left; omega
          · right; left; omega
    have HZ := Lib.hid hz; have HM2 := Lib.hid hm2
    clear k4 b5 b4 hw5 HS hy hz hm2
    have HT : Hid (∀ w6, Below w5.heap.size w5 w6 → CuC (w6.setCell ⟨c, 3, none⟩ (.int .i64 ((x : Int) + y))) c B id len z ∧ Below W.heap.size W (w6.setCell ⟨c, 3, none⟩ (.int .i64 ((x : Int) + y)))) := Lib.hid (fun w6 b6 => ⟨by
      have := CuC.move (below_block b6 K5.out) z
      rwa [← HZ.out] at this, (Below.after HB5.out b6).setCell (p := ⟨c, 3, none⟩) HC.out _⟩)
    have HSK : Hid (∀ (w7 : World) (q : Int), CuC w7 c B id len z → Below W.heap.size W w7 → q = -y → Calls Try.prog 12 #[.pointer (some ⟨c, 0, none⟩), .int .i64 q] w7 fun e w' => e = .returned (.int .i64 q) ∧ CuC w' c B id len x ∧ Below W.heap.size W w') := Lib.hid (fun w7 q k6 b6 hq => by
      have h := skip_any k6 hzl hlen q
      rw [hq, HM2.out] at h
      rw [hq]
      rw [show (z : Int) + -y = (x : Int) by have := HZ.out; omega] at h
      refine h.mono ?_
      rintro e w' ⟨rfl, w8, b8, rfl⟩
      exact ⟨rfl, CuC.move (below_block b8 k6) x, (b6.trans (b8.mono b6.size)).setCell (p := ⟨c, 3, none⟩) HC.out _⟩)
    have HNE : Hid (((z : Int) != (x : Int) + y) = false) := Lib.hid (by have := HZ.out; simp; omega)
    have hxi : (x : Int) ≤ (len : Int) := by omega
    have hy1 : -(x : Int) ≤ y := by omega
    have hy2 : y ≤ (len : Int) - x := by omega
    rcases hcase with ⟨h1, rfl⟩ | rfl | ⟨h1, rfl⟩
    all_goals
      rcases hcase2 with ⟨g1, rfl⟩ | ⟨g1, g2, rfl⟩ | ⟨g1, g2, rfl⟩ | ⟨g1, g2, rfl⟩
    all_goals
      try (exfalso; omega)
    all_goals
      try have h0 : ¬ a < 0 := by omega
      try have g0 : ¬ b < 0 := by omega
      try have j1 : b < 0 := by omega
      try have j2 : b ≤ 0 := by omega
      try have j3 : 0 < b := by omega
      try have j4 : b ≤ (len : Int) := by omega
      try have j5 : (len : Int) < b := by omega
      try have j6 : ¬ 0 < b := by omega
      try have j7 : ¬ b < -(len : Int) := by omega
      try have j8 : b < -(len : Int) := by omega
      go_wp2_with fail
      refine HL.out.mono ?_; rintro e w ⟨rfl, h⟩; rw [h]; clear h w
      go_wp2_with fail
      refine HO.out.mono ?_; rintro e w ⟨rfl, h⟩; rw [h]; clear h w
      go_wp2_with fail
      refine HS2.out.mono ?_
      rintro e w ⟨rfl, w6, b6, rfl⟩
      obtain ⟨k6, hb6⟩ := HT.out w6 b6
      generalize w6.setCell ⟨c, 3, none⟩ _ = w7 at *
      have HO7 := Lib.hid (offset_any k6); have HL7 := Lib.hid (length_any k6)
      have HB7 := Lib.hid hb6
      have K7 := Lib.hid k6
      clear b6 k6 hb6
      have hzz := HZ.out
      try have hn1 : ((z : Int) != 0) = false := by simp only [bne_eq_false_iff_eq]; omega
      try have hn2 : ((z : Int) != b) = false := by simp only [bne_eq_false_iff_eq]; omega
      try have hn3 : ((z : Int) != (len : Int)) = false := by simp only [bne_eq_false_iff_eq]; omega
      try have hn4 : ((z : Int) != (x : Int)) = false := by simp only [bne_eq_false_iff_eq]; omega
      clear hzz
      have hne := HNE.out
      go_wp2_with fail
      refine HO7.out.mono ?_; rintro e w ⟨rfl, h⟩; rw [h]; clear h w
      go_wp2_with fail
      first | (refine HL7.out.mono ?_; rintro e w ⟨rfl, h⟩; rw [h]; clear h w; go_wp2_with fail) | skip
      clear hne
      refine ((HSK.out w7 _ K7.out HB7.out ?hq).mono ?_)
      case hq => omega
      rintro e w9 ⟨rfl, k8, hb8⟩
      have HO9 := Lib.hid (offset_any k8)
      have HB9 := Lib.hid hb8
      clear k8 hb8
      go_wp2_with fail
      refine HO9.out.mono ?_; rintro e w ⟨rfl, h⟩; rw [h]; clear h w
      go_wp2_with fail
      go_ret
      exact ⟨rfl, HB9.out⟩
  · have hl2 : (M.length : Int) > 100 := by omega
    go_enter Try.func3, Try.ntmps3
    go_wp2_with fail
    refine wp_region_anyH (Below W1.heap.size W1) (by kernel_rfl) ?_
    rw [hw2]
    clear hw2 hW1
    refine AnyH.take (i := 0) (d := some 15) (v := ?_) (by kernel_rfl) rfl rfl HF (fun _ _ _ h => h) (.inl ⟨by rfl, ?_⟩) (by first | assumption | rfl) ?_
    rotate_left
    · intro w hS; try subst hS
      go_simp; try with_reducible rfl
    try simp only [Act.put, List.setIfInBounds_toArray, List.set_cons_zero, List.set_cons_succ]
    refine AnyH.take (i := 1) (d := some 16) (v := ?_) (by kernel_rfl) rfl rfl HF (fun _ _ _ h => h) (.inl ⟨by rfl, ?_⟩) (by first | assumption | rfl) ?_
    rotate_left
    · intro w hS; try subst hS
      go_simp; try with_reducible rfl
    try simp only [Act.put, List.setIfInBounds_toArray, List.set_cons_zero, List.set_cons_succ]
    refine AnyH.take (i := 2) (d := some 17) (v := ?_) (by kernel_rfl) rfl rfl HF (fun _ _ _ h => h) (.inl ⟨by rfl, ?_⟩) (by first | assumption | rfl) ?_
    rotate_left
    · intro w hS; try subst hS
      go_simp; try with_reducible rfl
    try simp only [Act.put, List.setIfInBounds_toArray, List.set_cons_zero, List.set_cons_succ]
    refine AnyH.take (i := 3) (d := some 18) (v := ?_) (by kernel_rfl) rfl rfl HF (fun _ _ _ h => h) (.inl ⟨by rfl, ?_⟩) (by first | assumption | rfl) ?_
    rotate_left
    · intro w hS; try subst hS
      go_simp; try with_reducible rfl
    try simp only [Act.put, List.setIfInBounds_toArray, List.set_cons_zero, List.set_cons_succ]
    refine AnyH.take (i := 4) (d := some 7) (v := ?_) (by kernel_rfl) rfl rfl HF (fun _ _ _ h => h) (.inl ⟨by rfl, ?_⟩) (by first | assumption | rfl) ?_
    rotate_left
    · intro w hS; try subst hS
      go_simp; try with_reducible rfl
    try simp only [Act.put, List.setIfInBounds_toArray, List.set_cons_zero, List.set_cons_succ]
    refine AnyH.take (i := 5) (d := some 8) (v := ?_) (by kernel_rfl) rfl rfl HF (fun _ _ _ h => h) (.inl ⟨by rfl, ?_⟩) (by first | assumption | rfl) ?_
    rotate_left
    · intro w hS; try subst hS
      go_simp; try with_reducible rfl
    try simp only [Act.put, List.setIfInBounds_toArray, List.set_cons_zero, List.set_cons_succ]
    refine AnyH.done (by kernel_rfl) ?_
    clear m0 m1 S0
    go_wp2_with fail
    go_ret
    exact ⟨rfl, HB2.out⟩
end M
end Go.Proofs.Ytjbllcakaljpgaa
