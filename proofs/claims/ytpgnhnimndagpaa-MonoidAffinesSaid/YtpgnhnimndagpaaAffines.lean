/- MonoidAffines: the walk. -/
import Derived.Test.YtpgnhnimndagpaaPowers0
import Derived.Test.YtpgnhnimndagpaaFold2F
import Derived.Test.YtpgnhnimndagpaaAwakeM
import Derived.Test.YtpgnhnimndagpaaOwn
import Derived.Test.YtpgnhnimndagpaaTail
namespace Go.Proofs.Ytpgnhnimndagpaa
open Go.RowKit
namespace F
attribute [local go_sem] Oper.semAt_some

def app (g : Int × Int) (y : Int) : Int := IntKind.u64.wrap (IntKind.u64.wrap (g.1 * y) + g.2)
theorem app_join (f g : Int × Int) (x : Int) : app (joinF f g) x = app g (app f x) := by
  obtain ⟨f1, f2⟩ := f; obtain ⟨g1, g2⟩ := g
  simp only [app, joinF, u64_emod]
  rw [emod_mul, Int.emod_add_emod, mul_emod', Int.emod_add_emod, Int.add_emod_emod, ← Int.add_assoc]
  have h3 : ∀ a b c m : Int, (a * (b % m + c)) % m = (a * (b + c)) % m := fun a b c m => by rw [← mul_emod', Int.emod_add_emod, mul_emod']
  rw [h3, Int.emod_add_emod]
  congr 1
  rw [Int.mul_add, Int.mul_comm f1 g1, Int.mul_comm f2 g1, Int.mul_assoc]
theorem app_fold (x : Int) : ∀ (L : List (Int × Int)) (s : Int × Int), app (L.foldl joinF s) x = L.foldl (fun y g => app g y) (app s x) := by
  intro L
  induction L with
  | nil => intro s; rfl
  | cons a L ih => intro s; simp only [List.foldl_cons]; rw [ih, app_join]
theorem app_unit {x : Int} (h0 : 0 ≤ x) (h1 : x < 18446744073709551616) : app (1, 0) x = x := by
  simp only [app, u64_emod]; omega
theorem fold_app {x : Int} (h0 : 0 ≤ x) (h1 : x < 18446744073709551616) (L : List (Int × Int)) : app (fold1 joinF (1, 0) L) x = L.foldl (fun y g => app g y) x := by
  cases L with
  | nil => exact app_unit h0 h1
  | cons s L => simp only [fold1, List.foldl_cons]; exact app_fold x L s

set_option maxRecDepth 100000 in
set_option maxHeartbeats 4000000 in
theorem affines_any {W : World} {v : Value} {L : List (Int × Int)} (hL : RowAt2 .u64 W v L) (a b c : Int × Int) (x : Int) (ha : P.inR a) (hx : 0 ≤ x ∧ x < 18446744073709551616) :
    Calls Try.prog 7 #[v, .agg #[.int .u64 a.1, .int .u64 a.2], .agg #[.int .u64 b.1, .int .u64 b.2], .agg #[.int .u64 c.1, .int .u64 c.2], .int .u64 x] W fun e w' => e = .returned (.bool true) ∧ Below W.heap.size W w' := by
  have HF : ∀ f, Fence.wide.fn f := fun _ => trivial
  obtain ⟨hx0, hx1⟩ := hx
  have H := Lib.hid hL; have HA := Lib.hid ha
  obtain ⟨a0, cap, rfl, hc1, hc2, hcells⟩ := hL
  unfold maxLen at hc2
  have HM := Lib.hid hcells
  clear ha hcells
  obtain ⟨W0, hW0⟩ : ∃ W0, ((W.alloc (.cells #[.int .u64 a.1, .int .u64 a.2] 25)).alloc (.cells #[.int .u64 b.1, .int .u64 b.2] 25)).alloc (.cells #[.int .u64 c.1, .int .u64 c.2] 25) = W0 := ⟨_, rfl⟩
  have n1 : W0.heap[W.heap.size]? = some (.cells #[.int .u64 a.1, .int .u64 a.2] 25 (0, 0)) := by
    rw [← hW0]; exact (Below.heap_alloc _ _ _ (by simp <;> omega)).trans ((Below.heap_alloc _ _ _ (by simp)).trans (heap_new _ _))
  have n2 : W0.heap[W.heap.size + 1]? = some (.cells #[.int .u64 b.1, .int .u64 b.2] 25 (0, 0)) := by
    rw [← hW0]; exact (Below.heap_alloc _ _ _ (by simp <;> omega)).trans (heap_new1 _ _ _)
  have n3 : W0.heap[W.heap.size + 1 + 1]? = some (.cells #[.int .u64 c.1, .int .u64 c.2] 25 (0, 0)) := by
    rw [← hW0]
    have := heap_new1 (W.alloc (.cells #[.int .u64 a.1, .int .u64 a.2] 25)) (.cells #[.int .u64 b.1, .int .u64 b.2] 25) (.cells #[.int .u64 c.1, .int .u64 c.2] 25)
    rwa [World.size_alloc] at this
  have HB0 : Hid (Below W.heap.size W W0) := Lib.hid (by rw [← hW0]; exact (((Below.refl _ W).alloc (Nat.le_refl _) _).alloc (by simp) _).alloc (by simp <;> omega) _)
  have HN := Lib.hid (And.intro n1 (And.intro n2 n3))
  clear n1 n2 n3
  go_enter Try.func7, Try.ntmps7
  go_wp2_with fail
  clear hW0
  refine (awake_any _).mono ?_; rintro e w1 ⟨rfl, b1⟩
  have HB1 := Lib.hid b1; clear b1
  go_wp2_with fail
  refine (fold_any (H.out.below (Below.step HB0.out HB1.out))).mono ?_; rintro e w2 ⟨rfl, b2⟩
  have HB2 := Lib.hid (Below.step HB1.out b2); clear b2 HB1
  obtain ⟨p, hp⟩ : ∃ p, fold1 joinF (1, 0) L = p := ⟨_, rfl⟩
  rw [hp]
  obtain ⟨Y, hY⟩ : ∃ Y, L.foldl (fun y g => app g y) x = Y := ⟨_, rfl⟩
  have HY := Lib.hid (show app p x = Y by rw [← hp, ← hY]; exact fold_app hx0 hx1 L)
  have HYY := Lib.hid hY
  clear hp hY
  obtain ⟨w3, hw3⟩ : ∃ w3, w2.alloc (.cells #[.int .u64 p.1, .int .u64 p.2] 25) = w3 := ⟨_, rfl⟩
  have hb3 : Below w2.heap.size w2 w3 := by rw [← hw3]; exact (Below.refl _ _).alloc (Nat.le_refl _) _
  have n4 : w3.heap[w2.heap.size]? = some (.cells #[.int .u64 p.1, .int .u64 p.2] 25 (0, 0)) := by rw [← hw3]; exact heap_new _ _
  have HB3 := Lib.hid (Below.step HB2.out hb3); have HN4 := Lib.hid n4
  clear hb3 n4
  go_wp2_with fail
  clear hw3
  go_loopw [12, 24] (fun y c wr => ∃ j : Nat, j ≤ L.length ∧ c = .int .i64 j ∧ y = .int .u64 ((L.take j).foldl (fun y g => app g y) x) ∧ Below w3.heap.size w3 wr) (fun _ c _ => L.length - (intOf c).toNat)
  case atStart => exact ⟨0, by omega, rfl, rfl, Below.refl _ _⟩
  case round =>
    obtain ⟨j, hj, rfl, rfl, hB⟩ := hrel
    have HB := Lib.hid hB; clear hB
    by_cases hlt : j < L.length
    · have hl3 : (j : Int) < (L.length : Int) := by omega
      have hl4 : (0 : Int) ≤ (j : Int) := by omega
      obtain ⟨b', eb, m0, m1⟩ := HM.out j hlt
      cases eb
      have m0 : wr.cell? (b'.add (j * 2)) = some (.int .u64 L[j].1) := cell_below m0 (Below.step HB0.out (Below.step HB3.out HB.out))
      have m1 : wr.cell? ⟨(b'.add (j * 2)).block, (b'.add (j * 2)).off + 1, none⟩ = some (.int .u64 L[j].2) := cell_below m1 (Below.step HB0.out (Below.step HB3.out HB.out))
      have HT : Hid ((L.take (j + 1)).foldl (fun y g => app g y) x = app L[j] ((L.take j).foldl (fun y g => app g y) x)) := Lib.hid (by rw [List.take_succ_eq_append_getElem hlt, List.foldl_append]; rfl)
      generalize L[j] = g at *
      generalize (L.take j).foldl (fun y g => app g y) x = z at *
      go_wp2_with fail
      go_roundw
      case rel => exact ⟨j + 1, by omega, by go_num, by rw [HT.out]; rfl, HB.out.alloc HB.out.size _⟩
      case measure => simp [intOf]; omega
    · obtain rfl : j = L.length := by omega
      rw [List.take_length, HYY.out]
      obtain ⟨w4, hw4⟩ : ∃ w4, wr.alloc (.cells #[] 29) = w4 := ⟨_, rfl⟩
      have hb4 : Below wr.heap.size wr w4 := by rw [← hw4]; exact (Below.refl _ _).alloc (Nat.le_refl _) _
      have hbb := Below.step HB.out hb4
      have HB4 := Lib.hid (Below.step HB3.out hbb)
      have na := box_below HB4.out HN.out.1
      have nb := box_below HB4.out HN.out.2.1
      have nc := box_below HB4.out HN.out.2.2
      have nf := box_below hbb HN4.out
      have ka : ∀ w, Below w4.heap.size w4 w → w.cell? ⟨W.heap.size, 0, none⟩ = some (.int .u64 a.1) := fun w h => (box2_cell (box_below h na)).1
      have ka' : ∀ w, Below w4.heap.size w4 w → w.cell? ⟨W.heap.size, 1, none⟩ = some (.int .u64 a.2) := fun w h => (box2_cell (box_below h na)).2.1
      have kb : ∀ w, Below w4.heap.size w4 w → w.cell? ⟨W.heap.size + 1, 0, none⟩ = some (.int .u64 b.1) := fun w h => (box2_cell (box_below h nb)).1
      have kb' : ∀ w, Below w4.heap.size w4 w → w.cell? ⟨W.heap.size + 1, 1, none⟩ = some (.int .u64 b.2) := fun w h => (box2_cell (box_below h nb)).2.1
      have kc : ∀ w, Below w4.heap.size w4 w → w.cell? ⟨W.heap.size + 1 + 1, 0, none⟩ = some (.int .u64 c.1) := fun w h => (box2_cell (box_below h nc)).1
      have kc' : ∀ w, Below w4.heap.size w4 w → w.cell? ⟨W.heap.size + 1 + 1, 1, none⟩ = some (.int .u64 c.2) := fun w h => (box2_cell (box_below h nc)).2.1
      have kf : ∀ w, Below w4.heap.size w4 w → w.cell? ⟨w2.heap.size, 0, none⟩ = some (.int .u64 p.1) := fun w h => (box2_cell (box_below h nf)).1
      have kf' : ∀ w, Below w4.heap.size w4 w → w.cell? ⟨w2.heap.size, 1, none⟩ = some (.int .u64 p.2) := fun w h => (box2_cell (box_below h nf)).2.1
      clear na nb nc nf hb4 hbb
      go_wp2_with fail
      clear hw4
      obtain ⟨q, hq⟩ : ∃ q, IntKind.u64.wrap (p.1 * x) = q := ⟨_, rfl⟩
      have hq2 : IntKind.u64.wrap (q + p.2) = Y := by rw [← hq]; exact HY.out
      have B0 : Below w4.heap.size w4 w4.drew := (Below.refl _ _).drew
      have E1 := Lib.hid (joinF_assoc a b c)
      have E2 := Lib.hid (P.unit_l HA.out)
      have E3 := Lib.hid (P.unit_r HA.out)
      refine wp_region_anyH (Below w4.heap.size w4) (by kernel_rfl) ?_
      refine AnyH.take (i := 0) (d := some 36) (v := ?_) (by kernel_rfl) rfl rfl HF (fun _ _ _ h => h) (.inl ⟨by rfl, ?_⟩) (by first | assumption | rfl) ?_
      rotate_left
      · intro w hS; try subst hS
        go_simp; try with_reducible rfl
      try simp only [Act.put, List.setIfInBounds_toArray, List.set_cons_zero, List.set_cons_succ]
      refine AnyH.take (i := 1) (d := some 37) (v := ?_) (by kernel_rfl) rfl rfl HF (fun _ _ _ h => h) (.inl ⟨by rfl, ?_⟩) (by first | assumption | rfl) ?_
      rotate_left
      · intro w hS; try subst hS
        go_simp; try with_reducible rfl
      try simp only [Act.put, List.setIfInBounds_toArray, List.set_cons_zero, List.set_cons_succ]
      refine AnyH.take (i := 2) (d := some 38) (v := ?_) (by kernel_rfl) rfl rfl HF (fun _ _ _ h => h) (.inl ⟨by rfl, ?_⟩) (by first | assumption | rfl) ?_
      rotate_left
      · intro w hS; try subst hS
        go_simp; try with_reducible rfl
      try simp only [Act.put, List.setIfInBounds_toArray, List.set_cons_zero, List.set_cons_succ]
      refine AnyH.take (i := 3) (d := some 39) (v := ?_) (by kernel_rfl) rfl rfl HF (fun _ _ _ h => h) (.inl ⟨by rfl, ?_⟩) (by first | assumption | rfl) ?_
      rotate_left
      · intro w hS; try subst hS
        go_simp; try with_reducible rfl
      try simp only [Act.put, List.setIfInBounds_toArray, List.set_cons_zero, List.set_cons_succ]
      refine AnyH.take (i := 4) (d := some 40) (v := ?_) (by kernel_rfl) rfl rfl HF (fun _ _ _ h => h) (.inl ⟨by rfl, ?_⟩) (by first | assumption | rfl) ?_
      rotate_left
      · intro w hS; try subst hS
        go_simp; try with_reducible rfl
      try simp only [Act.put, List.setIfInBounds_toArray, List.set_cons_zero, List.set_cons_succ]
      refine AnyH.take (i := 5) (d := some 41) (v := ?_) (by kernel_rfl) rfl rfl HF (fun _ _ _ h => h) (.inl ⟨by rfl, ?_⟩) (by first | assumption | rfl) ?_
      rotate_left
      · intro w hS; try subst hS
        go_simp; try with_reducible rfl
      try simp only [Act.put, List.setIfInBounds_toArray, List.set_cons_zero, List.set_cons_succ]
      refine AnyH.take (i := 6) (d := some 42) (v := ?_) (by kernel_rfl) rfl rfl HF (fun _ _ _ h => h) (.inl ⟨by rfl, ?_⟩) (by first | assumption | rfl) ?_
      rotate_left
      · intro w hS; try subst hS
        go_simp; try with_reducible rfl
      try simp only [Act.put, List.setIfInBounds_toArray, List.set_cons_zero, List.set_cons_succ]
      refine AnyH.take (i := 7) (d := some 43) (v := ?_) (by kernel_rfl) rfl rfl HF (fun _ _ _ h => h) (.inl ⟨by rfl, ?_⟩) (by first | assumption | rfl) ?_
      rotate_left
      · intro w hS; try subst hS
        go_simp; try with_reducible rfl
      try simp only [Act.put, List.setIfInBounds_toArray, List.set_cons_zero, List.set_cons_succ]
      refine AnyH.take (i := 8) (d := some 44) (v := ?_) (by kernel_rfl) rfl rfl HF (fun _ _ _ h => h) (.inl ⟨by rfl, ?_⟩) (by first | assumption | rfl) ?_
      rotate_left
      · intro w hS; try subst hS
        go_simp; try with_reducible rfl
      try simp only [Act.put, List.setIfInBounds_toArray, List.set_cons_zero, List.set_cons_succ]
      refine AnyH.take (i := 9) (d := some 45) (v := ?_) (by kernel_rfl) rfl rfl HF (fun _ _ _ h => h) (.inl ⟨by rfl, ?_⟩) (by first | assumption | rfl) ?_
      rotate_left
      · intro w hS; try subst hS
        go_simp; try with_reducible rfl
      try simp only [Act.put, List.setIfInBounds_toArray, List.set_cons_zero, List.set_cons_succ]
      refine AnyH.take (i := 10) (d := some 46) (v := ?_) (by kernel_rfl) rfl rfl HF (fun _ _ _ h => h) (.inl ⟨by rfl, ?_⟩) (by first | assumption | rfl) ?_
      rotate_left
      · intro w hS; try subst hS
        go_simp; try with_reducible rfl
      try simp only [Act.put, List.setIfInBounds_toArray, List.set_cons_zero, List.set_cons_succ]
      refine AnyH.take (i := 11) (d := some 47) (v := ?_) (by kernel_rfl) rfl rfl HF (fun _ _ _ h => h) (.inl ⟨by rfl, ?_⟩) (by first | assumption | rfl) ?_
      rotate_left
      · intro w hS; try subst hS
        go_simp; try with_reducible rfl
      try simp only [Act.put, List.setIfInBounds_toArray, List.set_cons_zero, List.set_cons_succ]
      refine AnyH.take (i := 12) (d := some 48) (v := ?_) (by kernel_rfl) rfl rfl HF (fun _ _ _ h => h) (.inl ⟨by rfl, ?_⟩) (by first | assumption | rfl) ?_
      rotate_left
      · intro w hS; try subst hS
        go_simp; try with_reducible rfl
      try simp only [Act.put, List.setIfInBounds_toArray, List.set_cons_zero, List.set_cons_succ]
      refine AnyH.take (i := 13) (d := some 49) (v := ?_) (by kernel_rfl) rfl rfl HF (fun _ _ _ h => h) (.inl ⟨by rfl, ?_⟩) (by first | assumption | rfl) ?_
      rotate_left
      · intro w hS; try subst hS
        go_simp; try with_reducible rfl
      try simp only [Act.put, List.setIfInBounds_toArray, List.set_cons_zero, List.set_cons_succ]
      refine AnyH.take (i := 15) (d := some 51) (v := ?_) (by kernel_rfl) rfl rfl HF (fun _ _ _ h => h) (.inl ⟨by rfl, ?_⟩) (by first | assumption | rfl) ?_
      rotate_left
      · intro w hS; try subst hS
        go_simp; try with_reducible rfl
      try simp only [Act.put, List.setIfInBounds_toArray, List.set_cons_zero, List.set_cons_succ]
      refine AnyH.take (i := 17) (d := some 53) (v := ?_) (by kernel_rfl) rfl rfl HF (fun _ _ _ h => h) (.inl ⟨by rfl, ?_⟩) (by first | assumption | rfl) ?_
      rotate_left
      · intro w hS; try subst hS
        go_simp; try with_reducible rfl
      try simp only [Act.put, List.setIfInBounds_toArray, List.set_cons_zero, List.set_cons_succ]
      refine AnyH.take (i := 18) (d := some 54) (v := ?_) (by kernel_rfl) rfl rfl HF (fun _ _ _ h => h) (.inl ⟨by rfl, ?_⟩) (by first | assumption | rfl) ?_
      rotate_left
      · intro w hS; try subst hS
        go_simp; try with_reducible rfl
      try simp only [Act.put, List.setIfInBounds_toArray, List.set_cons_zero, List.set_cons_succ]
      refine AnyH.take (i := 19) (d := some 55) (v := ?_) (by kernel_rfl) rfl rfl HF (fun _ _ _ h => h) (.inl ⟨by rfl, ?_⟩) (by first | assumption | rfl) ?_
      rotate_left
      · intro w hS; try subst hS
        go_simp; try with_reducible rfl
      try simp only [Act.put, List.setIfInBounds_toArray, List.set_cons_zero, List.set_cons_succ]
      refine AnyH.take (i := 20) (d := some 56) (v := ?_) (by kernel_rfl) rfl rfl HF (fun _ _ _ h => h) (.inl ⟨by rfl, ?_⟩) (by first | assumption | rfl) ?_
      rotate_left
      · intro w hS; try subst hS
        go_simp; try with_reducible rfl
      try simp only [Act.put, List.setIfInBounds_toArray, List.set_cons_zero, List.set_cons_succ]
      refine AnyH.take (i := 21) (d := some 57) (v := ?_) (by kernel_rfl) rfl rfl HF (fun _ _ _ h => h) (.inl ⟨by rfl, ?_⟩) (by first | assumption | rfl) ?_
      rotate_left
      · intro w hS; try subst hS
        go_simp; try with_reducible rfl
      try simp only [Act.put, List.setIfInBounds_toArray, List.set_cons_zero, List.set_cons_succ]
      refine AnyH.one (i := 14) (by kernel_rfl) (by kernel_rfl) rfl HF (by rfl) (fun K hK => ?_)
      go_simp
      first | ((with_reducible refine And.intro ?hdep ?_); (case hdep => first | rfl | (intro h; cases h))) | skip
      refine callsIn_wide.2 ((aff_join a b _).mono ?_)
      rintro e u1 ⟨rfl, b1⟩
      have B1 : Below w4.heap.size w4 u1 := Below.step B0 b1
      refine hK _ _ B1 ?_
      clear hK K
      try simp only [Act.put, List.setIfInBounds_toArray, List.set_cons_zero, List.set_cons_succ]
      refine AnyH.one (i := 16) (by kernel_rfl) (by kernel_rfl) rfl HF (by rfl) (fun K hK => ?_)
      go_simp
      first | ((with_reducible refine And.intro ?hdep ?_); (case hdep => first | rfl | (intro h; cases h))) | skip
      refine callsIn_wide.2 ((aff_join (joinF a b) c _).mono ?_)
      rintro e u2 ⟨rfl, b2⟩
      rw [E1.out]
      have B2 : Below w4.heap.size w4 u2 := Below.step B1 b2
      refine hK _ _ B2 ?_
      clear hK K
      try simp only [Act.put, List.setIfInBounds_toArray, List.set_cons_zero, List.set_cons_succ]
      refine AnyH.one (i := 22) (by kernel_rfl) (by kernel_rfl) rfl HF (by rfl) (fun K hK => ?_)
      go_simp
      first | ((with_reducible refine And.intro ?hdep ?_); (case hdep => first | rfl | (intro h; cases h))) | skip
      refine callsIn_wide.2 ((aff_join b c _).mono ?_)
      rintro e u3 ⟨rfl, b3⟩
      have B3 : Below w4.heap.size w4 u3 := Below.step B2 b3
      refine hK _ _ B3 ?_
      clear hK K
      try simp only [Act.put, List.setIfInBounds_toArray, List.set_cons_zero, List.set_cons_succ]
      refine AnyH.one (i := 23) (by kernel_rfl) (by kernel_rfl) rfl HF (by rfl) (fun K hK => ?_)
      go_simp
      first | ((with_reducible refine And.intro ?hdep ?_); (case hdep => first | rfl | (intro h; cases h))) | skip
      refine callsIn_wide.2 ((aff_join a (joinF b c) _).mono ?_)
      rintro e u4 ⟨rfl, b4⟩
      have B4 : Below w4.heap.size w4 u4 := Below.step B3 b4
      refine hK _ _ B4 ?_
      clear hK K
      try simp only [Act.put, List.setIfInBounds_toArray, List.set_cons_zero, List.set_cons_succ]
      refine AnyH.take (i := 24) (d := some 60) (v := ?_) (by kernel_rfl) rfl rfl HF (fun _ _ _ h => h) (.inl ⟨by rfl, ?_⟩) (by first | assumption | rfl) ?_
      rotate_left
      · intro w hS; try subst hS
        go_simp; try with_reducible rfl
      try simp only [Act.put, List.setIfInBounds_toArray, List.set_cons_zero, List.set_cons_succ]
      refine AnyH.take (i := 25) (d := some 61) (v := ?_) (by kernel_rfl) rfl rfl HF (fun _ _ _ h => h) (.inl ⟨by rfl, ?_⟩) (by first | assumption | rfl) ?_
      rotate_left
      · intro w hS; try subst hS
        go_simp; try with_reducible rfl
      try simp only [Act.put, List.setIfInBounds_toArray, List.set_cons_zero, List.set_cons_succ]
      refine AnyH.take (i := 26) (d := some 62) (v := ?_) (by kernel_rfl) rfl rfl HF (fun _ _ _ h => h) (.inl ⟨by rfl, ?_⟩) (by first | assumption | rfl) ?_
      rotate_left
      · intro w hS; try subst hS
        go_simp; try with_reducible rfl
      try simp only [Act.put, List.setIfInBounds_toArray, List.set_cons_zero, List.set_cons_succ]
      refine AnyH.take (i := 27) (d := some 63) (v := ?_) (by kernel_rfl) rfl rfl HF (fun _ _ _ h => h) (.inl ⟨by rfl, ?_⟩) (by first | assumption | rfl) ?_
      rotate_left
      · intro w hS; try subst hS
        go_simp; try with_reducible rfl
      try simp only [Act.put, List.setIfInBounds_toArray, List.set_cons_zero, List.set_cons_succ]
      refine AnyH.take (i := 28) (d := some 64) (v := ?_) (by kernel_rfl) rfl rfl HF (fun _ _ _ h => h) (.inl ⟨by rfl, ?_⟩) (by first | assumption | rfl) ?_
      rotate_left
      · intro w hS; try subst hS
        go_simp; try with_reducible rfl
      try simp only [Act.put, List.setIfInBounds_toArray, List.set_cons_zero, List.set_cons_succ]
      refine AnyH.take (i := 30) (d := some 66) (v := ?_) (by kernel_rfl) rfl rfl HF (fun _ _ _ h => h) (.inl ⟨by rfl, ?_⟩) (by first | assumption | rfl) ?_
      rotate_left
      · intro w hS; try subst hS
        go_simp; try with_reducible rfl
      try simp only [Act.put, List.setIfInBounds_toArray, List.set_cons_zero, List.set_cons_succ]
      refine AnyH.take (i := 32) (d := some 68) (v := ?_) (by kernel_rfl) rfl rfl HF (fun _ _ _ h => h) (.inl ⟨by rfl, ?_⟩) (by first | assumption | rfl) ?_
      rotate_left
      · intro w hS; try subst hS
        go_simp; try with_reducible rfl
      try simp only [Act.put, List.setIfInBounds_toArray, List.set_cons_zero, List.set_cons_succ]
      refine AnyH.one (i := 29) (by kernel_rfl) (by kernel_rfl) rfl HF (by rfl) (fun K hK => ?_)
      go_simp
      first | ((with_reducible refine And.intro ?hdep ?_); (case hdep => first | rfl | (intro h; cases h))) | skip
      refine callsIn_wide.2 ((aff_unit _).mono ?_)
      rintro e u5 ⟨rfl, b5⟩
      have B5 : Below w4.heap.size w4 u5 := Below.step B4 b5
      refine hK _ _ B5 ?_
      clear hK K
      try simp only [Act.put, List.setIfInBounds_toArray, List.set_cons_zero, List.set_cons_succ]
      refine AnyH.one (i := 31) (by kernel_rfl) (by kernel_rfl) rfl HF (by rfl) (fun K hK => ?_)
      go_simp
      first | ((with_reducible refine And.intro ?hdep ?_); (case hdep => first | rfl | (intro h; cases h))) | skip
      refine callsIn_wide.2 ((aff_join F.u a _).mono ?_)
      rintro e u6 ⟨rfl, b6⟩
      rw [E2.out]
      have B6 : Below w4.heap.size w4 u6 := Below.step B5 b6
      refine hK _ _ B6 ?_
      clear hK K
      try simp only [Act.put, List.setIfInBounds_toArray, List.set_cons_zero, List.set_cons_succ]
      refine AnyH.take (i := 33) (d := some 69) (v := ?_) (by kernel_rfl) rfl rfl HF (fun _ _ _ h => h) (.inl ⟨by rfl, ?_⟩) (by first | assumption | rfl) ?_
      rotate_left
      · intro w hS; try subst hS
        go_simp; try with_reducible rfl
      try simp only [Act.put, List.setIfInBounds_toArray, List.set_cons_zero, List.set_cons_succ]
      refine AnyH.take (i := 34) (d := some 70) (v := ?_) (by kernel_rfl) rfl rfl HF (fun _ _ _ h => h) (.inl ⟨by rfl, ?_⟩) (by first | assumption | rfl) ?_
      rotate_left
      · intro w hS; try subst hS
        go_simp; try with_reducible rfl
      try simp only [Act.put, List.setIfInBounds_toArray, List.set_cons_zero, List.set_cons_succ]
      refine AnyH.take (i := 35) (d := some 71) (v := ?_) (by kernel_rfl) rfl rfl HF (fun _ _ _ h => h) (.inl ⟨by rfl, ?_⟩) (by first | assumption | rfl) ?_
      rotate_left
      · intro w hS; try subst hS
        go_simp; try with_reducible rfl
      try simp only [Act.put, List.setIfInBounds_toArray, List.set_cons_zero, List.set_cons_succ]
      refine AnyH.take (i := 36) (d := some 72) (v := ?_) (by kernel_rfl) rfl rfl HF (fun _ _ _ h => h) (.inl ⟨by rfl, ?_⟩) (by first | assumption | rfl) ?_
      rotate_left
      · intro w hS; try subst hS
        go_simp; try with_reducible rfl
      try simp only [Act.put, List.setIfInBounds_toArray, List.set_cons_zero, List.set_cons_succ]
      refine AnyH.take (i := 37) (d := some 73) (v := ?_) (by kernel_rfl) rfl rfl HF (fun _ _ _ h => h) (.inl ⟨by rfl, ?_⟩) (by first | assumption | rfl) ?_
      rotate_left
      · intro w hS; try subst hS
        go_simp; try with_reducible rfl
      try simp only [Act.put, List.setIfInBounds_toArray, List.set_cons_zero, List.set_cons_succ]
      refine AnyH.take (i := 38) (d := some 74) (v := ?_) (by kernel_rfl) rfl rfl HF (fun _ _ _ h => h) (.inl ⟨by rfl, ?_⟩) (by first | assumption | rfl) ?_
      rotate_left
      · intro w hS; try subst hS
        go_simp; try with_reducible rfl
      try simp only [Act.put, List.setIfInBounds_toArray, List.set_cons_zero, List.set_cons_succ]
      refine AnyH.take (i := 41) (d := some 77) (v := ?_) (by kernel_rfl) rfl rfl HF (fun _ _ _ h => h) (.inl ⟨by rfl, ?_⟩) (by first | assumption | rfl) ?_
      rotate_left
      · intro w hS; try subst hS
        go_simp; try with_reducible rfl
      try simp only [Act.put, List.setIfInBounds_toArray, List.set_cons_zero, List.set_cons_succ]
      refine AnyH.one (i := 39) (by kernel_rfl) (by kernel_rfl) rfl HF (by rfl) (fun K hK => ?_)
      go_simp
      first | ((with_reducible refine And.intro ?hdep ?_); (case hdep => first | rfl | (intro h; cases h))) | skip
      refine callsIn_wide.2 ((aff_unit _).mono ?_)
      rintro e u7 ⟨rfl, b7⟩
      have B7 : Below w4.heap.size w4 u7 := Below.step B6 b7
      refine hK _ _ B7 ?_
      clear hK K
      try simp only [Act.put, List.setIfInBounds_toArray, List.set_cons_zero, List.set_cons_succ]
      refine AnyH.one (i := 40) (by kernel_rfl) (by kernel_rfl) rfl HF (by rfl) (fun K hK => ?_)
      go_simp
      first | ((with_reducible refine And.intro ?hdep ?_); (case hdep => first | rfl | (intro h; cases h))) | skip
      refine callsIn_wide.2 ((aff_join a F.u _).mono ?_)
      rintro e u8 ⟨rfl, b8⟩
      rw [E3.out]
      have B8 : Below w4.heap.size w4 u8 := Below.step B7 b8
      refine hK _ _ B8 ?_
      clear hK K
      try simp only [Act.put, List.setIfInBounds_toArray, List.set_cons_zero, List.set_cons_succ]
      refine AnyH.take (i := 42) (d := some 78) (v := ?_) (by kernel_rfl) rfl rfl HF (fun _ _ _ h => h) (.inl ⟨by rfl, ?_⟩) (by first | assumption | rfl) ?_
      rotate_left
      · intro w hS; try subst hS
        go_simp; try with_reducible rfl
      try simp only [Act.put, List.setIfInBounds_toArray, List.set_cons_zero, List.set_cons_succ]
      refine AnyH.take (i := 43) (d := some 79) (v := ?_) (by kernel_rfl) rfl rfl HF (fun _ _ _ h => h) (.inl ⟨by rfl, ?_⟩) (by first | assumption | rfl) ?_
      rotate_left
      · intro w hS; try subst hS
        go_simp; try with_reducible rfl
      try simp only [Act.put, List.setIfInBounds_toArray, List.set_cons_zero, List.set_cons_succ]
      refine AnyH.take (i := 44) (d := some 10) (v := ?_) (by kernel_rfl) rfl rfl HF (fun _ _ _ h => h) (.inl ⟨by rfl, ?_⟩) (by first | assumption | rfl) ?_
      rotate_left
      · intro w hS; try subst hS
        go_simp; try with_reducible rfl
      try simp only [Act.put, List.setIfInBounds_toArray, List.set_cons_zero, List.set_cons_succ]
      refine AnyH.done (by kernel_rfl) ?_
      clear hq hq2
      go_wp2_with fail
      go_ret
      exact ⟨rfl, Below.step HB0.out (Below.step HB4.out B8)⟩
end F
end Go.Proofs.Ytpgnhnimndagpaa
