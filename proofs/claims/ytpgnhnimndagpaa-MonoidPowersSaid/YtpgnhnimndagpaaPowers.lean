/- MonoidPowers: the walk. -/
import Derived.Test.YtpgnhnimndagpaaPowers0
import Derived.Test.YtpgnhnimndagpaaPowW
import Derived.Test.YtpgnhnimndagpaaFloat
import Derived.Outline
namespace Go.Proofs.Ytpgnhnimndagpaa
open Go.RowKit
namespace P
attribute [local go_sem] Oper.semAt_some

/-- A new box of a function. -/
def BoxAt (n0 : Nat) (v : Value) (w : World) : Prop := ∃ B, v = .pointer (some ⟨B, 0, none⟩) ∧ n0 ≤ B ∧ w.heap[B]? = some (.cells #[.int .u64 0, .int .u64 0] 25 (0, 0))
def PPw (n0 : Nat) (va vb : Value) (j : Nat) (v : Value) (w : World) : Prop := match j with
  | 4 => v = va
  | 9 => v = vb
  | 10 => BoxAt n0 v w
  | 11 => BoxAt n0 v w
  | _ => True
theorem PPw.mono {n0 : Nat} {va vb : Value} (j : Nat) (v : Value) (w w' : World) (h : PPw n0 va vb j v w) (hb : Below w.heap.size w w') : PPw n0 va vb j v w' := by
  unfold PPw at *
  split at h <;> first | exact h | (obtain ⟨B, h1, h2, h3⟩ := h; exact ⟨B, h1, h2, box_below hb h3⟩)

set_option maxRecDepth 100000 in
set_option maxHeartbeats 4000000 in
theorem powers_any (W : World) (s : ByteArray) (k : Int) (f : Int × Int) (i jj : Int) (hs : s.size ≤ 9223372036854775807) (hk : -128 ≤ k ∧ k ≤ 127) (hf : inR f) (hi : 0 ≤ i ∧ i ≤ 4294967295) (hj : 0 ≤ jj ∧ jj ≤ 4294967295) :
    Calls Try.prog 3 #[.string s, .int .i8 k, .agg #[.int .u64 f.1, .int .u64 f.2], .int .u32 i, .int .u32 jj] W fun e w' => e = .returned (.bool true) ∧ Below W.heap.size W w' := by
  have HF : ∀ f, Fence.wide.fn f := fun _ => trivial
  obtain ⟨hk1, hk2⟩ := hk
  obtain ⟨hi1, hi2⟩ := hi
  obtain ⟨hj1, hj2⟩ := hj
  have HFR := Lib.hid hf; clear hf
  obtain ⟨S, hS, hS6⟩ : ∃ S : ByteArray, S = s.extract 0 (min s.size 6) ∧ S.size ≤ 6 := ⟨_, rfl, by rw [ByteArray.size_extract]; omega⟩
  obtain ⟨kk, hkk, hkk127⟩ : ∃ kk : Nat, k.toNat = kk ∧ kk ≤ 127 := ⟨_, rfl, by omega⟩
  have hc1 : ((6 : Int) < (s.size : Int) ∧ (6 : Int) ≤ (s.size : Int) ∧ s.extract 0 6 = S) ∨ (¬ (6 : Int) < (s.size : Int) ∧ (s.size : Int) ≤ 6 ∧ s = S) := by
    by_cases h : (6 : Int) < (s.size : Int)
    · exact .inl ⟨h, by omega, by rw [hS, Nat.min_eq_right (by omega)]⟩
    · exact .inr ⟨h, by omega, by rw [hS, Nat.min_eq_left (by omega)]; exact ByteArray.extract_zero_size.symm⟩
  have hc2 : (k < 0 ∧ (kk : Int) ≤ 0) ∨ k = (kk : Int) := by omega
  have HK := Lib.hid hkk
  have HSS := Lib.hid hS6
  clear hS hkk
  rcases hc1 with ⟨h6, h6', hS2⟩ | ⟨h6, h6', hS2⟩
  all_goals
    rcases hc2 with ⟨hk0, hkk0⟩ | rfl
    all_goals
      go_enter Try.func3, Try.ntmps3
      go_wp2_with fail
      refine (awake_any _).mono ?_; rintro e w1 ⟨rfl, b1⟩
      have HB1 := Lib.hid (Below.step ((Below.refl _ W).alloc (Nat.le_refl _) (.cells #[.int .u64 f.1, .int .u64 f.2] 25)) b1)
      have hN := box_below b1 (heap_new W (.cells #[.int .u64 f.1, .int .u64 f.2] 25))
      have HN := Lib.hid hN
      clear b1 hN
      go_wp2_with fail
  all_goals
    clear h6 h6' hS2
    go_loopw [11, 25] (fun x c wr => ∃ j : Nat, j ≤ kk ∧ c = .int .i64 j ∧ x = .string (pS S j) ∧ Below w1.heap.size w1 wr) (fun _ c _ => kk - (intOf c).toNat)
    case atStart => exact ⟨0, by omega, rfl, rfl, Below.refl _ _⟩
    case round =>
      obtain ⟨j, hj, rfl, rfl, hB⟩ := hrel
      have HB := Lib.hid hB; clear hB
      by_cases hlt : j < kk
      · try (exfalso; omega)
        all_goals
          have hl : (j : Int) < (kk : Int) := by omega
          have hsz : ¬ 9223372036854775807 < (pS S j).size + S.size := by
            have h1 : (pS S j).size = j * S.size := Go.Proofs.Ytpgnhnimndagpaa.W.pw_size S j
            have h2 := Nat.mul_le_mul (show j ≤ 127 by omega) HSS.out
            rw [h1]; have := HSS.out; omega
          have HW := Lib.hid (words_pow S j)
          go_wp2_with fail
          go_roundw
          case rel => exact ⟨j + 1, by omega, by go_num, by rw [HW.out], HB.out⟩
          case measure => simp [intOf]; omega
      · obtain rfl : j = kk := by omega
        first | (have hl : ¬ (j : Int) < 0 := by omega) | skip
        obtain ⟨w2, hw2⟩ : ∃ w2, wr.alloc (.cells #[] 29) = w2 := ⟨_, rfl⟩
        have hb2 : Below wr.heap.size wr w2 := by rw [← hw2]; exact (Below.refl _ _).alloc (Nat.le_refl _) _
        have hbb := Below.step HB.out hb2
        have hn2 := box_below hbb HN.out
        have k0 : ∀ w, Below w2.heap.size w2 w → w.cell? ⟨W.heap.size, 0, none⟩ = some (.int .u64 f.1) := fun w h => (box2_cell (box_below h hn2)).1
        have k1 : ∀ w, Below w2.heap.size w2 w → w.cell? ⟨W.heap.size, 1, none⟩ = some (.int .u64 f.2) := fun w h => (box2_cell (box_below h hn2)).2.1
        have HB2 := Lib.hid (Below.step HB1.out hbb)
        have HWI := Lib.hid (wrap_in (x := i) (by omega) (by omega)); have HWJ := Lib.hid (wrap_in (x := jj) (by omega) (by omega))
        clear hb2 hbb hn2
        go_wp2_with fail
        clear hw2
        have hwi := HWI.out; have hwj := HWJ.out
        have B0 : Below w2.heap.size w2 w2.drew := (Below.refl _ _).drew
        refine wp_region_anyH (Below w2.heap.size w2) (by kernel_rfl) ?_
        refine AnyH.take (i := 0) (d := some 31) (v := ?_) (by kernel_rfl) rfl rfl HF (fun _ _ _ h => h) (.inl ⟨by rfl, ?_⟩) (by first | assumption | rfl) ?_
        rotate_left
        · intro w hS; try subst hS
          go_simp; try with_reducible rfl
        try simp only [Act.put, List.setIfInBounds_toArray, List.set_cons_zero, List.set_cons_succ]
        refine AnyH.take (i := 1) (d := some 32) (v := ?_) (by kernel_rfl) rfl rfl HF (fun _ _ _ h => h) (.inl ⟨by rfl, ?_⟩) (by first | assumption | rfl) ?_
        rotate_left
        · intro w hS; try subst hS
          go_simp; try with_reducible rfl
        try simp only [Act.put, List.setIfInBounds_toArray, List.set_cons_zero, List.set_cons_succ]
        refine AnyH.take (i := 2) (d := some 33) (v := ?_) (by kernel_rfl) rfl rfl HF (fun _ _ _ h => h) (.inl ⟨by rfl, ?_⟩) (by first | assumption | rfl) ?_
        rotate_left
        · intro w hS; try subst hS
          go_simp; try with_reducible rfl
        try simp only [Act.put, List.setIfInBounds_toArray, List.set_cons_zero, List.set_cons_succ]
        refine AnyH.take (i := 3) (d := some 34) (v := ?_) (by kernel_rfl) rfl rfl HF (fun _ _ _ h => h) (.inl ⟨by rfl, ?_⟩) (by first | assumption | rfl) ?_
        rotate_left
        · intro w hS; try subst hS
          go_simp; try with_reducible rfl
        try simp only [Act.put, List.setIfInBounds_toArray, List.set_cons_zero, List.set_cons_succ]
        refine AnyH.take (i := 5) (d := some 36) (v := ?_) (by kernel_rfl) rfl rfl HF (fun _ _ _ h => h) (.inl ⟨by rfl, ?_⟩) (by first | assumption | rfl) ?_
        rotate_left
        · intro w hS; try subst hS
          go_simp; try with_reducible rfl
        try simp only [Act.put, List.setIfInBounds_toArray, List.set_cons_zero, List.set_cons_succ]
        refine AnyH.take (i := 6) (d := some 37) (v := ?_) (by kernel_rfl) rfl rfl HF (fun _ _ _ h => h) (.inl ⟨by rfl, ?_⟩) (by first | assumption | rfl) ?_
        rotate_left
        · intro w hS; try subst hS
          go_simp; try with_reducible rfl
        try simp only [Act.put, List.setIfInBounds_toArray, List.set_cons_zero, List.set_cons_succ]
        refine AnyH.take (i := 7) (d := some 38) (v := ?_) (by kernel_rfl) rfl rfl HF (fun _ _ _ h => h) (.inl ⟨by rfl, ?_⟩) (by first | assumption | rfl) ?_
        rotate_left
        · intro w hS; try subst hS
          go_simp; try with_reducible rfl
        try simp only [Act.put, List.setIfInBounds_toArray, List.set_cons_zero, List.set_cons_succ]
        refine AnyH.take (i := 8) (d := some 39) (v := ?_) (by kernel_rfl) rfl rfl HF (fun _ _ _ h => h) (.inl ⟨by rfl, ?_⟩) (by first | assumption | rfl) ?_
        rotate_left
        · intro w hS; try subst hS
          go_simp; try with_reducible rfl
        try simp only [Act.put, List.setIfInBounds_toArray, List.set_cons_zero, List.set_cons_succ]
        clear hwi hwj
        refine AnyH.floatL [4, 9, 10, 11] 12 (fun x => match x with | 9 => [4] | _ => []) (fun x => match x with | 4 => 35 | 9 => 40 | 10 => 13 | _ => 14) (PPw w2.heap.size (.agg #[.int .u64 (pw joinF F.u f i.toNat).1, .int .u64 (pw joinF F.u f i.toNat).2]) (.agg #[.int .u64 (pw joinF F.u f jj.toNat).1, .int .u64 (pw joinF F.u f jj.toNat).2])) (fun x => x == 10 || x == 11) (by kernel_rfl) (by kernel_rfl) (Nat.le_of_ble_eq_true (by kernel_rfl)) HF B0 (fun x _ v w w' h hb => PPw.mono x v w w' h hb) ?box ?step ?tail
        case box =>
          intro x hx hal v w h
          simp only [List.mem_cons, List.not_mem_nil, or_false] at hx
          rcases hx with rfl | rfl | rfl | rfl
          · cases hal
          · cases hal
          · obtain ⟨B, h1, h2, h3⟩ := h; exact ⟨B, h1, (Array.getElem?_eq_some_iff.1 h3).1⟩
          · obtain ⟨B, h1, h2, h3⟩ := h; exact ⟨B, h1, (Array.getElem?_eq_some_iff.1 h3).1⟩
        case step =>
          intro x hx vs w hS hP K hK
          simp only [List.mem_cons, List.not_mem_nil, or_false] at hx
          rcases hx with rfl | rfl | rfl | rfl
          · refine StepIn.mk rfl (by rfl) ?_
            simp only [putL, List.foldl_nil, List.foldl_cons, Act.put, List.setIfInBounds_toArray, List.set_cons_zero, List.set_cons_succ] at hK ⊢
            go_simp
            refine ⟨rfl, callsIn_wide.2 ((F.pow_any _ f i (by omega) joinF_assoc).mono ?_)⟩
            rintro e w3 ⟨rfl, b3⟩
            exact hK _ _ (Below.step hS b3) b3 rfl (fun h => absurd h (by decide))
          · refine StepIn.mk rfl (by rfl) ?_
            simp only [putL, List.foldl_nil, List.foldl_cons, Act.put, List.setIfInBounds_toArray, List.set_cons_zero, List.set_cons_succ] at hK ⊢
            go_simp
            refine ⟨rfl, callsIn_wide.2 ((F.pow_any _ f jj (by omega) joinF_assoc).mono ?_)⟩
            rintro e w3 ⟨rfl, b3⟩
            exact hK _ _ (Below.step hS b3) b3 rfl (fun h => absurd h (by decide))
          · refine StepIn.mk rfl (by rfl) ?_
            simp only [putL, List.foldl_nil, List.foldl_cons, Act.put, List.setIfInBounds_toArray, List.set_cons_zero, List.set_cons_succ] at hK ⊢
            go_simp
            exact hK _ _ (hS.alloc hS.size _) ((Below.refl _ _).alloc (Nat.le_refl _) _) ⟨_, rfl, hS.size, heap_new _ _⟩ (fun _ => rfl)
          · refine StepIn.mk rfl (by rfl) ?_
            simp only [putL, List.foldl_nil, List.foldl_cons, Act.put, List.setIfInBounds_toArray, List.set_cons_zero, List.set_cons_succ] at hK ⊢
            go_simp
            exact hK _ _ (hS.alloc hS.size _) ((Below.refl _ _).alloc (Nat.le_refl _) _) ⟨_, rfl, hS.size, heap_new _ _⟩ (fun _ => rfl)
        case tail =>
          intro vs w hS hP hD
          have h4 : vs 4 = _ := hP 4 (by simp)
          have h9 : vs 9 = _ := hP 9 (by simp)
          obtain ⟨B1, e1, l1, n1⟩ : BoxAt w2.heap.size (vs 10) w := hP 10 (by simp)
          obtain ⟨B2, e2, l2, n2⟩ : BoxAt w2.heap.size (vs 11) w := hP 11 (by simp)
          have hne : B1 ≠ B2 := fun e => hD 10 (by simp) 11 (by simp) rfl rfl (by decide) (by rw [e1, e2, e])
          clear hP hD
          simp only [putL, List.foldl_nil, List.foldl_cons, h4, h9, e1, e2, Act.put, List.setIfInBounds_toArray, List.set_cons_zero, List.set_cons_succ, List.drop_succ_cons, List.drop_zero]
          clear h4 h9 e1 e2 vs
          have HSw := Lib.hid hS; have HNE := Lib.hid hne
          obtain ⟨p, hp⟩ : ∃ p, pw joinF F.u f i.toNat = p := ⟨_, rfl⟩
          obtain ⟨q, hq⟩ : ∃ q, pw joinF F.u f jj.toNat = q := ⟨_, rfl⟩
          rw [hp, hq]
          have m2 := box2_other (C := B1) (.int .u64 p.1) (.int .u64 p.2) n2 (fun e => HNE.out e.symm)
          have m1 := box2_other (C := B2) (.int .u64 q.1) (.int .u64 q.2) (box2_set (.int .u64 p.1) (.int .u64 p.2) n1) HNE.out
          have m3 := box2_set (.int .u64 q.1) (.int .u64 q.2) m2
          obtain ⟨w5, hw5⟩ : ∃ w5, (((w.setCell ⟨B1, 0, none⟩ (.int .u64 p.1)).setCell ⟨B1, 1, none⟩ (.int .u64 p.2)).setCell ⟨B2, 0, none⟩ (.int .u64 q.1)).setCell ⟨B2, 1, none⟩ (.int .u64 q.2) = w5 := ⟨_, rfl⟩
          have hB5 : Below w2.heap.size w2 w5 := by rw [← hw5]; exact below2 _ _ (below2 _ _ hS l1) l2
          rw [hw5] at m1 m3
          obtain ⟨d0, d1, f0, f1⟩ := box2_cell n1
          obtain ⟨x0, x1, y0, y1⟩ := box2_cell m2
          have kf0 : ∀ u, Below w5.heap.size w5 u → u.cell? ⟨W.heap.size, 0, none⟩ = some (.int .u64 f.1) := fun u h => k0 u (Below.step hB5 h)
          have kf1 : ∀ u, Below w5.heap.size w5 u → u.cell? ⟨W.heap.size, 1, none⟩ = some (.int .u64 f.2) := fun u h => k1 u (Below.step hB5 h)
          have ka0 : ∀ u, Below w5.heap.size w5 u → u.cell? ⟨B1, 0, none⟩ = some (.int .u64 p.1) := fun u h => (box2_cell (box_below h m1)).1
          have ka1 : ∀ u, Below w5.heap.size w5 u → u.cell? ⟨B1, 1, none⟩ = some (.int .u64 p.2) := fun u h => (box2_cell (box_below h m1)).2.1
          have kb0 : ∀ u, Below w5.heap.size w5 u → u.cell? ⟨B2, 0, none⟩ = some (.int .u64 q.1) := fun u h => (box2_cell (box_below h m3)).1
          have kb1 : ∀ u, Below w5.heap.size w5 u → u.cell? ⟨B2, 1, none⟩ = some (.int .u64 q.2) := fun u h => (box2_cell (box_below h m3)).2.1
          have HB5 := Lib.hid (Below.step HB2.out hB5)
          have HP := Lib.hid hp; have HQ := Lib.hid hq
          clear hp hq hS hne n1 n2 m1 m2 m3 l1 l2 hB5 k0 k1 B0
          gi_wp2_with fail
          go_wp2_with fail
          clear hw5 d0 d1 f0 f1 x0 x1 y0 y1
          obtain ⟨r, hr⟩ : ∃ r, jj.tmod 1073741824 = r := ⟨_, rfl⟩
          have hr0 : 0 ≤ r ∧ r < 1073741824 := by rw [← hr, Int.tmod_eq_emod_of_nonneg hj1]; omega
          have HR := Lib.hid hr
          have hm0 : 0 ≤ i * r := Int.mul_nonneg hi1 hr0.1
          have hm1 : i * r ≤ 4294967295 * 1073741824 := Int.mul_le_mul hi2 (by omega) hr0.1 (by omega)
          have hw1 := wrap_in (x := i) (by omega) (by omega)
          have hw2 := wrap_in (x := jj) (by omega) (by omega)
          have hw3 := wrap_in (x := i + jj) (by omega) (by omega)
          have hw4 := wrap_in (x := i * r) (by omega) (by omega)
          have hw5 : ∀ x : Int, -128 ≤ x → x ≤ 127 → IntKind.i64.wrap x = x := fun x a b => wrap_in (by omega) (by omega)
          have hw6 := hw5 _ hk1 hk2
          have hw7 := wrap_in (x := r) (by omega) (by omega)
          clear hw5
          have E1 := Lib.hid (show pw joinF F.u f (i + jj).toNat = joinF p q by rw [show (i + jj).toNat = i.toNat + jj.toNat by omega, pow_sum HFR.out, HP.out, HQ.out])
          have E2 := Lib.hid (show pw joinF F.u f (i * r).toNat = pw joinF F.u p r.toNat by rw [Int.toNat_mul hi1 hr0.1, ← HP.out, pow_prod])
          have B0 : Below w5.heap.size w5 w5.drew := (Below.refl _ _).drew
          refine wp_region_anyH (Below w5.heap.size w5) (by kernel_rfl) ?_
          refine AnyH.take (i := 0) (d := some 41) (v := ?_) (by kernel_rfl) rfl rfl HF (fun _ _ _ h => h) (.inl ⟨by rfl, ?_⟩) (by first | assumption | rfl) ?_
          rotate_left
          · intro w hS; try subst hS
            go_simp; try with_reducible rfl
          try simp only [Act.put, List.setIfInBounds_toArray, List.set_cons_zero, List.set_cons_succ]
          refine AnyH.take (i := 1) (d := some 42) (v := ?_) (by kernel_rfl) rfl rfl HF (fun _ _ _ h => h) (.inl ⟨by rfl, ?_⟩) (by first | assumption | rfl) ?_
          rotate_left
          · intro w hS; try subst hS
            go_simp; try with_reducible rfl
          try simp only [Act.put, List.setIfInBounds_toArray, List.set_cons_zero, List.set_cons_succ]
          refine AnyH.take (i := 2) (d := some 43) (v := ?_) (by kernel_rfl) rfl rfl HF (fun _ _ _ h => h) (.inl ⟨by rfl, ?_⟩) (by first | assumption | rfl) ?_
          rotate_left
          · intro w hS; try subst hS
            go_simp; try with_reducible rfl
          try simp only [Act.put, List.setIfInBounds_toArray, List.set_cons_zero, List.set_cons_succ]
          refine AnyH.take (i := 3) (d := some 44) (v := ?_) (by kernel_rfl) rfl rfl HF (fun _ _ _ h => h) (.inl ⟨by rfl, ?_⟩) (by first | assumption | rfl) ?_
          rotate_left
          · intro w hS; try subst hS
            go_simp; try with_reducible rfl
          try simp only [Act.put, List.setIfInBounds_toArray, List.set_cons_zero, List.set_cons_succ]
          refine AnyH.take (i := 5) (d := some 46) (v := ?_) (by kernel_rfl) rfl rfl HF (fun _ _ _ h => h) (.inl ⟨by rfl, ?_⟩) (by first | assumption | rfl) ?_
          rotate_left
          · intro w hS; try subst hS
            go_simp; try with_reducible rfl
          try simp only [Act.put, List.setIfInBounds_toArray, List.set_cons_zero, List.set_cons_succ]
          refine AnyH.one (i := 4) (by kernel_rfl) (by kernel_rfl) rfl HF (by rfl) (fun K hK => ?_)
          go_simp
          first | ((with_reducible refine And.intro ?hdep ?_); (case hdep => first | rfl | (intro h; cases h))) | skip
          refine callsIn_wide.2 ((Go.Proofs.Ytpgnhnimndagpaa.W.pow_any _ S _ (by omega) (by rw [HK.out]; have := HSS.out; have := Nat.mul_le_mul hkk127 HSS.out; omega)).mono ?_)
          rintro e u1 ⟨rfl, b1⟩
          rw [HK.out]
          have B1 : Below w5.heap.size w5 u1 := Below.step B0 b1
          refine hK _ _ B1 ?_
          clear hK K
          try simp only [Act.put, List.setIfInBounds_toArray, List.set_cons_zero, List.set_cons_succ]
          refine AnyH.take (i := 6) (d := some 47) (v := ?_) (by kernel_rfl) rfl rfl HF (fun _ _ _ h => h) (.inl ⟨by rfl, ?_⟩) (by first | assumption | rfl) ?_
          rotate_left
          · intro w hS; try subst hS
            go_simp; try with_reducible rfl
          try simp only [Act.put, List.setIfInBounds_toArray, List.set_cons_zero, List.set_cons_succ]
          refine AnyH.take (i := 7) (d := some 48) (v := ?_) (by kernel_rfl) rfl rfl HF (fun _ _ _ h => h) (.inl ⟨by rfl, ?_⟩) (by first | assumption | rfl) ?_
          rotate_left
          · intro w hS; try subst hS
            go_simp; try with_reducible rfl
          try simp only [Act.put, List.setIfInBounds_toArray, List.set_cons_zero, List.set_cons_succ]
          refine AnyH.take (i := 8) (d := some 49) (v := ?_) (by kernel_rfl) rfl rfl HF (fun _ _ _ h => h) (.inl ⟨by rfl, ?_⟩) (by first | assumption | rfl) ?_
          rotate_left
          · intro w hS; try subst hS
            go_simp; try with_reducible rfl
          try simp only [Act.put, List.setIfInBounds_toArray, List.set_cons_zero, List.set_cons_succ]
          refine AnyH.take (i := 9) (d := some 50) (v := ?_) (by kernel_rfl) rfl rfl HF (fun _ _ _ h => h) (.inl ⟨by rfl, ?_⟩) (by first | assumption | rfl) ?_
          rotate_left
          · intro w hS; try subst hS
            go_simp; try with_reducible rfl
          try simp only [Act.put, List.setIfInBounds_toArray, List.set_cons_zero, List.set_cons_succ]
          refine AnyH.take (i := 10) (d := some 51) (v := ?_) (by kernel_rfl) rfl rfl HF (fun _ _ _ h => h) (.inl ⟨by rfl, ?_⟩) (by first | assumption | rfl) ?_
          rotate_left
          · intro w hS; try subst hS
            go_simp; try with_reducible rfl
          try simp only [Act.put, List.setIfInBounds_toArray, List.set_cons_zero, List.set_cons_succ]
          refine AnyH.take (i := 11) (d := some 52) (v := ?_) (by kernel_rfl) rfl rfl HF (fun _ _ _ h => h) (.inl ⟨by rfl, ?_⟩) (by first | assumption | rfl) ?_
          rotate_left
          · intro w hS; try subst hS
            go_simp; try with_reducible rfl
          try simp only [Act.put, List.setIfInBounds_toArray, List.set_cons_zero, List.set_cons_succ]
          refine AnyH.take (i := 12) (d := some 53) (v := ?_) (by kernel_rfl) rfl rfl HF (fun _ _ _ h => h) (.inl ⟨by rfl, ?_⟩) (by first | assumption | rfl) ?_
          rotate_left
          · intro w hS; try subst hS
            go_simp; try with_reducible rfl
          try simp only [Act.put, List.setIfInBounds_toArray, List.set_cons_zero, List.set_cons_succ]
          refine AnyH.take (i := 13) (d := some 54) (v := ?_) (by kernel_rfl) rfl rfl HF (fun _ _ _ h => h) (.inl ⟨by rfl, ?_⟩) (by first | assumption | rfl) ?_
          rotate_left
          · intro w hS; try subst hS
            go_simp; try with_reducible rfl
          try simp only [Act.put, List.setIfInBounds_toArray, List.set_cons_zero, List.set_cons_succ]
          refine AnyH.take (i := 14) (d := some 55) (v := ?_) (by kernel_rfl) rfl rfl HF (fun _ _ _ h => h) (.inl ⟨by rfl, ?_⟩) (by first | assumption | rfl) ?_
          rotate_left
          · intro w hS; try subst hS
            go_simp; try with_reducible rfl
          try simp only [Act.put, List.setIfInBounds_toArray, List.set_cons_zero, List.set_cons_succ]
          refine AnyH.take (i := 16) (d := some 57) (v := ?_) (by kernel_rfl) rfl rfl HF (fun _ _ _ h => h) (.inl ⟨by rfl, ?_⟩) (by first | assumption | rfl) ?_
          rotate_left
          · intro w hS; try subst hS
            go_simp; try with_reducible rfl
          try simp only [Act.put, List.setIfInBounds_toArray, List.set_cons_zero, List.set_cons_succ]
          refine AnyH.take (i := 17) (d := some 58) (v := ?_) (by kernel_rfl) rfl rfl HF (fun _ _ _ h => h) (.inl ⟨by rfl, ?_⟩) (by first | assumption | rfl) ?_
          rotate_left
          · intro w hS; try subst hS
            go_simp; try with_reducible rfl
          try simp only [Act.put, List.setIfInBounds_toArray, List.set_cons_zero, List.set_cons_succ]
          refine AnyH.take (i := 18) (d := some 59) (v := ?_) (by kernel_rfl) rfl rfl HF (fun _ _ _ h => h) (.inl ⟨by rfl, ?_⟩) (by first | assumption | rfl) ?_
          rotate_left
          · intro w hS; try subst hS
            go_simp; try with_reducible rfl
          try simp only [Act.put, List.setIfInBounds_toArray, List.set_cons_zero, List.set_cons_succ]
          refine AnyH.one (i := 15) (by kernel_rfl) (by kernel_rfl) rfl HF (by rfl) (fun K hK => ?_)
          go_simp
          first | ((with_reducible refine And.intro ?hdep ?_); (case hdep => first | rfl | (intro h; cases h))) | skip
          refine callsIn_wide.2 ((F.pow_any _ f (i + jj) (by omega) joinF_assoc).mono ?_)
          rintro e u2 ⟨rfl, b2⟩
          rw [E1.out]
          have B2 : Below w5.heap.size w5 u2 := Below.step B1 b2
          refine hK _ _ B2 ?_
          clear hK K
          try simp only [Act.put, List.setIfInBounds_toArray, List.set_cons_zero, List.set_cons_succ]
          refine AnyH.one (i := 19) (by kernel_rfl) (by kernel_rfl) rfl HF (by rfl) (fun K hK => ?_)
          go_simp
          first | ((with_reducible refine And.intro ?hdep ?_); (case hdep => first | rfl | (intro h; cases h))) | skip
          refine callsIn_wide.2 ((aff_join p q _).mono ?_)
          rintro e u3 ⟨rfl, b3⟩
          have B3 : Below w5.heap.size w5 u3 := Below.step B2 b3
          refine hK _ _ B3 ?_
          clear hK K
          try simp only [Act.put, List.setIfInBounds_toArray, List.set_cons_zero, List.set_cons_succ]
          refine AnyH.take (i := 20) (d := some 61) (v := ?_) (by kernel_rfl) rfl rfl HF (fun _ _ _ h => h) (.inl ⟨by rfl, ?_⟩) (by first | assumption | rfl) ?_
          rotate_left
          · intro w hS; try subst hS
            go_simp; try with_reducible rfl
          try simp only [Act.put, List.setIfInBounds_toArray, List.set_cons_zero, List.set_cons_succ]
          refine AnyH.take (i := 21) (d := some 62) (v := ?_) (by kernel_rfl) rfl rfl HF (fun _ _ _ h => h) (.inl ⟨by rfl, ?_⟩) (by first | assumption | rfl) ?_
          rotate_left
          · intro w hS; try subst hS
            go_simp; try with_reducible rfl
          try simp only [Act.put, List.setIfInBounds_toArray, List.set_cons_zero, List.set_cons_succ]
          refine AnyH.take (i := 22) (d := some 63) (v := ?_) (by kernel_rfl) rfl rfl HF (fun _ _ _ h => h) (.inl ⟨by rfl, ?_⟩) (by first | assumption | rfl) ?_
          rotate_left
          · intro w hS; try subst hS
            go_simp; try with_reducible rfl
          try simp only [Act.put, List.setIfInBounds_toArray, List.set_cons_zero, List.set_cons_succ]
          refine AnyH.take (i := 23) (d := some 64) (v := ?_) (by kernel_rfl) rfl rfl HF (fun _ _ _ h => h) (.inl ⟨by rfl, ?_⟩) (by first | assumption | rfl) ?_
          rotate_left
          · intro w hS; try subst hS
            go_simp; try with_reducible rfl
          try simp only [Act.put, List.setIfInBounds_toArray, List.set_cons_zero, List.set_cons_succ]
          refine AnyH.take (i := 24) (d := some 65) (v := ?_) (by kernel_rfl) rfl rfl HF (fun _ _ _ h => h) (.inl ⟨by rfl, ?_⟩) (by first | assumption | rfl) ?_
          rotate_left
          · intro w hS; try subst hS
            go_simp; try with_reducible rfl
          try simp only [Act.put, List.setIfInBounds_toArray, List.set_cons_zero, List.set_cons_succ]
          refine AnyH.take (i := 25) (d := some 66) (v := ?_) (by kernel_rfl) rfl rfl HF (fun _ _ _ h => h) (.inl ⟨by rfl, ?_⟩) (by first | assumption | rfl) ?_
          rotate_left
          · intro w hS; try subst hS
            go_simp; try with_reducible rfl
          try simp only [Act.put, List.setIfInBounds_toArray, List.set_cons_zero, List.set_cons_succ]
          refine AnyH.take (i := 26) (d := some 67) (v := ?_) (by kernel_rfl) rfl rfl HF (fun _ _ _ h => h) (.inl ⟨by rfl, ?_⟩) (by first | assumption | rfl) ?_
          rotate_left
          · intro w hS; try subst hS
            go_simp; try with_reducible rfl
          try simp only [Act.put, List.setIfInBounds_toArray, List.set_cons_zero, List.set_cons_succ]
          refine AnyH.take (i := 27) (d := some 68) (v := ?_) (by kernel_rfl) rfl rfl HF (fun _ _ _ h => h) (.inl ⟨by rfl, ?_⟩) (by first | assumption | rfl) ?_
          rotate_left
          · intro w hS; try subst hS
            go_simp; try with_reducible rfl
          try simp only [Act.put, List.setIfInBounds_toArray, List.set_cons_zero, List.set_cons_succ]
          refine AnyH.take (i := 29) (d := some 70) (v := ?_) (by kernel_rfl) rfl rfl HF (fun _ _ _ h => h) (.inl ⟨by rfl, ?_⟩) (by first | assumption | rfl) ?_
          rotate_left
          · intro w hS; try subst hS
            go_simp; try with_reducible rfl
          try simp only [Act.put, List.setIfInBounds_toArray, List.set_cons_zero, List.set_cons_succ]
          refine AnyH.take (i := 30) (d := some 71) (v := ?_) (by kernel_rfl) rfl rfl HF (fun _ _ _ h => h) (.inl ⟨by rfl, ?_⟩) (by first | assumption | rfl) ?_
          rotate_left
          · intro w hS; try subst hS
            go_simp; try with_reducible rfl
          try simp only [Act.put, List.setIfInBounds_toArray, List.set_cons_zero, List.set_cons_succ]
          refine AnyH.take (i := 31) (d := some 72) (v := ?_) (by kernel_rfl) rfl rfl HF (fun _ _ _ h => h) (.inl ⟨by rfl, ?_⟩) (by first | assumption | rfl) ?_
          rotate_left
          · intro w hS; try subst hS
            go_simp; try with_reducible rfl
          try simp only [Act.put, List.setIfInBounds_toArray, List.set_cons_zero, List.set_cons_succ]
          refine AnyH.take (i := 32) (d := some 73) (v := ?_) (by kernel_rfl) rfl rfl HF (fun _ _ _ h => h) (.inl ⟨by rfl, ?_⟩) (by first | assumption | rfl) ?_
          rotate_left
          · intro w hS; try subst hS
            go_simp; try with_reducible rfl
          try simp only [Act.put, List.setIfInBounds_toArray, List.set_cons_zero, List.set_cons_succ]
          refine AnyH.take (i := 33) (d := some 74) (v := ?_) (by kernel_rfl) rfl rfl HF (fun _ _ _ h => h) (.inl ⟨by rfl, ?_⟩) (by first | assumption | rfl) ?_
          rotate_left
          · intro w hS; try subst hS
            go_simp; try with_reducible rfl
          try simp only [Act.put, List.setIfInBounds_toArray, List.set_cons_zero, List.set_cons_succ]
          refine AnyH.take (i := 34) (d := some 75) (v := ?_) (by kernel_rfl) rfl rfl HF (fun _ _ _ h => h) (.inl ⟨by rfl, ?_⟩) (by first | assumption | rfl) ?_
          rotate_left
          · intro w hS; try subst hS
            go_simp; try with_reducible rfl
          try simp only [Act.put, List.setIfInBounds_toArray, List.set_cons_zero, List.set_cons_succ]
          refine AnyH.take (i := 35) (d := some 76) (v := ?_) (by kernel_rfl) rfl rfl HF (fun _ _ _ h => h) (.inl ⟨by rfl, ?_⟩) (by first | assumption | rfl) ?_
          rotate_left
          · intro w hS; try subst hS
            go_simp; try with_reducible rfl
          try simp only [Act.put, List.setIfInBounds_toArray, List.set_cons_zero, List.set_cons_succ]
          refine AnyH.take (i := 36) (d := some 77) (v := ?_) (by kernel_rfl) rfl rfl HF (fun _ _ _ h => h) (.inl ⟨by rfl, ?_⟩) (by first | assumption | rfl) ?_
          rotate_left
          · intro w hS; try subst hS
            go_simp; try with_reducible rfl
          try simp only [Act.put, List.setIfInBounds_toArray, List.set_cons_zero, List.set_cons_succ]
          refine AnyH.one (i := 28) (by kernel_rfl) (by kernel_rfl) rfl HF (by rfl) (fun K hK => ?_)
          go_simp
          first | ((with_reducible refine And.intro ?hdep ?_); (case hdep => first | rfl | (intro h; cases h))) | skip
          refine callsIn_wide.2 ((F.pow_any _ p r (by omega) joinF_assoc).mono ?_)
          rintro e u4 ⟨rfl, b4⟩
          have B4 : Below w5.heap.size w5 u4 := Below.step B3 b4
          refine hK _ _ B4 ?_
          clear hK K
          try simp only [Act.put, List.setIfInBounds_toArray, List.set_cons_zero, List.set_cons_succ]
          refine AnyH.one (i := 37) (by kernel_rfl) (by kernel_rfl) rfl HF (by rfl) (fun K hK => ?_)
          go_simp
          first | ((with_reducible refine And.intro ?hdep ?_); (case hdep => first | rfl | (intro h; cases h))) | skip
          refine callsIn_wide.2 ((F.pow_any _ f (i * r) (by omega) joinF_assoc).mono ?_)
          rintro e u5 ⟨rfl, b5⟩
          rw [E2.out]
          have B5 : Below w5.heap.size w5 u5 := Below.step B4 b5
          refine hK _ _ B5 ?_
          clear hK K
          try simp only [Act.put, List.setIfInBounds_toArray, List.set_cons_zero, List.set_cons_succ]
          refine AnyH.take (i := 38) (d := some 79) (v := ?_) (by kernel_rfl) rfl rfl HF (fun _ _ _ h => h) (.inl ⟨by rfl, ?_⟩) (by first | assumption | rfl) ?_
          rotate_left
          · intro w hS; try subst hS
            go_simp; try with_reducible rfl
          try simp only [Act.put, List.setIfInBounds_toArray, List.set_cons_zero, List.set_cons_succ]
          refine AnyH.take (i := 39) (d := some 80) (v := ?_) (by kernel_rfl) rfl rfl HF (fun _ _ _ h => h) (.inl ⟨by rfl, ?_⟩) (by first | assumption | rfl) ?_
          rotate_left
          · intro w hS; try subst hS
            go_simp; try with_reducible rfl
          try simp only [Act.put, List.setIfInBounds_toArray, List.set_cons_zero, List.set_cons_succ]
          refine AnyH.take (i := 40) (d := some 10) (v := ?_) (by kernel_rfl) rfl rfl HF (fun _ _ _ h => h) (.inl ⟨by rfl, ?_⟩) (by first | assumption | rfl) ?_
          rotate_left
          · intro w hS; try subst hS
            go_simp; try with_reducible rfl
          try simp only [Act.put, List.setIfInBounds_toArray, List.set_cons_zero, List.set_cons_succ]
          refine AnyH.done (by kernel_rfl) ?_
          clear hw1 hw2 hw3 hw4 hw6 hw7 hr
          go_wp2_with fail
          go_ret
          exact ⟨rfl, Below.step HB5.out B5⟩
end P
end Go.Proofs.Ytpgnhnimndagpaa
