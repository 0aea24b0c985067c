/- Window where an element takes one cell. -/
import Derived.Test.YtpgnhnimndagpaaJoins
import Derived.Test.YtpgnhnimndagpaaArr
import Derived.Test.YtpgnhnimndagpaaSegs
import Derived.Test.YtpgnhnimndagpaaOwn
import Derived.Test.YtpgnhnimndagpaaTail
import Derived.Outline
namespace Go.Proofs.Ytpgnhnimndagpaa
open Go.RowKit
namespace X
attribute [local go_sem] Oper.semAt_some

set_option maxRecDepth 100000 in
set_option maxHeartbeats 1000000 in
/-- No window has so many elements. -/
theorem win_none {W : World} {v : Value} {L : List Int} (hL : RowAt (Value.int .i64) W v L) (hn : L.length ≤ 1000000) {n : Int} (h : n < 1 ∨ (L.length : Int) < n) :
    Calls Try.prog 39 #[.agg #[], v, .int .i64 n] W fun e w' => e = .returned (.slice none 0 0) ∧ Below W.heap.size W w' := by
  obtain ⟨a, cap, rfl, -, -, -⟩ := hL
  have hmf : ∀ (fn : Fn) (first cap : Array Value) (w : World), (Instr.makeFunc fn first cap).run Try.prog w = .ok (.func fn first cap) w := fun _ _ _ _ => rfl
  have e1 : ((W.alloc (.cells #[] 46)).alloc (.cells #[.slice none 0 0] 40)).heap[W.heap.size + 1]? = some (.cells #[.slice none 0 0] 40 (0, 0)) := heap_new1 _ _ _
  have b1 : Below W.heap.size W ((W.alloc (.cells #[] 46)).alloc (.cells #[.slice none 0 0] 40)) := ((Below.refl _ W).alloc (Nat.le_refl _) _).alloc (by simp) _
  have HE := Lib.hid e1
  have HB := Lib.hid b1
  clear e1 b1
  by_cases h1 : n < 1
  all_goals
    have h2 : n < 1 ∨ (L.length : Int) < n := h
    have h3 : ¬ n < 1 → (L.length : Int) < n := by omega
    first | (have h4 : (L.length : Int) < n := h3 h1) | skip
    clear h h2 h3
    go_enter_defers Try.func39, Try.ntmps39
    go_wp2_with fail
    refine leaves_cons (f := 59) (args := #[.pointer (some ⟨W.heap.size + 1, 0, none⟩)]) (by simp) (by simp [go_sem]) ?_
    refine (catch59 ⟨W.heap.size + 1, 0, none⟩ _).mono ?_
    rintro e u' w'' ⟨rfl, rfl, rfl⟩
    simp only [Leaves, settle, results, Try.results39]
    have c5 := box_cell HE.out; have hB := HB.out
    simp [go_sem, c5]
    exact hB

/-- The result's box. -/
def BX (W w : World) (v : Value) : Prop := w.heap[W.heap.size + 1]? = some (.cells #[v] 40 (0, 0)) ∧ Below W.heap.size W w
theorem BX.below {W A C : World} {v : Value} (h : BX W A v) (hb : Below A.heap.size A C) : BX W C v := ⟨box_below hb h.1, Below.step h.2 hb⟩
theorem BX.other {W A : World} {v : Value} (h : BX W A v) {a : Addr} (x : Value) (ha : W.heap.size + 1 < a.block) : BX W (A.setCell a x) v := ⟨box_other x h.1 (by omega), h.2.setCell (by omega) _⟩

set_option maxRecDepth 100000 in
set_option maxHeartbeats 4000000 in
theorem win_any {W : World} {v : Value} {L : List Int} (hL : RowAt (Value.int .i64) W v L) (hn : L.length ≤ 1000000) {n : Nat} (h1 : 1 ≤ n) (h2 : n ≤ L.length) (ha : ∀ x y z, (maxI) ((maxI) x y) z = (maxI) x ((maxI) y z)) (hJ : ∀ a b c, a < b → b < c → c ≤ L.length → (fun _ _ : Int => True) (seg (maxI) (-9223372036854775808) L a b) (seg (maxI) (-9223372036854775808) L b c)) :
    Calls Try.prog 39 #[.agg #[], v, .int .i64 n] W fun e w' => ∃ r, e = .returned r ∧ RowAt (Value.int .i64) w' r ((List.range (L.length - n + 1)).map (winF (maxI) (-9223372036854775808) L n)) ∧ Below W.heap.size W w' := by
  obtain ⟨a, cap, rfl, hc1, hc2, hcells⟩ := hL
  unfold maxLen at hc2
  have hmf : ∀ (fn : Fn) (first cap : Array Value) (w : World), (Instr.makeFunc fn first cap).run Try.prog w = .ok (.func fn first cap) w := fun _ _ _ _ => rfl
  have hmJ : ∀ w : World, (method 206 46 (.agg #[]) "Join").run Try.prog w = .ok (79, .agg #[]) w := fun _ => by kernel_rfl
  have hmk0 : ∀ (m : Nat), m ≤ 1000000 → ∀ w : World, (Instr.makeSlice 40 (.int .i64 (m : Int)) (.int .i64 (m : Int))).run Try.prog w = .ok (.slice (some ⟨w.heap.size, 0, none⟩) m m) (w.alloc (.cells (madeCells #[Value.int .i64 0] m) 3)) := fun m hm w => by
    have h := mk_run (P := Try.prog) (t := 40) (e := 3) (z := Value.int .i64 0) (size := 1) (bytes := 8) (by kernel_rfl) (by kernel_rfl) m m (by omega) (by omega) (by omega) w
    have hz : (Value.int .i64 0).cells = #[Value.int .i64 0] := rfl
    rw [hz] at h
    simpa using h
  have HM := Lib.hid hcells; have HJ := Lib.hid hJ; have HA := Lib.hid ha; have HMK := Lib.hid hmk0; have hmk := hmk0 L.length hn
  clear hcells hJ ha hmk0
  have hi1 : ¬ (n : Int) < 1 := by omega
  have hi2 : ¬ (L.length : Int) < (n : Int) := by omega
  have hi3 : decide ((L.length : Int) < (n : Int)) = false := decide_eq_false hi2
  have hi4 : ((n : Int) == 0) = false := by simp; omega
  have hi5 : (n : Int) ≠ 0 := by omega
  obtain ⟨W0, hW0⟩ : ∃ W0, (((W.alloc (.cells #[] 46)).alloc (.cells #[.slice none 0 0] 40)).alloc (.cells (madeCells #[Value.int .i64 0] L.length) 3)) = W0 := ⟨_, rfl⟩
  have hB0 : BX W W0 (.slice none 0 0) := by
    rw [← hW0]
    exact ⟨(Below.heap_alloc _ _ _ (by simp)).trans (heap_new1 _ _ _), (((Below.refl _ W).alloc (Nat.le_refl _) _).alloc (by simp) _).alloc (by simp; omega) _⟩
  have hA0 : Arr (Value.int .i64) 3 W0 (W.heap.size + 1 + 1) L.length (fun _ => False) (frontF (maxI) (-9223372036854775808) L n) := by
    rw [← hW0]
    have := Arr.made ((W.alloc (.cells #[] 46)).alloc (.cells #[.slice none 0 0] 40)) (Value.int .i64 0) L.length 3 (Value.int .i64) (frontF (maxI) (-9223372036854775808) L n)
    simpa using this
  have HB0 := Lib.hid hB0; have HA0 := Lib.hid hA0
  clear hB0 hA0
  go_enter_defers Try.func39, Try.ntmps39
  go_wp2_with fail
  clear hW0 hi1 hi2 hi3
  go_loopw [27] (fun c wr => ∃ j : Nat, j ≤ L.length ∧ c = .int .i64 j ∧ BX W wr (.slice none 0 0) ∧ Arr (Value.int .i64) 3 wr (W.heap.size + 1 + 1) L.length (· < j) (frontF (maxI) (-9223372036854775808) L n)) (fun c _ => L.length - (intOf c).toNat)
  case atStart => exact ⟨0, by omega, rfl, HB0.out, HA0.out.dom (fun i _ h => by omega)⟩
  case round =>
    obtain ⟨j, hj, rfl, hB, hA⟩ := hrel
    have HB := Lib.hid hB; have HA1 := Lib.hid hA
    clear hB hA HB0 HA0
    by_cases hlt : j < L.length
    · have hl3 : (j : Int) < (L.length : Int) := by omega
      have hl4 : (0 : Int) ≤ (j : Int) := by omega
      obtain ⟨b, hb, m1⟩ := HM.out j hlt
      subst hb
      have m1 : wr.cell? (b.add j) = some (Value.int .i64 L[j]) := cell_below m1 HB.out.2
      obtain ⟨uc, hu⟩ := HA1.out.held hlt
      have hfz := HA1.out.free j
      by_cases h0 : j % n = 0
      · have HFS := Lib.hid (front_start (f := maxI) (u := -9223372036854775808) h0 hlt)
        have h0' : (j : Int) % (n : Int) = 0 := by exact_mod_cast h0
        go_wp2_with fail
        go_roundw
        case rel => exact ⟨j + 1, by omega, by go_num, HB.out.other _ (by simp), HA1.out.set (by rw [HFS.out]) (fun k hk hk2 => by omega)⟩
        case measure => simp [intOf]; omega
      · obtain ⟨i, rfl⟩ : ∃ i, j = i + 1 := by
          cases j with
          | zero => exact absurd (Nat.zero_mod n) h0
          | succ i => exact ⟨i, rfl⟩
        have HFS := Lib.hid (front_next (f := maxI) (u := -9223372036854775808) (by omega) h0 hlt)
        have h0' : ¬ (((i : Int) + 1) % (n : Int) = 0) := by exact_mod_cast h0
        have hl5 : (i : Int) + 1 < (L.length : Int) := by omega
        have hl6 : (0 : Int) ≤ (i : Int) := by omega
        have hl7 : (i : Int) < (L.length : Int) := by omega
        have kE : ∀ w, Below wr.heap.size wr w → w.cell? ⟨W.heap.size + 1 + 1, i, none⟩ = some (Value.int .i64 (frontF (maxI) (-9223372036854775808) L n i)) := fun w h => (HA1.out.below h).cell (by omega) (by omega)
        have hs : (fun _ _ : Int => True) (frontF (maxI) (-9223372036854775808) L n i) L[i + 1] := by
          first
          | exact True.intro
          | (have h4 := mod_next (by omega) h0
             have h5 : i % n ≤ i := Nat.mod_le _ _
             have := HJ.out (i - i % n) (i + 1) (i + 1 + 1) (by omega) (by omega) (by omega)
             rwa [seg_one hlt] at this)
        have m2 : wr.cell? ⟨b.block, b.off + (i + 1), none⟩ = some (Value.int .i64 L[i + 1]) := by
          have h := m1
          unfold Addr.add at h
          simpa using h
        clear hl3 hl4 m1
        go_wp2_with fail
        have B0 : Below wr.heap.size wr wr.drew := (Below.refl _ _).drew
        have HF : ∀ f, Fence.wide.fn f := fun _ => trivial
        have hw1 : IntKind.i64.wrap (i : Int) = (i : Int) := wrap_in (by omega) (by omega)
        refine wp_region_anyNP (Below wr.heap.size wr) (by kernel_rfl) ?_
        refine AnyH.take (i := 0) (d := some 36) (v := ?_) (by kernel_rfl) rfl rfl HF (fun _ _ _ h => h) (.inl ⟨by rfl, ?_⟩) (by first | assumption | rfl) ?_
        rotate_left
        · intro w hS; try subst hS
          go_simp; try with_reducible rfl
        try simp only [Act.put, List.setIfInBounds_toArray, List.set_cons_zero, List.set_cons_succ]
        refine AnyH.take (i := 1) (d := some 37) (v := ?_) (by kernel_rfl) rfl rfl HF (fun _ _ _ h => h) (.inl ⟨by rfl, ?_⟩) (by first | assumption | rfl) ?_
        rotate_left
        · intro w hS; try subst hS
          go_simp; try with_reducible rfl
        try simp only [Act.put, List.setIfInBounds_toArray, List.set_cons_zero, List.set_cons_succ]
        refine AnyH.take (i := 2) (d := some 38) (v := ?_) (by kernel_rfl) rfl rfl HF (fun _ _ _ h => h) (.inl ⟨by rfl, ?_⟩) (by first | assumption | rfl) ?_
        rotate_left
        · intro w hS; try subst hS
          go_simp; try with_reducible rfl
        try simp only [Act.put, List.setIfInBounds_toArray, List.set_cons_zero, List.set_cons_succ]
        refine AnyH.take (i := 3) (d := some 39) (v := ?_) (by kernel_rfl) rfl rfl HF (fun _ _ _ h => h) (.inl ⟨by rfl, ?_⟩) (by first | assumption | rfl) ?_
        rotate_left
        · intro w hS; try subst hS
          go_simp; try with_reducible rfl
        try simp only [Act.put, List.setIfInBounds_toArray, List.set_cons_zero, List.set_cons_succ]
        refine AnyH.take (i := 4) (d := some 40) (v := ?_) (by kernel_rfl) rfl rfl HF (fun _ _ _ h => h) (.inl ⟨by rfl, ?_⟩) (by first | assumption | rfl) ?_
        rotate_left
        · intro w hS; try subst hS
          go_simp; try with_reducible rfl
        try simp only [Act.put, List.setIfInBounds_toArray, List.set_cons_zero, List.set_cons_succ]
        refine AnyH.take (i := 5) (d := some 41) (v := ?_) (by kernel_rfl) rfl rfl HF (fun _ _ _ h => h) (.inl ⟨by rfl, ?_⟩) (by first | assumption | rfl) ?_
        rotate_left
        · intro w hS; try subst hS
          go_simp; try with_reducible rfl
        try simp only [Act.put, List.setIfInBounds_toArray, List.set_cons_zero, List.set_cons_succ]
        refine AnyH.take (i := 6) (d := some 42) (v := ?_) (by kernel_rfl) rfl rfl HF (fun _ _ _ h => h) (.inl ⟨by rfl, ?_⟩) (by first | assumption | rfl) ?_
        rotate_left
        · intro w hS; try subst hS
          go_simp; try with_reducible rfl
        try simp only [Act.put, List.setIfInBounds_toArray, List.set_cons_zero, List.set_cons_succ]
        refine AnyH.take (i := 7) (d := some 43) (v := ?_) (by kernel_rfl) rfl rfl HF (fun _ _ _ h => h) (.inl ⟨by rfl, ?_⟩) (by first | assumption | rfl) ?_
        rotate_left
        · intro w hS; try subst hS
          go_simp; try with_reducible rfl
        try simp only [Act.put, List.setIfInBounds_toArray, List.set_cons_zero, List.set_cons_succ]
        refine AnyH.tailL 8 (by kernel_rfl) ?_
        simp only [List.drop_succ_cons, List.drop_zero]
        clear hw1
        gi_wp2_with fail
        refine ⟨rfl, callsIn_wide.2 ((max_join _ _ _).mono ?_)⟩
        rintro e w4 ⟨rfl, b4⟩
        have b4 := Below.step B0 b4
        rw [← HFS.out]
        gi_wp2_with fail
        refine NP.normal ?_
        have HB4 := Lib.hid (HB.out.below b4); have HA4 := Lib.hid (HA1.out.below b4)
        obtain ⟨uc, hu⟩ := HA4.out.held hlt
        have hfz := HA4.out.free (i + 1)
        clear b4 B0 kE hs h0 h0' HB HA1 m2
        go_wp2_with fail
        go_roundw
        case rel => exact ⟨i + 1 + 1, by omega, by go_num, HB4.out.other _ (by simp), HA4.out.set rfl (fun k hk hk2 => by omega)⟩
        case measure => simp [intOf]; omega
    · obtain rfl : j = L.length := by omega
      have HB2 : Hid (BX W (wr.alloc (.cells (madeCells #[Value.int .i64 0] L.length) 3)) (.slice none 0 0)) := Lib.hid (HB.out.below ((Below.refl _ _).alloc (Nat.le_refl _) _))
      have HA2 : Hid (Arr (Value.int .i64) 3 (wr.alloc (.cells (madeCells #[Value.int .i64 0] L.length) 3)) (W.heap.size + 1 + 1) L.length (· < L.length) (frontF (maxI) (-9223372036854775808) L n)) := Lib.hid (HA1.out.below ((Below.refl _ _).alloc (Nat.le_refl _) _))
      have HE2 : Hid (Arr (Value.int .i64) 3 (wr.alloc (.cells (madeCells #[Value.int .i64 0] L.length) 3)) wr.heap.size L.length (fun _ => False) (endF (maxI) (-9223372036854775808) L n)) := Lib.hid (Arr.made wr (Value.int .i64 0) L.length 3 (Value.int .i64) _)
      have HLT := Lib.hid HA1.out.lt
      clear HB HA1
      go_wp2_with fail
      generalize wr.heap.size = G at HE2 HLT ⊢
      go_loopw [11] (fun c wr => ∃ j : Nat, j ≤ L.length ∧ c = .int .i64 ((j : Int) - 1) ∧ BX W wr (.slice none 0 0) ∧ Arr (Value.int .i64) 3 wr (W.heap.size + 1 + 1) L.length (· < L.length) (frontF (maxI) (-9223372036854775808) L n) ∧ Arr (Value.int .i64) 3 wr G L.length (j ≤ ·) (endF (maxI) (-9223372036854775808) L n)) (fun c _ => (intOf c + 1).toNat)
      case atStart => exact ⟨L.length, by omega, rfl, HB2.out, HA2.out, HE2.out.dom (fun i h1 h2 => by omega)⟩
      case round =>
        obtain ⟨j, hj, hc, hB, hA, hE⟩ := hrel
        have HB := Lib.hid hB; have HA1 := Lib.hid hA; have HE := Lib.hid hE
        clear hB hA hE HB2 HA2 HE2
        cases j with
        | succ i =>
          obtain rfl : u11 = .int .i64 (i : Int) := by rw [hc]; congr 1; omega
          clear hc
          have hlt : i < L.length := by omega
          have hl3 : (i : Int) < (L.length : Int) := by omega
          have hl4 : (0 : Int) ≤ (i : Int) := by omega
          have hl5 : ¬ ((i : Int) < 0) := by omega
          obtain ⟨b, hb, m1⟩ := HM.out i hlt
          subst hb
          have m1 : wr.cell? (b.add i) = some (Value.int .i64 L[i]) := cell_below m1 HB.out.2
          obtain ⟨uc, hu⟩ := HE.out.held hlt
          have hfz := HE.out.free i
          have hlg := HLT.out
          have HB3 : Hid (BX W (wr.setCell ⟨G, i, none⟩ (Value.int .i64 L[i])) (.slice none 0 0)) := Lib.hid (HB.out.other _ (by simp; omega))
          have HA3 : Hid (Arr (Value.int .i64) 3 (wr.setCell ⟨G, i, none⟩ (Value.int .i64 L[i])) (W.heap.size + 1 + 1) L.length (· < L.length) (frontF (maxI) (-9223372036854775808) L n)) := Lib.hid (HA1.out.other _ (by simp; omega))
          have HE3 : Hid (Arr (Value.int .i64) 3 (wr.setCell ⟨G, i, none⟩ (Value.int .i64 L[i])) G L.length (i + 1 ≤ ·) (endF (maxI) (-9223372036854775808) L n)) := Lib.hid (HE.out.setAny _ (fun k hk => ⟨by omega, hk⟩))
          have em : ((i % n : Nat) : Int) = (i : Int) % (n : Int) := Int.natCast_emod i n
          by_cases hc1 : i % n ≠ n - 1 ∧ i + 1 < L.length
          · have hi7 : ¬ ((i : Int) % (n : Int) = (n : Int) - 1) := by rw [← em]; omega
            have hi8 : (i : Int) + 1 < (L.length : Int) := by omega
            have HFS : Hid (endF (maxI) (-9223372036854775808) L n i = (maxI) L[i] (endF (maxI) (-9223372036854775808) L n (i + 1))) := Lib.hid (end_next (f := maxI) (u := -9223372036854775808) HA.out (by omega) hc1.1 hc1.2)
            have hs : (fun _ _ : Int => True) L[i] (endF (maxI) (-9223372036854775808) L n (i + 1)) := by
              first
              | exact True.intro
              | (have h4 : (i + 1) % n = i % n + 1 := mod_step (by omega) hc1.1
                 have h5 : i % n ≤ i := Nat.mod_le _ _
                 have h6 := Nat.mod_lt i (show 0 < n by omega)
                 have := HJ.out i (i + 1) (min L.length (i + 1 - (i + 1) % n + n)) (by omega) (by omega) (by omega)
                 rwa [seg_one hlt] at this)
            clear em hlg hc1
            go_wp2_with fail
            obtain ⟨w3, hw3⟩ : ∃ w3, wr.setCell ⟨G, i, none⟩ (Value.int .i64 L[i]) = w3 := ⟨_, rfl⟩
            rw [hw3] at HB3 HA3 HE3 ⊢
            clear hu hfz
            have m3 : ∀ w, Below w3.heap.size w3 w → w.cell? (b.add i) = some (Value.int .i64 L[i]) := fun w h => by
              obtain ⟨b', hb', m⟩ := HM.out i hlt
              cases hb'
              exact cell_below m (Below.step HB3.out.2 h)
            have kE : ∀ w, Below w3.heap.size w3 w → w.cell? ⟨G, i + 1, none⟩ = some (Value.int .i64 (endF (maxI) (-9223372036854775808) L n (i + 1))) := fun w h => (HE3.out.below h).cell (by omega) (by omega)
            have B0 : Below w3.heap.size w3 w3.drew := (Below.refl _ _).drew
            have HF : ∀ f, Fence.wide.fn f := fun _ => trivial
            have hw1 : IntKind.i64.wrap ((i : Int) + 1) = (i : Int) + 1 := wrap_in (by omega) (by omega)
            have hi9 : (0 : Int) ≤ (i : Int) + 1 := by omega
            refine wp_region_anyNP (Below w3.heap.size w3) (by kernel_rfl) ?_
            refine AnyH.take (i := 0) (d := some 80) (v := ?_) (by kernel_rfl) rfl rfl HF (fun _ _ _ h => h) (.inl ⟨by rfl, ?_⟩) (by first | assumption | rfl) ?_
            rotate_left
            · intro w hS; try subst hS
              go_simp; try with_reducible rfl
            try simp only [Act.put, List.setIfInBounds_toArray, List.set_cons_zero, List.set_cons_succ]
            refine AnyH.take (i := 1) (d := some 81) (v := ?_) (by kernel_rfl) rfl rfl HF (fun _ _ _ h => h) (.inl ⟨by rfl, ?_⟩) (by first | assumption | rfl) ?_
            rotate_left
            · intro w hS; try subst hS
              go_simp; try with_reducible rfl
            try simp only [Act.put, List.setIfInBounds_toArray, List.set_cons_zero, List.set_cons_succ]
            refine AnyH.take (i := 2) (d := some 82) (v := ?_) (by kernel_rfl) rfl rfl HF (fun _ _ _ h => h) (.inl ⟨by rfl, ?_⟩) (by first | assumption | rfl) ?_
            rotate_left
            · intro w hS; try subst hS
              go_simp; try with_reducible rfl
            try simp only [Act.put, List.setIfInBounds_toArray, List.set_cons_zero, List.set_cons_succ]
            refine AnyH.take (i := 3) (d := some 83) (v := ?_) (by kernel_rfl) rfl rfl HF (fun _ _ _ h => h) (.inl ⟨by rfl, ?_⟩) (by first | assumption | rfl) ?_
            rotate_left
            · intro w hS; try subst hS
              go_simp; try with_reducible rfl
            try simp only [Act.put, List.setIfInBounds_toArray, List.set_cons_zero, List.set_cons_succ]
            refine AnyH.take (i := 4) (d := some 84) (v := ?_) (by kernel_rfl) rfl rfl HF (fun _ _ _ h => h) (.inl ⟨by rfl, ?_⟩) (by first | assumption | rfl) ?_
            rotate_left
            · intro w hS; try subst hS
              go_simp; try with_reducible rfl
            try simp only [Act.put, List.setIfInBounds_toArray, List.set_cons_zero, List.set_cons_succ]
            refine AnyH.take (i := 5) (d := some 85) (v := ?_) (by kernel_rfl) rfl rfl HF (fun _ _ _ h => h) (.inl ⟨by rfl, ?_⟩) (by first | assumption | rfl) ?_
            rotate_left
            · intro w hS; try subst hS
              go_simp; try with_reducible rfl
            try simp only [Act.put, List.setIfInBounds_toArray, List.set_cons_zero, List.set_cons_succ]
            refine AnyH.take (i := 6) (d := some 86) (v := ?_) (by kernel_rfl) rfl rfl HF (fun _ _ _ h => h) (.inl ⟨by rfl, ?_⟩) (by first | assumption | rfl) ?_
            rotate_left
            · intro w hS; try subst hS
              go_simp; try with_reducible rfl
            try simp only [Act.put, List.setIfInBounds_toArray, List.set_cons_zero, List.set_cons_succ]
            refine AnyH.take (i := 7) (d := some 87) (v := ?_) (by kernel_rfl) rfl rfl HF (fun _ _ _ h => h) (.inl ⟨by rfl, ?_⟩) (by first | assumption | rfl) ?_
            rotate_left
            · intro w hS; try subst hS
              go_simp; try with_reducible rfl
            try simp only [Act.put, List.setIfInBounds_toArray, List.set_cons_zero, List.set_cons_succ]
            refine AnyH.take (i := 8) (d := some 88) (v := ?_) (by kernel_rfl) rfl rfl HF (fun _ _ _ h => h) (.inl ⟨by rfl, ?_⟩) (by first | assumption | rfl) ?_
            rotate_left
            · intro w hS; try subst hS
              go_simp; try with_reducible rfl
            try simp only [Act.put, List.setIfInBounds_toArray, List.set_cons_zero, List.set_cons_succ]
            refine AnyH.take (i := 9) (d := some 89) (v := ?_) (by kernel_rfl) rfl rfl HF (fun _ _ _ h => h) (.inl ⟨by rfl, ?_⟩) (by first | assumption | rfl) ?_
            rotate_left
            · intro w hS; try subst hS
              go_simp; try with_reducible rfl
            try simp only [Act.put, List.setIfInBounds_toArray, List.set_cons_zero, List.set_cons_succ]
            refine AnyH.take (i := 10) (d := some 90) (v := ?_) (by kernel_rfl) rfl rfl HF (fun _ _ _ h => h) (.inl ⟨by rfl, ?_⟩) (by first | assumption | rfl) ?_
            rotate_left
            · intro w hS; try subst hS
              go_simp; try with_reducible rfl
            try simp only [Act.put, List.setIfInBounds_toArray, List.set_cons_zero, List.set_cons_succ]
            refine AnyH.take (i := 11) (d := some 91) (v := ?_) (by kernel_rfl) rfl rfl HF (fun _ _ _ h => h) (.inl ⟨by rfl, ?_⟩) (by first | assumption | rfl) ?_
            rotate_left
            · intro w hS; try subst hS
              go_simp; try with_reducible rfl
            try simp only [Act.put, List.setIfInBounds_toArray, List.set_cons_zero, List.set_cons_succ]
            refine AnyH.take (i := 12) (d := some 92) (v := ?_) (by kernel_rfl) rfl rfl HF (fun _ _ _ h => h) (.inl ⟨by rfl, ?_⟩) (by first | assumption | rfl) ?_
            rotate_left
            · intro w hS; try subst hS
              go_simp; try with_reducible rfl
            try simp only [Act.put, List.setIfInBounds_toArray, List.set_cons_zero, List.set_cons_succ]
            refine AnyH.one (i := 13) (by kernel_rfl) (by kernel_rfl) rfl HF (by rfl) (fun K hK => ?_)
            go_simp
            first | ((with_reducible refine And.intro ?hdep ?_); (case hdep => first | rfl | (intro h; cases h))) | skip
            refine callsIn_wide.2 ((max_join _ _ _).mono ?_)
            rintro e w4 ⟨rfl, b4⟩
            have b4 : Below w3.heap.size w3 w4 := Below.step B0 b4
            rw [← HFS.out]
            refine hK _ _ b4 ?_
            clear hK K
            try simp only [Act.put, List.setIfInBounds_toArray, List.set_cons_zero, List.set_cons_succ]
            refine AnyH.take (i := 14) (d := some 94) (v := ?_) (by kernel_rfl) rfl rfl HF (fun _ _ _ h => h) (.inl ⟨by rfl, ?_⟩) (by first | assumption | rfl) ?_
            rotate_left
            · intro w hS; try subst hS
              go_simp; try with_reducible rfl
            try simp only [Act.put, List.setIfInBounds_toArray, List.set_cons_zero, List.set_cons_succ]
            refine AnyH.tailL 15 (by kernel_rfl) ?_
            simp only [List.drop_succ_cons, List.drop_zero]
            clear hw1
            have HB4 := Lib.hid (HB3.out.below b4); have HA4 := Lib.hid (HA3.out.below b4); have HE4 := Lib.hid (HE3.out.below b4)
            obtain ⟨uc, hu⟩ := HE4.out.held hlt
            have hfz := HE4.out.free i
            clear m3 kE m1 hs
            gi_wp2_with fail
            refine NP.normal ?_
            have hlg := HLT.out
            have HB5 : Hid (BX W (w4.setCell ⟨G, i, none⟩ (Value.int .i64 (endF (maxI) (-9223372036854775808) L n i))) (.slice none 0 0)) := Lib.hid (HB4.out.other _ (by simp; omega))
            have HA5 : Hid (Arr (Value.int .i64) 3 (w4.setCell ⟨G, i, none⟩ (Value.int .i64 (endF (maxI) (-9223372036854775808) L n i))) (W.heap.size + 1 + 1) L.length (· < L.length) (frontF (maxI) (-9223372036854775808) L n)) := Lib.hid (HA4.out.other _ (by simp; omega))
            clear hlg
            go_wp2_with fail
            go_roundw
            case rel => exact ⟨i, by omega, rfl, HB5.out, HA5.out, HE4.out.set rfl (fun k hk hk2 => by omega)⟩
            case measure => simp [intOf] <;> omega
          · have HFS := Lib.hid (end_last (f := maxI) (u := -9223372036854775808) (by omega) hc1 hlt)
            by_cases hi6 : i % n = n - 1
            · have hi7 : (i : Int) % (n : Int) = (n : Int) - 1 := by rw [← em]; omega
              clear em hlg hc1
              go_wp2_with fail
              go_roundw
              case rel => exact ⟨i, by omega, rfl, HB3.out, HA3.out, HE.out.set (by rw [HFS.out]) (fun k hk hk2 => by omega)⟩
              case measure => simp [intOf] <;> omega
            · have hi7 : ¬ ((i : Int) % (n : Int) = (n : Int) - 1) := by rw [← em]; omega
              have hi8 : ¬ ((i : Int) + 1 < (L.length : Int)) := by omega
              have hi9 : decide ((i : Int) + 1 < (L.length : Int)) = false := decide_eq_false hi8
              clear em hlg hc1
              go_wp2_with fail
              go_roundw
              case rel => exact ⟨i, by omega, rfl, HB3.out, HA3.out, HE.out.set (by rw [HFS.out]) (fun k hk hk2 => by omega)⟩
              case measure => simp [intOf] <;> omega
        | zero =>
          obtain rfl : u11 = .int .i64 (-1) := by rw [hc]; rfl
          clear hc
          obtain ⟨m, hm⟩ : ∃ m, L.length - n + 1 = m := ⟨_, rfl⟩
          have hmi : ((m : Nat) : Int) = (L.length : Int) - (n : Int) + 1 := by omega
          have hmk2 := HMK.out m (by omega)
          rw [hmi] at hmk2
          have HLG := HLT.out
          have hbA : Below wr.heap.size wr (wr.alloc (.cells (madeCells #[Value.int .i64 0] m) 3)) := (Below.refl _ _).alloc (Nat.le_refl _) _
          have hbx := HB.out.below hbA
          have c6 := box_cell hbx.1; have f6 := box_frozen hbx.1
          have hws := HB.out.2.size
          have hGs : G < wr.heap.size := HE.out.lt
          have hFs : W.heap.size + 1 + 1 < wr.heap.size := HA1.out.lt
          obtain ⟨H, hH⟩ : ∃ H, H = wr.heap.size := ⟨_, rfl⟩
          obtain ⟨W6, hW6⟩ : ∃ W6, (wr.alloc (.cells (madeCells #[Value.int .i64 0] m) 3)).setCell ⟨W.heap.size + 1, 0, none⟩ (.slice (some ⟨wr.heap.size, 0, none⟩) m m) = W6 := ⟨_, rfl⟩
          have HB6 : Hid (BX W W6 (.slice (some ⟨H, 0, none⟩) m m)) := Lib.hid (by rw [← hW6, hH]; exact ⟨box_set _ hbx.1, hbx.2.setCell (p := ⟨W.heap.size + 1, 0, none⟩) (by simp) _⟩)
          have HA6 : Hid (Arr (Value.int .i64) 3 W6 (W.heap.size + 1 + 1) L.length (· < L.length) (frontF (maxI) (-9223372036854775808) L n)) := Lib.hid (by rw [← hW6]; exact (HA1.out.below hbA).other _ (by simp))
          have HE6 : Hid (Arr (Value.int .i64) 3 W6 G L.length (0 ≤ ·) (endF (maxI) (-9223372036854775808) L n)) := Lib.hid (by rw [← hW6]; exact (HE.out.below hbA).other _ (by simp; omega))
          have HR6 : Hid (Arr (Value.int .i64) 3 W6 H m (fun _ => False) (winF (maxI) (-9223372036854775808) L n)) := Lib.hid (by rw [← hW6, hH]; exact (Arr.made wr (Value.int .i64 0) m 3 (Value.int .i64) _).other _ (by simp; omega))
          have c7 := box_cell HB6.out.1
          have HL2 := Lib.hid (And.intro HLG (And.intro (show G < H by omega) (show W.heap.size + 1 + 1 < H by omega)))
          rw [hH] at c7
          clear hbx hbA HLG hGs hFs HLT HB HA1 HE hws
          go_wp2_with fail
          rw [← hH]
          clear hW6 hH c6 f6
          go_loopw [103] (fun c wr => ∃ j : Nat, j ≤ m ∧ c = .int .i64 j ∧ BX W wr (.slice (some ⟨H, 0, none⟩) m m) ∧ Arr (Value.int .i64) 3 wr (W.heap.size + 1 + 1) L.length (· < L.length) (frontF (maxI) (-9223372036854775808) L n) ∧ Arr (Value.int .i64) 3 wr G L.length (0 ≤ ·) (endF (maxI) (-9223372036854775808) L n) ∧ Arr (Value.int .i64) 3 wr H m (· < j) (winF (maxI) (-9223372036854775808) L n)) (fun c _ => m - (intOf c).toNat)
          case atStart => exact ⟨0, by omega, rfl, HB6.out, HA6.out, HE6.out, HR6.out.dom (fun i h1 h2 => by omega)⟩
          case round =>
            obtain ⟨j, hj, rfl, hB, hA, hE, hR⟩ := hrel
            have HB := Lib.hid hB; have HA1 := Lib.hid hA; have HE := Lib.hid hE; have HR := Lib.hid hR
            clear hB hA hE hR HB6 HA6 HE6 HR6 c7 hmk2
            by_cases hlt : j < m
            · have hl1 : (j : Int) < (m : Int) := by omega
              have hl2 : (0 : Int) ≤ (j : Int) := by omega
              have hl3 : (j : Int) < (L.length : Int) := by omega
              have hjl : j < L.length := by omega
              have hjn : j + n ≤ L.length := by omega
              have hg := HL2.out
              have c1 := box_cell HB.out.1
              have kB : ∀ w, Below wr.heap.size wr w → w.cell? ⟨W.heap.size + 1, 0, none⟩ = some (.slice (some ⟨H, 0, none⟩) m m) := fun w h => box_cell (HB.out.below h).1
              have kE : ∀ w, Below wr.heap.size wr w → w.cell? ⟨G, j, none⟩ = some (Value.int .i64 (endF (maxI) (-9223372036854775808) L n j)) := fun w h => (HE.out.below h).cell (by omega) (by omega)
              obtain ⟨uc, hu⟩ := HR.out.held hlt
              have hfz := HR.out.free j
              have em : ((j % n : Nat) : Int) = (j : Int) % (n : Int) := Int.natCast_emod j n
              have hbd : Below wr.heap.size wr wr.drew := (Below.refl _ _).drew
              have HB3 : Hid (BX W (wr.drew.setCell ⟨H, j, none⟩ (Value.int .i64 (endF (maxI) (-9223372036854775808) L n j))) (.slice (some ⟨H, 0, none⟩) m m)) := Lib.hid ((HB.out.below hbd).other _ (by simp; omega))
              have HA3 : Hid (Arr (Value.int .i64) 3 (wr.drew.setCell ⟨H, j, none⟩ (Value.int .i64 (endF (maxI) (-9223372036854775808) L n j))) (W.heap.size + 1 + 1) L.length (· < L.length) (frontF (maxI) (-9223372036854775808) L n)) := Lib.hid ((HA1.out.below hbd).other _ (by simp; omega))
              have HE3 : Hid (Arr (Value.int .i64) 3 (wr.drew.setCell ⟨H, j, none⟩ (Value.int .i64 (endF (maxI) (-9223372036854775808) L n j))) G L.length (0 ≤ ·) (endF (maxI) (-9223372036854775808) L n)) := Lib.hid ((HE.out.below hbd).other _ (by simp; omega))
              have HRd := Lib.hid (HR.out.below hbd)
              clear hg hbd
              go_wp2_with fail
              have B0 : Below wr.heap.size wr wr.drew := (Below.refl _ _).drew
              have HF : ∀ f, Fence.wide.fn f := fun _ => trivial
              refine wp_region_anyNP (Below wr.heap.size wr) (by kernel_rfl) ?_
              refine AnyH.take (i := 0) (d := some 106) (v := ?_) (by kernel_rfl) rfl rfl HF (fun _ _ _ h => h) (.inl ⟨by rfl, ?_⟩) (by first | assumption | rfl) ?_
              rotate_left
              · intro w hS; try subst hS
                go_simp; try with_reducible rfl
              try simp only [Act.put, List.setIfInBounds_toArray, List.set_cons_zero, List.set_cons_succ]
              refine AnyH.take (i := 1) (d := some 107) (v := ?_) (by kernel_rfl) rfl rfl HF (fun _ _ _ h => h) (.inl ⟨by rfl, ?_⟩) (by first | assumption | rfl) ?_
              rotate_left
              · intro w hS; try subst hS
                go_simp; try with_reducible rfl
              try simp only [Act.put, List.setIfInBounds_toArray, List.set_cons_zero, List.set_cons_succ]
              refine AnyH.take (i := 2) (d := some 108) (v := ?_) (by kernel_rfl) rfl rfl HF (fun _ _ _ h => h) (.inl ⟨by rfl, ?_⟩) (by first | assumption | rfl) ?_
              rotate_left
              · intro w hS; try subst hS
                go_simp; try with_reducible rfl
              try simp only [Act.put, List.setIfInBounds_toArray, List.set_cons_zero, List.set_cons_succ]
              refine AnyH.take (i := 3) (d := some 109) (v := ?_) (by kernel_rfl) rfl rfl HF (fun _ _ _ h => h) (.inl ⟨by rfl, ?_⟩) (by first | assumption | rfl) ?_
              rotate_left
              · intro w hS; try subst hS
                go_simp; try with_reducible rfl
              try simp only [Act.put, List.setIfInBounds_toArray, List.set_cons_zero, List.set_cons_succ]
              refine AnyH.take (i := 4) (d := some 110) (v := ?_) (by kernel_rfl) rfl rfl HF (fun _ _ _ h => h) (.inl ⟨by rfl, ?_⟩) (by first | assumption | rfl) ?_
              rotate_left
              · intro w hS; try subst hS
                go_simp; try with_reducible rfl
              try simp only [Act.put, List.setIfInBounds_toArray, List.set_cons_zero, List.set_cons_succ]
              refine AnyH.take (i := 5) (d := some 111) (v := ?_) (by kernel_rfl) rfl rfl HF (fun _ _ _ h => h) (.inl ⟨by rfl, ?_⟩) (by first | assumption | rfl) ?_
              rotate_left
              · intro w hS; try subst hS
                go_simp; try with_reducible rfl
              try simp only [Act.put, List.setIfInBounds_toArray, List.set_cons_zero, List.set_cons_succ]
              refine AnyH.take (i := 6) (d := some 112) (v := ?_) (by kernel_rfl) rfl rfl HF (fun _ _ _ h => h) (.inl ⟨by rfl, ?_⟩) (by first | assumption | rfl) ?_
              rotate_left
              · intro w hS; try subst hS
                go_simp; try with_reducible rfl
              try simp only [Act.put, List.setIfInBounds_toArray, List.set_cons_zero, List.set_cons_succ]
              refine AnyH.tailL 7 (by kernel_rfl) ?_
              simp only [List.drop_succ_cons, List.drop_zero]
              gi_wp2_with fail
              refine NP.normal ?_
              clear kB kE B0 c1 hu hfz
              by_cases h0 : j % n = 0
              · have hi7 : (j : Int) % (n : Int) = 0 := by rw [← em]; omega
                have HFS := Lib.hid (win_start (f := maxI) (u := -9223372036854775808) h0 hjn)
                clear em
                go_wp2_with fail
                go_roundw
                case rel => exact ⟨j + 1, by omega, by go_num, HB3.out, HA3.out, HE3.out, HRd.out.set (by rw [HFS.out]) (fun k hk hk2 => by omega)⟩
                case measure => simp [intOf]; omega
              · have hi7 : ¬ ((j : Int) % (n : Int) = 0) := by rw [← em]; omega
                have hi8 : ((j : Int) % (n : Int) != 0) = true := by simpa using hi7
                have HFS := Lib.hid (win_join (f := maxI) (u := -9223372036854775808) HA.out (by omega) h0 hjn)
                obtain ⟨q, hq⟩ : ∃ q, j + n - 1 = q := ⟨_, rfl⟩
                have hq1 : q < L.length := by omega
                have hqi : (j : Int) + (n : Int) - 1 = (q : Int) := by omega
                rw [hq] at HFS
                have hs : (fun _ _ : Int => True) (endF (maxI) (-9223372036854775808) L n j) (frontF (maxI) (-9223372036854775808) L n q) := by
                  first
                  | exact True.intro
                  | (have h4 := Nat.mod_lt j (show 0 < n by omega)
                     have h5 : j % n ≤ j := Nat.mod_le _ _
                     have h6 : (j + n - 1) % n = j % n - 1 := mod_win (by omega) h0
                     have := HJ.out j (j - j % n + n) (j + n) (by omega) (by omega) (by omega)
                     unfold endF frontF
                     rw [← hq, h6, show j + n - 1 + 1 = j + n by omega, show j + n - 1 - (j % n - 1) = j - j % n + n by omega, Nat.min_eq_right (by omega)]
                     exact this)
                clear em
                go_wp2_with fail
                obtain ⟨w3, hw3⟩ : ∃ w3, wr.drew.setCell ⟨H, j, none⟩ (Value.int .i64 (endF (maxI) (-9223372036854775808) L n j)) = w3 := ⟨_, rfl⟩
                have HR3 : Hid (Arr (Value.int .i64) 3 w3 H m (· < j) (winF (maxI) (-9223372036854775808) L n)) := Lib.hid (by rw [← hw3]; exact HRd.out.setAny _ (fun k hk => ⟨by omega, hk⟩))
                try rw [World.setCell_drew] at hw3
                rw [World.setCell_drew] at HB3 HA3 HE3
                rw [hw3] at HB3 HA3 HE3 ⊢
                have kB : ∀ w, Below w3.heap.size w3 w → w.cell? ⟨W.heap.size + 1, 0, none⟩ = some (.slice (some ⟨H, 0, none⟩) m m) := fun w h => box_cell (HB3.out.below h).1
                have kE : ∀ w, Below w3.heap.size w3 w → w.cell? ⟨G, j, none⟩ = some (Value.int .i64 (endF (maxI) (-9223372036854775808) L n j)) := fun w h => (HE3.out.below h).cell (by omega) (by omega)
                have kF : ∀ w, Below w3.heap.size w3 w → w.cell? ⟨W.heap.size + 1 + 1, q, none⟩ = some (Value.int .i64 (frontF (maxI) (-9223372036854775808) L n q)) := fun w h => (HA3.out.below h).cell (by omega) (by omega)
                have B0 : Below w3.heap.size w3 w3.drew := (Below.refl _ _).drew
                have hl4 : (q : Int) < (L.length : Int) := by omega
                have hl5 : (0 : Int) ≤ (q : Int) := by omega
                have hw1 : IntKind.i64.wrap ((j : Int) + (n : Int)) = (j : Int) + (n : Int) := wrap_in (by omega) (by omega)
                have hw2 : IntKind.i64.wrap ((j : Int) + (n : Int) - 1) = (q : Int) := by rw [hqi]; exact wrap_in (by omega) (by omega)
                clear hqi hw3
                refine wp_region_anyNP (Below w3.heap.size w3) (by kernel_rfl) ?_
                refine AnyH.take (i := 0) (d := some 117) (v := ?_) (by kernel_rfl) rfl rfl HF (fun _ _ _ h => h) (.inl ⟨by rfl, ?_⟩) (by first | assumption | rfl) ?_
                rotate_left
                · intro w hS; try subst hS
                  go_simp; try with_reducible rfl
                try simp only [Act.put, List.setIfInBounds_toArray, List.set_cons_zero, List.set_cons_succ]
                refine AnyH.take (i := 1) (d := some 118) (v := ?_) (by kernel_rfl) rfl rfl HF (fun _ _ _ h => h) (.inl ⟨by rfl, ?_⟩) (by first | assumption | rfl) ?_
                rotate_left
                · intro w hS; try subst hS
                  go_simp; try with_reducible rfl
                try simp only [Act.put, List.setIfInBounds_toArray, List.set_cons_zero, List.set_cons_succ]
                refine AnyH.take (i := 2) (d := some 119) (v := ?_) (by kernel_rfl) rfl rfl HF (fun _ _ _ h => h) (.inl ⟨by rfl, ?_⟩) (by first | assumption | rfl) ?_
                rotate_left
                · intro w hS; try subst hS
                  go_simp; try with_reducible rfl
                try simp only [Act.put, List.setIfInBounds_toArray, List.set_cons_zero, List.set_cons_succ]
                refine AnyH.take (i := 3) (d := some 120) (v := ?_) (by kernel_rfl) rfl rfl HF (fun _ _ _ h => h) (.inl ⟨by rfl, ?_⟩) (by first | assumption | rfl) ?_
                rotate_left
                · intro w hS; try subst hS
                  go_simp; try with_reducible rfl
                try simp only [Act.put, List.setIfInBounds_toArray, List.set_cons_zero, List.set_cons_succ]
                refine AnyH.take (i := 4) (d := some 121) (v := ?_) (by kernel_rfl) rfl rfl HF (fun _ _ _ h => h) (.inl ⟨by rfl, ?_⟩) (by first | assumption | rfl) ?_
                rotate_left
                · intro w hS; try subst hS
                  go_simp; try with_reducible rfl
                try simp only [Act.put, List.setIfInBounds_toArray, List.set_cons_zero, List.set_cons_succ]
                refine AnyH.take (i := 5) (d := some 122) (v := ?_) (by kernel_rfl) rfl rfl HF (fun _ _ _ h => h) (.inl ⟨by rfl, ?_⟩) (by first | assumption | rfl) ?_
                rotate_left
                · intro w hS; try subst hS
                  go_simp; try with_reducible rfl
                try simp only [Act.put, List.setIfInBounds_toArray, List.set_cons_zero, List.set_cons_succ]
                refine AnyH.take (i := 6) (d := some 123) (v := ?_) (by kernel_rfl) rfl rfl HF (fun _ _ _ h => h) (.inl ⟨by rfl, ?_⟩) (by first | assumption | rfl) ?_
                rotate_left
                · intro w hS; try subst hS
                  go_simp; try with_reducible rfl
                try simp only [Act.put, List.setIfInBounds_toArray, List.set_cons_zero, List.set_cons_succ]
                refine AnyH.take (i := 7) (d := some 124) (v := ?_) (by kernel_rfl) rfl rfl HF (fun _ _ _ h => h) (.inl ⟨by rfl, ?_⟩) (by first | assumption | rfl) ?_
                rotate_left
                · intro w hS; try subst hS
                  go_simp; try with_reducible rfl
                try simp only [Act.put, List.setIfInBounds_toArray, List.set_cons_zero, List.set_cons_succ]
                refine AnyH.take (i := 8) (d := some 125) (v := ?_) (by kernel_rfl) rfl rfl HF (fun _ _ _ h => h) (.inl ⟨by rfl, ?_⟩) (by first | assumption | rfl) ?_
                rotate_left
                · intro w hS; try subst hS
                  go_simp; try with_reducible rfl
                try simp only [Act.put, List.setIfInBounds_toArray, List.set_cons_zero, List.set_cons_succ]
                refine AnyH.take (i := 9) (d := some 126) (v := ?_) (by kernel_rfl) rfl rfl HF (fun _ _ _ h => h) (.inl ⟨by rfl, ?_⟩) (by first | assumption | rfl) ?_
                rotate_left
                · intro w hS; try subst hS
                  go_simp; try with_reducible rfl
                try simp only [Act.put, List.setIfInBounds_toArray, List.set_cons_zero, List.set_cons_succ]
                refine AnyH.take (i := 10) (d := some 127) (v := ?_) (by kernel_rfl) rfl rfl HF (fun _ _ _ h => h) (.inl ⟨by rfl, ?_⟩) (by first | assumption | rfl) ?_
                rotate_left
                · intro w hS; try subst hS
                  go_simp; try with_reducible rfl
                try simp only [Act.put, List.setIfInBounds_toArray, List.set_cons_zero, List.set_cons_succ]
                refine AnyH.take (i := 11) (d := some 128) (v := ?_) (by kernel_rfl) rfl rfl HF (fun _ _ _ h => h) (.inl ⟨by rfl, ?_⟩) (by first | assumption | rfl) ?_
                rotate_left
                · intro w hS; try subst hS
                  go_simp; try with_reducible rfl
                try simp only [Act.put, List.setIfInBounds_toArray, List.set_cons_zero, List.set_cons_succ]
                refine AnyH.take (i := 12) (d := some 129) (v := ?_) (by kernel_rfl) rfl rfl HF (fun _ _ _ h => h) (.inl ⟨by rfl, ?_⟩) (by first | assumption | rfl) ?_
                rotate_left
                · intro w hS; try subst hS
                  go_simp; try with_reducible rfl
                try simp only [Act.put, List.setIfInBounds_toArray, List.set_cons_zero, List.set_cons_succ]
                refine AnyH.take (i := 13) (d := some 130) (v := ?_) (by kernel_rfl) rfl rfl HF (fun _ _ _ h => h) (.inl ⟨by rfl, ?_⟩) (by first | assumption | rfl) ?_
                rotate_left
                · intro w hS; try subst hS
                  go_simp; try with_reducible rfl
                try simp only [Act.put, List.setIfInBounds_toArray, List.set_cons_zero, List.set_cons_succ]
                refine AnyH.take (i := 14) (d := some 131) (v := ?_) (by kernel_rfl) rfl rfl HF (fun _ _ _ h => h) (.inl ⟨by rfl, ?_⟩) (by first | assumption | rfl) ?_
                rotate_left
                · intro w hS; try subst hS
                  go_simp; try with_reducible rfl
                try simp only [Act.put, List.setIfInBounds_toArray, List.set_cons_zero, List.set_cons_succ]
                refine AnyH.one (i := 15) (by kernel_rfl) (by kernel_rfl) rfl HF (by rfl) (fun K hK => ?_)
                go_simp
                first | ((with_reducible refine And.intro ?hdep ?_); (case hdep => first | rfl | (intro h; cases h))) | skip
                refine callsIn_wide.2 ((max_join _ _ _).mono ?_)
                rintro e w4 ⟨rfl, b4⟩
                have b4 : Below w3.heap.size w3 w4 := Below.step B0 b4
                rw [← HFS.out]
                refine hK _ _ b4 ?_
                clear hK K
                try simp only [Act.put, List.setIfInBounds_toArray, List.set_cons_zero, List.set_cons_succ]
                refine AnyH.take (i := 16) (d := some 133) (v := ?_) (by kernel_rfl) rfl rfl HF (fun _ _ _ h => h) (.inl ⟨by rfl, ?_⟩) (by first | assumption | rfl) ?_
                rotate_left
                · intro w hS; try subst hS
                  go_simp; try with_reducible rfl
                try simp only [Act.put, List.setIfInBounds_toArray, List.set_cons_zero, List.set_cons_succ]
                refine AnyH.tailL 17 (by kernel_rfl) ?_
                simp only [List.drop_succ_cons, List.drop_zero]
                clear hw1 hw2
                have HB4 := Lib.hid (HB3.out.below b4); have HA4 := Lib.hid (HA3.out.below b4); have HE4 := Lib.hid (HE3.out.below b4); have HR4 := Lib.hid (HR3.out.below b4)
                obtain ⟨uc, hu⟩ := HR4.out.held hlt
                have hfz := HR4.out.free j
                clear kB kE kF hs
                gi_wp2_with fail
                refine NP.normal ?_
                have hg := HL2.out
                have HB5 : Hid (BX W (w4.setCell ⟨H, j, none⟩ (Value.int .i64 (winF (maxI) (-9223372036854775808) L n j))) (.slice (some ⟨H, 0, none⟩) m m)) := Lib.hid (HB4.out.other _ (by simp; omega))
                have HA5 : Hid (Arr (Value.int .i64) 3 (w4.setCell ⟨H, j, none⟩ (Value.int .i64 (winF (maxI) (-9223372036854775808) L n j))) (W.heap.size + 1 + 1) L.length (· < L.length) (frontF (maxI) (-9223372036854775808) L n)) := Lib.hid (HA4.out.other _ (by simp; omega))
                have HE5 : Hid (Arr (Value.int .i64) 3 (w4.setCell ⟨H, j, none⟩ (Value.int .i64 (winF (maxI) (-9223372036854775808) L n j))) G L.length (0 ≤ ·) (endF (maxI) (-9223372036854775808) L n)) := Lib.hid (HE4.out.other _ (by simp; omega))
                clear hg
                go_wp2_with fail
                go_roundw
                case rel => exact ⟨j + 1, by omega, by go_num, HB5.out, HA5.out, HE5.out, HR4.out.set rfl (fun k hk hk2 => by omega)⟩
                case measure => simp [intOf]; omega
            · obtain rfl : j = m := by omega
              have hg := HL2.out
              have c1 := box_cell HB.out.1; have f1 := box_frozen HB.out.1
              have HC2 := Lib.hid (box_set (.slice (some ⟨H, 0, none⟩) j j) HB.out.1)
              have HB2 := Lib.hid (HB.out.2.setCell (p := ⟨W.heap.size + 1, 0, none⟩) (by simp) (.slice (some ⟨H, 0, none⟩) j j))
              have HR2 : Hid (Arr (Value.int .i64) 3 (wr.setCell ⟨W.heap.size + 1, 0, none⟩ (.slice (some ⟨H, 0, none⟩) j j)) H j (· < j) (winF (maxI) (-9223372036854775808) L n)) := Lib.hid (HR.out.other _ (by simp; omega))
              clear hg
              go_wp2_with fail
              refine leaves_cons (f := 59) (args := #[.pointer (some ⟨W.heap.size + 1, 0, none⟩)]) (by simp) (by simp [go_sem]) ?_
              refine (catch59 ⟨W.heap.size + 1, 0, none⟩ _).mono ?_
              rintro e u' w'' ⟨rfl, rfl, rfl⟩
              have c5 := box_cell HC2.out
              have hB3 := HB2.out
              have hR3 := HR2.out.row (fun _ h => h) (by unfold maxLen; omega)
              simp only [Leaves, settle, results, Try.results39]
              rw [hm]
              simp [go_sem, c5]
              exact ⟨hR3, hB3⟩
end X
end Go.Proofs.Ytpgnhnimndagpaa
