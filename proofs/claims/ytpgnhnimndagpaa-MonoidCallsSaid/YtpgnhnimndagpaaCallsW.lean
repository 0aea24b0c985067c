/- Window over the counting monoid. -/
import Derived.Test.YtpgnhnimndagpaaCallsF
import Derived.Test.YtpgnhnimndagpaaMake
import Derived.Test.YtpgnhnimndagpaaTail
import Derived.Test.YtpgnhnimndagpaaArr
namespace Go.Proofs.Ytpgnhnimndagpaa
open Go.RowKit
namespace C
attribute [local go_sem] Oper.semAt_some

/-- Block g is a row of n ints. -/
def IR (w : World) (g n : Nat) : Prop := ∃ cs : Array Value, w.heap[g]? = some (.cells cs 3 (0, 0)) ∧ cs.size = n ∧ ∀ i, i < n → ∃ z : Int, cs[i]? = some (.int .i64 z)
section
variable {w : World} {g n : Nat}
theorem IR.lt (h : IR w g n) : g < w.heap.size := by obtain ⟨cs, h, -⟩ := h; exact (Array.getElem?_eq_some_iff.1 h).1
theorem IR.cell (h : IR w g n) {i : Nat} (hi : i < n) : ∃ z : Int, w.cell? ⟨g, i, none⟩ = some (.int .i64 z) := by
  obtain ⟨cs, h, -, hc⟩ := h
  obtain ⟨z, hz⟩ := hc i hi
  exact ⟨z, by simp [World.cell?, h, hz]⟩
theorem IR.free (h : IR w g n) (i : Nat) : w.frozen? ⟨g, i, none⟩ = false := by
  obtain ⟨cs, h, -⟩ := h
  simp [World.frozen?, h]
theorem IR.below {w' : World} (h : IR w g n) (hb : Below w.heap.size w w') : IR w' g n := by
  obtain ⟨cs, h, r⟩ := h
  exact ⟨cs, box_below hb h, r⟩
theorem IR.bc {C : Nat} {w' : World} (h : IR w g n) (hb : BC C w w') (hg : g ≠ C) : IR w' g n := by
  obtain ⟨cs, h, r⟩ := h
  exact ⟨cs, hb.obj hg h, r⟩
theorem IR.set (h : IR w g n) (i : Nat) (z : Int) : IR (w.setCell ⟨g, i, none⟩ (.int .i64 z)) g n := by
  obtain ⟨cs, h, hs, hc⟩ := h
  refine ⟨_, heap_set _ h, by simp [hs], fun k hk => ?_⟩
  by_cases e : i = k
  · subst e; exact ⟨z, by rw [Array.getElem?_setIfInBounds_self_of_lt (by omega)]⟩
  · rw [Array.getElem?_setIfInBounds_ne e]; exact hc k hk
theorem IR.other (h : IR w g n) {a : Addr} (v : Value) (ha : g ≠ a.block) : IR (w.setCell a v) g n := by
  obtain ⟨cs, h, r⟩ := h
  refine ⟨cs, ?_, r⟩
  rw [Below.heap_setCell]
  · exact h
  · exact ha
theorem IR.made (w : World) (n : Nat) : IR (w.alloc (.cells (madeCells #[Value.int .i64 0] n) 3)) w.heap.size n :=
  ⟨_, heap_new w _, size_madeCells _ _, fun _ h => ⟨0, madeCells_get h⟩⟩
end

set_option maxRecDepth 100000 in
set_option maxHeartbeats 1000000 in
/-- No window has so many elements. -/
theorem win_none {W : World} {v : Value} {L : List Int} (hL : RowAt (Value.int .i64) W v L) {C c : Nat} (hC : Cn W C c) {n : Int} (h : n < 1 ∨ (L.length : Int) < n) :
    Calls Try.prog 36 #[.agg #[.pointer (some ⟨C, 0, none⟩)], v, .int .i64 n] W (FP C c (4 * L.length) W) := by
  obtain ⟨a, cap, rfl, -, -, -⟩ := hL
  have hlt := hC.lt
  have hmf : ∀ (fn : Fn) (first cap : Array Value) (w : World), (Instr.makeFunc fn first cap).run Try.prog w = .ok (.func fn first cap) w := fun _ _ _ _ => rfl
  obtain ⟨W0, hW0⟩ : ∃ W0, (W.alloc (.cells #[.pointer (some ⟨C, 0, none⟩)] 76)).alloc (.cells #[.slice none 0 0] 40) = W0 := ⟨_, rfl⟩
  have HX0 : Hid (BX C W W0 40 (.slice none 0 0)) := Lib.hid (by rw [← hW0]; exact BX.start _ _ _ _)
  have HS0 : Hid (St C W W0 c) := Lib.hid ((St.refl hC).below (by rw [← hW0]; exact start_below _ _ _ _))
  have c0 := box_cell HX0.out.2; have f0 := box_frozen HX0.out.2
  have HX1 := Lib.hid (HX0.out.put (.slice none 0 0)); have HS1 := Lib.hid (HS0.out.set (p := ⟨W.heap.size + 1, 0, none⟩) (by simp) hlt (.slice none 0 0))
  by_cases h1 : n < 1
  all_goals
    have h2 : n < 1 ∨ (L.length : Int) < n := h
    have h3 : ¬ n < 1 → (L.length : Int) < n := by omega
    first | (have h4 : (L.length : Int) < n := h3 h1) | skip
    clear h h2 h3
    go_enter_defers Try.func36, Try.ntmps36
    go_wp2_with fail
    refine leaves_cons (f := 56) (args := #[.pointer (some ⟨W.heap.size + 1, 0, none⟩)]) (by simp) (by simp [go_sem]) ?_
    refine (catch56 ⟨W.heap.size + 1, 0, none⟩ _).mono ?_
    rintro e u' w'' ⟨rfl, rfl, rfl⟩
    simp only [Leaves, settle, results, Try.results36]
    have c5 := box_cell HX1.out.2
    simp [go_sem, c5]
    exact ⟨_, 0, rfl, by omega, HS1.out⟩

set_option maxRecDepth 100000 in
set_option maxHeartbeats 4000000 in
theorem win_any {W : World} {v : Value} {L : List Int} (hL : RowAt (Value.int .i64) W v L) {C c : Nat} (hC : Cn W C c) (hc : c ≤ 100000) (hn : L.length ≤ 100000) (hrow : ∀ (i : Nat) (h : i < L.length), ∃ b cap, v = .slice (some b) L.length cap ∧ (b.add i).block ≠ C) {n : Nat} (h1 : 1 ≤ n) (h2 : n ≤ L.length) :
    Calls Try.prog 36 #[.agg #[.pointer (some ⟨C, 0, none⟩)], v, .int .i64 n] W (FP C c (4 * L.length) W) := by
  obtain ⟨a, cap, rfl, hc1, hc2, hcells⟩ := hL
  unfold maxLen at hc2
  have hlt0 := hC.lt
  have hmf : ∀ (fn : Fn) (first cap : Array Value) (w : World), (Instr.makeFunc fn first cap).run Try.prog w = .ok (.func fn first cap) w := fun _ _ _ _ => rfl
  have hmJ : ∀ w : World, (method 206 76 (.agg #[.pointer (some ⟨C, 0, none⟩)]) "Join").run Try.prog w = .ok (85, .agg #[.pointer (some ⟨C, 0, none⟩)]) w := fun _ => by kernel_rfl
  have hmk0 : ∀ (m : Nat), m ≤ 1000000 → ∀ w : World, (Instr.makeSlice 40 (.int .i64 (m : Int)) (.int .i64 (m : Int))).run Try.prog w = .ok (.slice (some ⟨w.heap.size, 0, none⟩) m m) (w.alloc (.cells (madeCells #[Value.int .i64 0] m) 3)) := fun m hm w => by
    have h := mk_run (P := Try.prog) (t := 40) (e := 3) (z := Value.int .i64 0) (size := 1) (bytes := 8) (by kernel_rfl) (by kernel_rfl) m m (by omega) (by omega) (by omega) w
    have hz : (Value.int .i64 0).cells = #[Value.int .i64 0] := rfl
    rw [hz] at h
    simpa using h
  have HM : Hid (∀ (i : Nat) (h : i < L.length), ∃ b, a = some b ∧ W.cell? (b.add i) = some (.int .i64 L[i]) ∧ (b.add i).block ≠ C) := Lib.hid (fun i h => by
    obtain ⟨b, e, m⟩ := hcells i h
    obtain ⟨b', cap', e', m'⟩ := hrow i h
    simp only [Value.slice.injEq] at e'
    rw [e] at e'
    obtain ⟨e', -, -⟩ := e'
    cases e'
    exact ⟨b, e, m, m'⟩)
  have HMK := Lib.hid hmk0; have hmk := hmk0 L.length (by omega)
  clear hcells hrow hmk0
  have hi1 : ¬ (n : Int) < 1 := by omega
  have hi2 : ¬ (L.length : Int) < (n : Int) := by omega
  have hi3 : decide ((L.length : Int) < (n : Int)) = false := decide_eq_false hi2
  have hi4 : ((n : Int) == 0) = false := by simp; omega
  have hi5 : (n : Int) ≠ 0 := by omega
  obtain ⟨W0, hW0⟩ : ∃ W0, (((W.alloc (.cells #[.pointer (some ⟨C, 0, none⟩)] 76)).alloc (.cells #[.slice none 0 0] 40)).alloc (.cells (madeCells #[Value.int .i64 0] L.length) 3)) = W0 := ⟨_, rfl⟩
  have HX0 : Hid (BX C W W0 40 (.slice none 0 0)) := Lib.hid (by
    rw [← hW0]
    exact (BX.start C W 40 (.slice none 0 0)).below ((Below.refl _ _).alloc (Nat.le_refl _) _))
  have HS0 : Hid (St C W W0 c) := Lib.hid ((St.refl hC).below (by
    rw [← hW0]
    exact (start_below C W 40 (.slice none 0 0)).alloc (by simp; omega) _))
  have HA0 : Hid (IR W0 (W.heap.size + 1 + 1) L.length) := Lib.hid (by
    rw [← hW0]
    have := IR.made ((W.alloc (.cells #[.pointer (some ⟨C, 0, none⟩)] 76)).alloc (.cells #[.slice none 0 0] 40)) L.length
    simpa using this)
  go_enter_defers Try.func36, Try.ntmps36
  go_wp2_with fail
  clear hW0 hi1 hi2 hi3
  have HF : ∀ f, Fence.wide.fn f := fun _ => trivial
  go_loopw [27] (fun k wr => ∃ j d : Nat, j ≤ L.length ∧ d ≤ j ∧ k = .int .i64 j ∧ BX C W wr 40 (.slice none 0 0) ∧ IR wr (W.heap.size + 1 + 1) L.length ∧ St C W wr (c + d)) (fun k _ => L.length - (intOf k).toNat)
  case atStart => exact ⟨0, 0, by omega, by omega, rfl, HX0.out, HA0.out, HS0.out⟩
  case round =>
    obtain ⟨j, d, hj, hd, rfl, hX, hA, hS⟩ := hrel
    have HX := Lib.hid hX; have HA := Lib.hid hA; have HS := Lib.hid hS
    clear hX hA hS HX0 HA0 HS0
    by_cases hlt : j < L.length
    · have hl3 : (j : Int) < (L.length : Int) := by omega
      have hl4 : (0 : Int) ≤ (j : Int) := by omega
      obtain ⟨b, hb, m1, hbl⟩ := HM.out j hlt
      subst hb
      have m1 : wr.cell? (b.add j) = some (Value.int .i64 L[j]) := HS.out.2.cell hbl m1
      clear hbl
      obtain ⟨uc, hu⟩ := HA.out.cell hlt
      have hfz := HA.out.free j
      by_cases h0 : j % n = 0
      · have h0' : (j : Int) % (n : Int) = 0 := by exact_mod_cast h0
        have HX2 := Lib.hid (HX.out.other (a := ⟨W.heap.size + 1 + 1, j, none⟩) (.int .i64 L[j]) (by simp))
        have HA2 := Lib.hid (HA.out.set j L[j])
        have HS2 := Lib.hid (HS.out.set (p := ⟨W.heap.size + 1 + 1, j, none⟩) (by simp; omega) hlt0 (.int .i64 L[j]))
        go_wp2_with fail
        go_roundw
        case rel => exact ⟨j + 1, d, by omega, by omega, by go_num, HX2.out, HA2.out, HS2.out⟩
        case measure => simp [intOf]; omega
      · obtain ⟨i, rfl⟩ : ∃ i, j = i + 1 := by
          cases j with
          | zero => exact absurd (Nat.zero_mod n) h0
          | succ i => exact ⟨i, rfl⟩
        have h0' : ¬ (((i : Int) + 1) % (n : Int) = 0) := by exact_mod_cast h0
        have hl5 : (i : Int) + 1 < (L.length : Int) := by omega
        have hl6 : (0 : Int) ≤ (i : Int) := by omega
        have hl7 : (i : Int) < (L.length : Int) := by omega
        obtain ⟨zf, hzf⟩ := HA.out.cell (i := i) (by omega)
        have kE : ∀ w, Below wr.heap.size wr w → w.cell? ⟨W.heap.size + 1 + 1, i, none⟩ = some (Value.int .i64 zf) := fun w h => cell_below hzf h
        have kC : ∀ w, Below wr.heap.size wr w → w.cell? ⟨W.heap.size, 0, none⟩ = some (.pointer (some ⟨C, 0, none⟩)) := fun w h => box_cell (box_below h HX.out.1)
        have m2 : wr.cell? ⟨b.block, b.off + (i + 1), none⟩ = some (Value.int .i64 L[i + 1]) := by
          have h := m1
          unfold Addr.add at h
          simpa using h
        clear hl3 hl4 m1 hzf
        go_wp2_with fail
        have B0 : Below wr.heap.size wr wr.drew := (Below.refl _ _).drew
        have hw1 : IntKind.i64.wrap (i : Int) = (i : Int) := wrap_in (by omega) (by omega)
        refine wp_region_anyNP (Below wr.heap.size wr) (by kernel_rfl) ?_
        refine AnyH.take (i := 0) (d := some 36) (v := ?_) (by kernel_rfl) rfl rfl HF (fun _ _ _ h => h) (.inl ⟨by rfl, ?_⟩) (by first | assumption | rfl) ?_
        rotate_left
        · intro w hS; try subst hS
          go_simp; try with_reducible rfl
        try simp only [Act.put, List.setIfInBounds_toArray, List.set_cons_zero, List.set_cons_succ]
        refine AnyH.take (i := 1) (d := some 37) (v := ?_) (by kernel_rfl) rfl rfl HF (fun _ _ _ h => h) (.inl ⟨by rfl, ?_⟩) (by first | assumption | rfl) ?_
        rotate_left
        · intro w hS; try subst hS
          go_simp; try with_reducible rfl
        try simp only [Act.put, List.setIfInBounds_toArray, List.set_cons_zero, List.set_cons_succ]
        refine AnyH.take (i := 2) (d := some 38) (v := ?_) (by kernel_rfl) rfl rfl HF (fun _ _ _ h => h) (.inl ⟨by rfl, ?_⟩) (by first | assumption | rfl) ?_
        rotate_left
        · intro w hS; try subst hS
          go_simp; try with_reducible rfl
        try simp only [Act.put, List.setIfInBounds_toArray, List.set_cons_zero, List.set_cons_succ]
        refine AnyH.take (i := 3) (d := some 39) (v := ?_) (by kernel_rfl) rfl rfl HF (fun _ _ _ h => h) (.inl ⟨by rfl, ?_⟩) (by first | assumption | rfl) ?_
        rotate_left
        · intro w hS; try subst hS
          go_simp; try with_reducible rfl
        try simp only [Act.put, List.setIfInBounds_toArray, List.set_cons_zero, List.set_cons_succ]
        refine AnyH.take (i := 4) (d := some 40) (v := ?_) (by kernel_rfl) rfl rfl HF (fun _ _ _ h => h) (.inl ⟨by rfl, ?_⟩) (by first | assumption | rfl) ?_
        rotate_left
        · intro w hS; try subst hS
          go_simp; try with_reducible rfl
        try simp only [Act.put, List.setIfInBounds_toArray, List.set_cons_zero, List.set_cons_succ]
        refine AnyH.take (i := 5) (d := some 41) (v := ?_) (by kernel_rfl) rfl rfl HF (fun _ _ _ h => h) (.inl ⟨by rfl, ?_⟩) (by first | assumption | rfl) ?_
        rotate_left
        · intro w hS; try subst hS
          go_simp; try with_reducible rfl
        try simp only [Act.put, List.setIfInBounds_toArray, List.set_cons_zero, List.set_cons_succ]
        refine AnyH.take (i := 6) (d := some 42) (v := ?_) (by kernel_rfl) rfl rfl HF (fun _ _ _ h => h) (.inl ⟨by rfl, ?_⟩) (by first | assumption | rfl) ?_
        rotate_left
        · intro w hS; try subst hS
          go_simp; try with_reducible rfl
        try simp only [Act.put, List.setIfInBounds_toArray, List.set_cons_zero, List.set_cons_succ]
        refine AnyH.take (i := 7) (d := some 43) (v := ?_) (by kernel_rfl) rfl rfl HF (fun _ _ _ h => h) (.inl ⟨by rfl, ?_⟩) (by first | assumption | rfl) ?_
        rotate_left
        · intro w hS; try subst hS
          go_simp; try with_reducible rfl
        try simp only [Act.put, List.setIfInBounds_toArray, List.set_cons_zero, List.set_cons_succ]
        refine AnyH.tailL 8 (by kernel_rfl) ?_
        simp only [List.drop_succ_cons, List.drop_zero]
        clear hw1
        gi_wp2_with fail
        refine ⟨rfl, callsIn_wide.2 ((cnt_join C (c + d) (by omega) _ _ _ (HS.out.1.below B0)).mono ?_)⟩
        rintro e w4 ⟨z2, rfl, hs4⟩
        gi_wp2_with fail
        refine NP.normal ?_
        have hs4' := (BC.of B0).trans hs4.2
        have HX4 := Lib.hid (HX.out.bc hs4' hlt0); have HA4 := Lib.hid (HA.out.bc hs4' (by omega)); have HS4 := Lib.hid ((HS.out.below B0).step hs4)
        obtain ⟨uc, hu⟩ := HA4.out.cell hlt
        have hfz := HA4.out.free (i + 1)
        have HX2 := Lib.hid (HX4.out.other (a := ⟨W.heap.size + 1 + 1, i + 1, none⟩) (.int .i64 z2) (by simp))
        have HA2 := Lib.hid (HA4.out.set (i + 1) z2)
        have HS2 := Lib.hid (HS4.out.set (p := ⟨W.heap.size + 1 + 1, i + 1, none⟩) (by simp; omega) hlt0 (.int .i64 z2))
        clear B0 kE kC h0 h0' HX HA HS m2 hs4 hs4'
        go_wp2_with fail
        go_roundw
        case rel => exact ⟨i + 1 + 1, d + 1, by omega, by omega, by go_num, HX2.out, HA2.out, HS2.out⟩
        case measure => simp [intOf]; omega
    · obtain rfl : j = L.length := by omega
      have hbA : Below wr.heap.size wr (wr.alloc (.cells (madeCells #[Value.int .i64 0] L.length) 3)) := (Below.refl _ _).alloc (Nat.le_refl _) _
      have HX2 := Lib.hid (HX.out.below hbA)
      have HA2 := Lib.hid (HA.out.below hbA)
      have HS2 := Lib.hid (HS.out.below hbA)
      have HE2 : Hid (IR (wr.alloc (.cells (madeCells #[Value.int .i64 0] L.length) 3)) wr.heap.size L.length) := Lib.hid (IR.made wr L.length)
      have HLT := Lib.hid HA.out.lt
      clear HX HA HS hbA
      go_wp2_with fail
      generalize wr.heap.size = G at HE2 HLT ⊢
      go_loopw [11] (fun k wr => ∃ j e : Nat, j ≤ L.length ∧ e + j ≤ L.length + L.length ∧ k = .int .i64 ((j : Int) - 1) ∧ BX C W wr 40 (.slice none 0 0) ∧ IR wr (W.heap.size + 1 + 1) L.length ∧ IR wr G L.length ∧ St C W wr (c + e)) (fun k _ => (intOf k + 1).toNat)
      case atStart => exact ⟨L.length, d, by omega, by omega, rfl, HX2.out, HA2.out, HE2.out, HS2.out⟩
      case round =>
        clear hd hj hlt
        obtain ⟨j, d, hj, hd, hcj, hX, hA, hE, hS⟩ := hrel
        have HX := Lib.hid hX; have HA := Lib.hid hA; have HE := Lib.hid hE; have HS := Lib.hid hS
        clear hX hA hE hS HX2 HA2 HE2 HS2
        cases j with
        | succ i =>
          obtain rfl : u11 = .int .i64 (i : Int) := by rw [hcj]; congr 1; omega
          clear hcj
          have hlt : i < L.length := by omega
          have hl3 : (i : Int) < (L.length : Int) := by omega
          have hl4 : (0 : Int) ≤ (i : Int) := by omega
          have hl5 : ¬ ((i : Int) < 0) := by omega
          obtain ⟨b, hb, m1, hbl⟩ := HM.out i hlt
          subst hb
          have m1 : wr.cell? (b.add i) = some (Value.int .i64 L[i]) := HS.out.2.cell hbl m1
          obtain ⟨uc, hu⟩ := HE.out.cell hlt
          have hfz := HE.out.free i
          have hlg := HLT.out
          have HX3 := Lib.hid (HX.out.other (a := ⟨G, i, none⟩) (.int .i64 L[i]) (by simp; omega))
          have HA3 := Lib.hid (HA.out.other (a := ⟨G, i, none⟩) (.int .i64 L[i]) (by simp; omega))
          have HE3 := Lib.hid (HE.out.set i L[i])
          have HS3 := Lib.hid (HS.out.set (p := ⟨G, i, none⟩) (by simp; omega) hlt0 (.int .i64 L[i]))
          have em : ((i % n : Nat) : Int) = (i : Int) % (n : Int) := Int.natCast_emod i n
          by_cases hc1 : i % n ≠ n - 1 ∧ i + 1 < L.length
          · have hi7 : ¬ ((i : Int) % (n : Int) = (n : Int) - 1) := by rw [← em]; omega
            have hi8 : (i : Int) + 1 < (L.length : Int) := by omega
            have hi10 : i + 1 < L.length := hc1.2
            clear em hlg hc1
            go_wp2_with fail
            obtain ⟨w3, hw3⟩ : ∃ w3, wr.setCell ⟨G, i, none⟩ (Value.int .i64 L[i]) = w3 := ⟨_, rfl⟩
            rw [hw3] at HX3 HA3 HE3 HS3 ⊢
            clear hu hfz
            obtain ⟨b', hb', m2, hbl2⟩ := HM.out i hlt
            cases hb'
            have m2 := HS3.out.2.cell hbl m2
            have m3 : ∀ w, BC C w3 w → w.cell? (b.add i) = some (Value.int .i64 L[i]) := fun w h => h.cell hbl m2
            obtain ⟨ze, hze⟩ := HE3.out.cell (i := i + 1) hi10
            have hGC : G ≠ C := by have := HLT.out; omega
            have kE : ∀ w, BC C w3 w → w.cell? ⟨G, i + 1, none⟩ = some (Value.int .i64 ze) := fun w h => h.cell (a := ⟨G, i + 1, none⟩) hGC hze
            have kC : ∀ w, BC C w3 w → w.cell? ⟨W.heap.size, 0, none⟩ = some (.pointer (some ⟨C, 0, none⟩)) := fun w h => box_cell (h.obj (by omega) HX3.out.1)
            have B0 : BC C w3 w3.drew := BC.of (Below.refl _ _).drew
            have hw1 : IntKind.i64.wrap ((i : Int) + 1) = (i : Int) + 1 := wrap_in (by omega) (by omega)
            have hi9 : (0 : Int) ≤ (i : Int) + 1 := by omega
            clear hbl2 m2 hze hw3
            refine wp_region_anyNP (BC C w3) (by kernel_rfl) ?_
            refine AnyH.take (i := 0) (d := some 80) (v := ?_) (by kernel_rfl) rfl rfl HF (fun _ _ _ h => h) (.inl ⟨by rfl, ?_⟩) (by first | assumption | rfl) ?_
            rotate_left
            · intro w hS; try subst hS
              go_simp; try with_reducible rfl
            try simp only [Act.put, List.setIfInBounds_toArray, List.set_cons_zero, List.set_cons_succ]
            refine AnyH.take (i := 1) (d := some 81) (v := ?_) (by kernel_rfl) rfl rfl HF (fun _ _ _ h => h) (.inl ⟨by rfl, ?_⟩) (by first | assumption | rfl) ?_
            rotate_left
            · intro w hS; try subst hS
              go_simp; try with_reducible rfl
            try simp only [Act.put, List.setIfInBounds_toArray, List.set_cons_zero, List.set_cons_succ]
            refine AnyH.take (i := 2) (d := some 82) (v := ?_) (by kernel_rfl) rfl rfl HF (fun _ _ _ h => h) (.inl ⟨by rfl, ?_⟩) (by first | assumption | rfl) ?_
            rotate_left
            · intro w hS; try subst hS
              go_simp; try with_reducible rfl
            try simp only [Act.put, List.setIfInBounds_toArray, List.set_cons_zero, List.set_cons_succ]
            refine AnyH.take (i := 3) (d := some 83) (v := ?_) (by kernel_rfl) rfl rfl HF (fun _ _ _ h => h) (.inl ⟨by rfl, ?_⟩) (by first | assumption | rfl) ?_
            rotate_left
            · intro w hS; try subst hS
              go_simp; try with_reducible rfl
            try simp only [Act.put, List.setIfInBounds_toArray, List.set_cons_zero, List.set_cons_succ]
            refine AnyH.take (i := 4) (d := some 84) (v := ?_) (by kernel_rfl) rfl rfl HF (fun _ _ _ h => h) (.inl ⟨by rfl, ?_⟩) (by first | assumption | rfl) ?_
            rotate_left
            · intro w hS; try subst hS
              go_simp; try with_reducible rfl
            try simp only [Act.put, List.setIfInBounds_toArray, List.set_cons_zero, List.set_cons_succ]
            refine AnyH.take (i := 5) (d := some 85) (v := ?_) (by kernel_rfl) rfl rfl HF (fun _ _ _ h => h) (.inl ⟨by rfl, ?_⟩) (by first | assumption | rfl) ?_
            rotate_left
            · intro w hS; try subst hS
              go_simp; try with_reducible rfl
            try simp only [Act.put, List.setIfInBounds_toArray, List.set_cons_zero, List.set_cons_succ]
            refine AnyH.take (i := 6) (d := some 86) (v := ?_) (by kernel_rfl) rfl rfl HF (fun _ _ _ h => h) (.inl ⟨by rfl, ?_⟩) (by first | assumption | rfl) ?_
            rotate_left
            · intro w hS; try subst hS
              go_simp; try with_reducible rfl
            try simp only [Act.put, List.setIfInBounds_toArray, List.set_cons_zero, List.set_cons_succ]
            refine AnyH.take (i := 7) (d := some 87) (v := ?_) (by kernel_rfl) rfl rfl HF (fun _ _ _ h => h) (.inl ⟨by rfl, ?_⟩) (by first | assumption | rfl) ?_
            rotate_left
            · intro w hS; try subst hS
              go_simp; try with_reducible rfl
            try simp only [Act.put, List.setIfInBounds_toArray, List.set_cons_zero, List.set_cons_succ]
            refine AnyH.take (i := 8) (d := some 88) (v := ?_) (by kernel_rfl) rfl rfl HF (fun _ _ _ h => h) (.inl ⟨by rfl, ?_⟩) (by first | assumption | rfl) ?_
            rotate_left
            · intro w hS; try subst hS
              go_simp; try with_reducible rfl
            try simp only [Act.put, List.setIfInBounds_toArray, List.set_cons_zero, List.set_cons_succ]
            refine AnyH.take (i := 9) (d := some 89) (v := ?_) (by kernel_rfl) rfl rfl HF (fun _ _ _ h => h) (.inl ⟨by rfl, ?_⟩) (by first | assumption | rfl) ?_
            rotate_left
            · intro w hS; try subst hS
              go_simp; try with_reducible rfl
            try simp only [Act.put, List.setIfInBounds_toArray, List.set_cons_zero, List.set_cons_succ]
            refine AnyH.take (i := 10) (d := some 90) (v := ?_) (by kernel_rfl) rfl rfl HF (fun _ _ _ h => h) (.inl ⟨by rfl, ?_⟩) (by first | assumption | rfl) ?_
            rotate_left
            · intro w hS; try subst hS
              go_simp; try with_reducible rfl
            try simp only [Act.put, List.setIfInBounds_toArray, List.set_cons_zero, List.set_cons_succ]
            refine AnyH.take (i := 11) (d := some 91) (v := ?_) (by kernel_rfl) rfl rfl HF (fun _ _ _ h => h) (.inl ⟨by rfl, ?_⟩) (by first | assumption | rfl) ?_
            rotate_left
            · intro w hS; try subst hS
              go_simp; try with_reducible rfl
            try simp only [Act.put, List.setIfInBounds_toArray, List.set_cons_zero, List.set_cons_succ]
            refine AnyH.take (i := 12) (d := some 92) (v := ?_) (by kernel_rfl) rfl rfl HF (fun _ _ _ h => h) (.inl ⟨by rfl, ?_⟩) (by first | assumption | rfl) ?_
            rotate_left
            · intro w hS; try subst hS
              go_simp; try with_reducible rfl
            try simp only [Act.put, List.setIfInBounds_toArray, List.set_cons_zero, List.set_cons_succ]
            refine AnyH.one (i := 13) (by kernel_rfl) (by kernel_rfl) rfl HF (by rfl) (fun K hK => ?_)
            go_simp
            first | ((with_reducible refine And.intro ?hdep ?_); (case hdep => first | rfl | (intro h; cases h))) | skip
            refine callsIn_wide.2 ((cnt_join C (c + d) (by omega) _ _ _ (HS3.out.1.below (Below.refl _ _).drew)).mono ?_)
            rintro e w4 ⟨z2, rfl, hs4⟩
            have b4 : BC C w3 w4 := B0.trans hs4.2
            refine hK _ _ b4 ?_
            clear hK K
            try simp only [Act.put, List.setIfInBounds_toArray, List.set_cons_zero, List.set_cons_succ]
            refine AnyH.take (i := 14) (d := some 94) (v := ?_) (by kernel_rfl) rfl rfl HF (fun _ _ _ h => h) (.inl ⟨by rfl, ?_⟩) (by first | assumption | rfl) ?_
            rotate_left
            · intro w hS; try subst hS
              go_simp; try with_reducible rfl
            try simp only [Act.put, List.setIfInBounds_toArray, List.set_cons_zero, List.set_cons_succ]
            refine AnyH.tailL 15 (by kernel_rfl) ?_
            simp only [List.drop_succ_cons, List.drop_zero]
            clear hw1
            have HX4 := Lib.hid (HX3.out.bc b4 hlt0); have HA4 := Lib.hid (HA3.out.bc b4 (by omega)); have HE4 := Lib.hid (HE3.out.bc b4 hGC); have HS4 := Lib.hid ((HS3.out.below (Below.refl _ _).drew).step hs4)
            obtain ⟨uc, hu⟩ := HE4.out.cell hlt
            have hfz := HE4.out.free i
            clear m3 kE kC m1 hs4 b4
            gi_wp2_with fail
            refine NP.normal ?_
            have hlg := HLT.out
            have HX5 := Lib.hid (HX4.out.other (a := ⟨G, i, none⟩) (.int .i64 z2) (by simp; omega))
            have HA5 := Lib.hid (HA4.out.other (a := ⟨G, i, none⟩) (.int .i64 z2) (by simp; omega))
            have HE5 := Lib.hid (HE4.out.set i z2)
            have HS5 := Lib.hid (HS4.out.set (p := ⟨G, i, none⟩) (by simp; omega) hlt0 (.int .i64 z2))
            clear hlg
            go_wp2_with fail
            go_roundw
            case rel => exact ⟨i, d + 1, by omega, by omega, rfl, HX5.out, HA5.out, HE5.out, HS5.out⟩
            case measure => simp [intOf] <;> omega
          · by_cases hi6 : i % n = n - 1
            · have hi7 : (i : Int) % (n : Int) = (n : Int) - 1 := by rw [← em]; omega
              clear em hlg hc1
              go_wp2_with fail
              go_roundw
              case rel => exact ⟨i, d, by omega, by omega, rfl, HX3.out, HA3.out, HE3.out, HS3.out⟩
              case measure => simp [intOf] <;> omega
            · have hi7 : ¬ ((i : Int) % (n : Int) = (n : Int) - 1) := by rw [← em]; omega
              have hi8 : ¬ ((i : Int) + 1 < (L.length : Int)) := by omega
              have hi9 : decide ((i : Int) + 1 < (L.length : Int)) = false := decide_eq_false hi8
              clear em hlg hc1
              go_wp2_with fail
              go_roundw
              case rel => exact ⟨i, d, by omega, by omega, rfl, HX3.out, HA3.out, HE3.out, HS3.out⟩
              case measure => simp [intOf] <;> omega
        | zero =>
          obtain rfl : u11 = .int .i64 (-1) := by rw [hcj]; rfl
          clear hcj
          obtain ⟨m, hm⟩ : ∃ m, L.length - n + 1 = m := ⟨_, rfl⟩
          have hmi : ((m : Nat) : Int) = (L.length : Int) - (n : Int) + 1 := by omega
          have hmk2 := HMK.out m (by omega)
          rw [hmi] at hmk2
          have HLG := HLT.out
          have hbA : Below wr.heap.size wr (wr.alloc (.cells (madeCells #[Value.int .i64 0] m) 3)) := (Below.refl _ _).alloc (Nat.le_refl _) _
          have hbx := HX.out.below hbA
          have c6 := box_cell hbx.2; have f6 := box_frozen hbx.2
          have hGs : G < wr.heap.size := HE.out.lt
          obtain ⟨H, hH⟩ : ∃ H, H = wr.heap.size := ⟨_, rfl⟩
          obtain ⟨W6, hW6⟩ : ∃ W6, (wr.alloc (.cells (madeCells #[Value.int .i64 0] m) 3)).setCell ⟨W.heap.size + 1, 0, none⟩ (.slice (some ⟨wr.heap.size, 0, none⟩) m m) = W6 := ⟨_, rfl⟩
          have HX6 : Hid (BX C W W6 40 (.slice (some ⟨H, 0, none⟩) m m)) := Lib.hid (by rw [← hW6, hH]; exact hbx.put _)
          have HA6 : Hid (IR W6 (W.heap.size + 1 + 1) L.length) := Lib.hid (by rw [← hW6]; exact (HA.out.below hbA).other _ (by simp))
          have HE6 : Hid (IR W6 G L.length) := Lib.hid (by rw [← hW6]; exact (HE.out.below hbA).other _ (by simp; omega))
          have HR6 : Hid (IR W6 H m) := Lib.hid (by rw [← hW6, hH]; exact (IR.made wr m).other _ (by simp; omega))
          have HS6 : Hid (St C W W6 (c + d)) := Lib.hid (by rw [← hW6]; exact (HS.out.below hbA).set (by simp) hlt0 _)
          have c7 := box_cell HX6.out.2
          have HL2 := Lib.hid (And.intro HLG (And.intro (show G < H by omega) (show W.heap.size + 1 + 1 < H by omega)))
          rw [hH] at c7
          clear hbx hbA HLG hGs HLT HX HA HE HS
          go_wp2_with fail
          rw [← hH]
          clear hW6 hH c6 f6
          go_loopw [103] (fun k wr => ∃ j e : Nat, j ≤ m ∧ e ≤ L.length + L.length + j ∧ k = .int .i64 j ∧ BX C W wr 40 (.slice (some ⟨H, 0, none⟩) m m) ∧ IR wr (W.heap.size + 1 + 1) L.length ∧ IR wr G L.length ∧ IR wr H m ∧ St C W wr (c + e)) (fun k _ => m - (intOf k).toNat)
          case atStart => exact ⟨0, d, by omega, by omega, rfl, HX6.out, HA6.out, HE6.out, HR6.out, HS6.out⟩
          case round =>
            clear hd hj
            obtain ⟨j, d, hj, hd, rfl, hX, hA, hE, hR, hS⟩ := hrel
            have HX := Lib.hid hX; have HA := Lib.hid hA; have HE := Lib.hid hE; have HR := Lib.hid hR; have HS := Lib.hid hS
            clear hX hA hE hR hS HX6 HA6 HE6 HR6 HS6 c7 hmk2
            by_cases hlt : j < m
            · have hl1 : (j : Int) < (m : Int) := by omega
              have hl2 : (0 : Int) ≤ (j : Int) := by omega
              have hl3 : (j : Int) < (L.length : Int) := by omega
              have hjl : j < L.length := by omega
              have hjn : j + n ≤ L.length := by omega
              have hg := HL2.out
              have c1 := box_cell HX.out.2
              obtain ⟨ze, hze⟩ := HE.out.cell hjl
              have kB : ∀ w, Below wr.heap.size wr w → w.cell? ⟨W.heap.size + 1, 0, none⟩ = some (.slice (some ⟨H, 0, none⟩) m m) := fun w h => box_cell (HX.out.below h).2
              have kE : ∀ w, Below wr.heap.size wr w → w.cell? ⟨G, j, none⟩ = some (Value.int .i64 ze) := fun w h => cell_below hze h
              obtain ⟨uc, hu⟩ := HR.out.cell hlt
              have hfz := HR.out.free j
              have em : ((j % n : Nat) : Int) = (j : Int) % (n : Int) := Int.natCast_emod j n
              have hbd : Below wr.heap.size wr wr.drew := (Below.refl _ _).drew
              have HX3 := Lib.hid ((HX.out.below hbd).other (a := ⟨H, j, none⟩) (.int .i64 ze) (by simp; omega))
              have HA3 := Lib.hid ((HA.out.below hbd).other (a := ⟨H, j, none⟩) (.int .i64 ze) (by simp; omega))
              have HE3 := Lib.hid ((HE.out.below hbd).other (a := ⟨H, j, none⟩) (.int .i64 ze) (by simp; omega))
              have HR3 := Lib.hid ((HR.out.below hbd).set j ze)
              have HS3 := Lib.hid ((HS.out.below hbd).set (p := ⟨H, j, none⟩) (by simp; omega) hlt0 (.int .i64 ze))
              clear hg hbd hze
              go_wp2_with fail
              have B0 : Below wr.heap.size wr wr.drew := (Below.refl _ _).drew
              refine wp_region_anyNP (Below wr.heap.size wr) (by kernel_rfl) ?_
              refine AnyH.take (i := 0) (d := some 106) (v := ?_) (by kernel_rfl) rfl rfl HF (fun _ _ _ h => h) (.inl ⟨by rfl, ?_⟩) (by first | assumption | rfl) ?_
              rotate_left
              · intro w hS; try subst hS
                go_simp; try with_reducible rfl
              try simp only [Act.put, List.setIfInBounds_toArray, List.set_cons_zero, List.set_cons_succ]
              refine AnyH.take (i := 1) (d := some 107) (v := ?_) (by kernel_rfl) rfl rfl HF (fun _ _ _ h => h) (.inl ⟨by rfl, ?_⟩) (by first | assumption | rfl) ?_
              rotate_left
              · intro w hS; try subst hS
                go_simp; try with_reducible rfl
              try simp only [Act.put, List.setIfInBounds_toArray, List.set_cons_zero, List.set_cons_succ]
              refine AnyH.take (i := 2) (d := some 108) (v := ?_) (by kernel_rfl) rfl rfl HF (fun _ _ _ h => h) (.inl ⟨by rfl, ?_⟩) (by first | assumption | rfl) ?_
              rotate_left
              · intro w hS; try subst hS
                go_simp; try with_reducible rfl
              try simp only [Act.put, List.setIfInBounds_toArray, List.set_cons_zero, List.set_cons_succ]
              refine AnyH.take (i := 3) (d := some 109) (v := ?_) (by kernel_rfl) rfl rfl HF (fun _ _ _ h => h) (.inl ⟨by rfl, ?_⟩) (by first | assumption | rfl) ?_
              rotate_left
              · intro w hS; try subst hS
                go_simp; try with_reducible rfl
              try simp only [Act.put, List.setIfInBounds_toArray, List.set_cons_zero, List.set_cons_succ]
              refine AnyH.take (i := 4) (d := some 110) (v := ?_) (by kernel_rfl) rfl rfl HF (fun _ _ _ h => h) (.inl ⟨by rfl, ?_⟩) (by first | assumption | rfl) ?_
              rotate_left
              · intro w hS; try subst hS
                go_simp; try with_reducible rfl
              try simp only [Act.put, List.setIfInBounds_toArray, List.set_cons_zero, List.set_cons_succ]
              refine AnyH.take (i := 5) (d := some 111) (v := ?_) (by kernel_rfl) rfl rfl HF (fun _ _ _ h => h) (.inl ⟨by rfl, ?_⟩) (by first | assumption | rfl) ?_
              rotate_left
              · intro w hS; try subst hS
                go_simp; try with_reducible rfl
              try simp only [Act.put, List.setIfInBounds_toArray, List.set_cons_zero, List.set_cons_succ]
              refine AnyH.take (i := 6) (d := some 112) (v := ?_) (by kernel_rfl) rfl rfl HF (fun _ _ _ h => h) (.inl ⟨by rfl, ?_⟩) (by first | assumption | rfl) ?_
              rotate_left
              · intro w hS; try subst hS
                go_simp; try with_reducible rfl
              try simp only [Act.put, List.setIfInBounds_toArray, List.set_cons_zero, List.set_cons_succ]
              refine AnyH.tailL 7 (by kernel_rfl) ?_
              simp only [List.drop_succ_cons, List.drop_zero]
              gi_wp2_with fail
              refine NP.normal ?_
              clear kB kE B0 c1 hu hfz
              by_cases h0 : j % n = 0
              · have hi7 : (j : Int) % (n : Int) = 0 := by rw [← em]; omega
                clear em
                go_wp2_with fail
                go_roundw
                case rel => exact ⟨j + 1, d, by omega, by omega, by go_num, HX3.out, HA3.out, HE3.out, HR3.out, HS3.out⟩
                case measure => simp [intOf]; omega
              · have hi7 : ¬ ((j : Int) % (n : Int) = 0) := by rw [← em]; omega
                have hi8 : ((j : Int) % (n : Int) != 0) = true := by simpa using hi7
                obtain ⟨q, hq⟩ : ∃ q, j + n - 1 = q := ⟨_, rfl⟩
                have hq1 : q < L.length := by omega
                have hqi : (j : Int) + (n : Int) - 1 = (q : Int) := by omega
                clear em
                go_wp2_with fail
                obtain ⟨w3, hw3⟩ : ∃ w3, wr.drew.setCell ⟨H, j, none⟩ (Value.int .i64 ze) = w3 := ⟨_, rfl⟩
                try rw [World.setCell_drew] at hw3
                try rw [World.setCell_drew] at HX3 HA3 HE3 HR3 HS3
                rw [hw3] at HX3 HA3 HE3 HR3 HS3 ⊢
                obtain ⟨ze, hze⟩ := HE3.out.cell hjl
                obtain ⟨zf, hzf⟩ := HA3.out.cell hq1
                have hg := HL2.out
                have hGC : G ≠ C := by omega
                have hFC : W.heap.size + 1 + 1 ≠ C := by omega
                have hHC : H ≠ C := by omega
                have kB : ∀ w, BC C w3 w → w.cell? ⟨W.heap.size + 1, 0, none⟩ = some (.slice (some ⟨H, 0, none⟩) m m) := fun w h => box_cell (HX3.out.bc h hlt0).2
                have kC : ∀ w, BC C w3 w → w.cell? ⟨W.heap.size, 0, none⟩ = some (.pointer (some ⟨C, 0, none⟩)) := fun w h => box_cell (HX3.out.bc h hlt0).1
                have kE : ∀ w, BC C w3 w → w.cell? ⟨G, j, none⟩ = some (Value.int .i64 ze) := fun w h => h.cell (a := ⟨G, j, none⟩) hGC hze
                have kF : ∀ w, BC C w3 w → w.cell? ⟨W.heap.size + 1 + 1, q, none⟩ = some (Value.int .i64 zf) := fun w h => h.cell (a := ⟨W.heap.size + 1 + 1, q, none⟩) hFC hzf
                have B0 : BC C w3 w3.drew := BC.of (Below.refl _ _).drew
                have hl4 : (q : Int) < (L.length : Int) := by omega
                have hl5 : (0 : Int) ≤ (q : Int) := by omega
                have hw1 : IntKind.i64.wrap ((j : Int) + (n : Int)) = (j : Int) + (n : Int) := wrap_in (by omega) (by omega)
                have hw2 : IntKind.i64.wrap ((j : Int) + (n : Int) - 1) = (q : Int) := by rw [hqi]; exact wrap_in (by omega) (by omega)
                clear hqi hw3 hze hzf hg hFC
                refine wp_region_anyNP (BC C w3) (by kernel_rfl) ?_
                refine AnyH.take (i := 0) (d := some 117) (v := ?_) (by kernel_rfl) rfl rfl HF (fun _ _ _ h => h) (.inl ⟨by rfl, ?_⟩) (by first | assumption | rfl) ?_
                rotate_left
                · intro w hS; try subst hS
                  go_simp; try with_reducible rfl
                try simp only [Act.put, List.setIfInBounds_toArray, List.set_cons_zero, List.set_cons_succ]
                refine AnyH.take (i := 1) (d := some 118) (v := ?_) (by kernel_rfl) rfl rfl HF (fun _ _ _ h => h) (.inl ⟨by rfl, ?_⟩) (by first | assumption | rfl) ?_
                rotate_left
                · intro w hS; try subst hS
                  go_simp; try with_reducible rfl
                try simp only [Act.put, List.setIfInBounds_toArray, List.set_cons_zero, List.set_cons_succ]
                refine AnyH.take (i := 2) (d := some 119) (v := ?_) (by kernel_rfl) rfl rfl HF (fun _ _ _ h => h) (.inl ⟨by rfl, ?_⟩) (by first | assumption | rfl) ?_
                rotate_left
                · intro w hS; try subst hS
                  go_simp; try with_reducible rfl
                try simp only [Act.put, List.setIfInBounds_toArray, List.set_cons_zero, List.set_cons_succ]
                refine AnyH.take (i := 3) (d := some 120) (v := ?_) (by kernel_rfl) rfl rfl HF (fun _ _ _ h => h) (.inl ⟨by rfl, ?_⟩) (by first | assumption | rfl) ?_
                rotate_left
                · intro w hS; try subst hS
                  go_simp; try with_reducible rfl
                try simp only [Act.put, List.setIfInBounds_toArray, List.set_cons_zero, List.set_cons_succ]
                refine AnyH.take (i := 4) (d := some 121) (v := ?_) (by kernel_rfl) rfl rfl HF (fun _ _ _ h => h) (.inl ⟨by rfl, ?_⟩) (by first | assumption | rfl) ?_
                rotate_left
                · intro w hS; try subst hS
                  go_simp; try with_reducible rfl
                try simp only [Act.put, List.setIfInBounds_toArray, List.set_cons_zero, List.set_cons_succ]
                refine AnyH.take (i := 5) (d := some 122) (v := ?_) (by kernel_rfl) rfl rfl HF (fun _ _ _ h => h) (.inl ⟨by rfl, ?_⟩) (by first | assumption | rfl) ?_
                rotate_left
                · intro w hS; try subst hS
                  go_simp; try with_reducible rfl
                try simp only [Act.put, List.setIfInBounds_toArray, List.set_cons_zero, List.set_cons_succ]
                refine AnyH.take (i := 6) (d := some 123) (v := ?_) (by kernel_rfl) rfl rfl HF (fun _ _ _ h => h) (.inl ⟨by rfl, ?_⟩) (by first | assumption | rfl) ?_
                rotate_left
                · intro w hS; try subst hS
                  go_simp; try with_reducible rfl
                try simp only [Act.put, List.setIfInBounds_toArray, List.set_cons_zero, List.set_cons_succ]
                refine AnyH.take (i := 7) (d := some 124) (v := ?_) (by kernel_rfl) rfl rfl HF (fun _ _ _ h => h) (.inl ⟨by rfl, ?_⟩) (by first | assumption | rfl) ?_
                rotate_left
                · intro w hS; try subst hS
                  go_simp; try with_reducible rfl
                try simp only [Act.put, List.setIfInBounds_toArray, List.set_cons_zero, List.set_cons_succ]
                refine AnyH.take (i := 8) (d := some 125) (v := ?_) (by kernel_rfl) rfl rfl HF (fun _ _ _ h => h) (.inl ⟨by rfl, ?_⟩) (by first | assumption | rfl) ?_
                rotate_left
                · intro w hS; try subst hS
                  go_simp; try with_reducible rfl
                try simp only [Act.put, List.setIfInBounds_toArray, List.set_cons_zero, List.set_cons_succ]
                refine AnyH.take (i := 9) (d := some 126) (v := ?_) (by kernel_rfl) rfl rfl HF (fun _ _ _ h => h) (.inl ⟨by rfl, ?_⟩) (by first | assumption | rfl) ?_
                rotate_left
                · intro w hS; try subst hS
                  go_simp; try with_reducible rfl
                try simp only [Act.put, List.setIfInBounds_toArray, List.set_cons_zero, List.set_cons_succ]
                refine AnyH.take (i := 10) (d := some 127) (v := ?_) (by kernel_rfl) rfl rfl HF (fun _ _ _ h => h) (.inl ⟨by rfl, ?_⟩) (by first | assumption | rfl) ?_
                rotate_left
                · intro w hS; try subst hS
                  go_simp; try with_reducible rfl
                try simp only [Act.put, List.setIfInBounds_toArray, List.set_cons_zero, List.set_cons_succ]
                refine AnyH.take (i := 11) (d := some 128) (v := ?_) (by kernel_rfl) rfl rfl HF (fun _ _ _ h => h) (.inl ⟨by rfl, ?_⟩) (by first | assumption | rfl) ?_
                rotate_left
                · intro w hS; try subst hS
                  go_simp; try with_reducible rfl
                try simp only [Act.put, List.setIfInBounds_toArray, List.set_cons_zero, List.set_cons_succ]
                refine AnyH.take (i := 12) (d := some 129) (v := ?_) (by kernel_rfl) rfl rfl HF (fun _ _ _ h => h) (.inl ⟨by rfl, ?_⟩) (by first | assumption | rfl) ?_
                rotate_left
                · intro w hS; try subst hS
                  go_simp; try with_reducible rfl
                try simp only [Act.put, List.setIfInBounds_toArray, List.set_cons_zero, List.set_cons_succ]
                refine AnyH.take (i := 13) (d := some 130) (v := ?_) (by kernel_rfl) rfl rfl HF (fun _ _ _ h => h) (.inl ⟨by rfl, ?_⟩) (by first | assumption | rfl) ?_
                rotate_left
                · intro w hS; try subst hS
                  go_simp; try with_reducible rfl
                try simp only [Act.put, List.setIfInBounds_toArray, List.set_cons_zero, List.set_cons_succ]
                refine AnyH.take (i := 14) (d := some 131) (v := ?_) (by kernel_rfl) rfl rfl HF (fun _ _ _ h => h) (.inl ⟨by rfl, ?_⟩) (by first | assumption | rfl) ?_
                rotate_left
                · intro w hS; try subst hS
                  go_simp; try with_reducible rfl
                try simp only [Act.put, List.setIfInBounds_toArray, List.set_cons_zero, List.set_cons_succ]
                refine AnyH.one (i := 15) (by kernel_rfl) (by kernel_rfl) rfl HF (by rfl) (fun K hK => ?_)
                go_simp
                first | ((with_reducible refine And.intro ?hdep ?_); (case hdep => first | rfl | (intro h; cases h))) | skip
                refine callsIn_wide.2 ((cnt_join C (c + d) (by omega) _ _ _ (HS3.out.1.below (Below.refl _ _).drew)).mono ?_)
                rintro e w4 ⟨z2, rfl, hs4⟩
                have b4 : BC C w3 w4 := B0.trans hs4.2
                refine hK _ _ b4 ?_
                clear hK K
                try simp only [Act.put, List.setIfInBounds_toArray, List.set_cons_zero, List.set_cons_succ]
                refine AnyH.take (i := 16) (d := some 133) (v := ?_) (by kernel_rfl) rfl rfl HF (fun _ _ _ h => h) (.inl ⟨by rfl, ?_⟩) (by first | assumption | rfl) ?_
                rotate_left
                · intro w hS; try subst hS
                  go_simp; try with_reducible rfl
                try simp only [Act.put, List.setIfInBounds_toArray, List.set_cons_zero, List.set_cons_succ]
                refine AnyH.tailL 17 (by kernel_rfl) ?_
                simp only [List.drop_succ_cons, List.drop_zero]
                clear hw1 hw2
                have HX4 := Lib.hid (HX3.out.bc b4 hlt0); have HA4 := Lib.hid (HA3.out.bc b4 (by omega)); have HE4 := Lib.hid (HE3.out.bc b4 hGC); have HR4 := Lib.hid (HR3.out.bc b4 hHC); have HS4 := Lib.hid ((HS3.out.below (Below.refl _ _).drew).step hs4)
                obtain ⟨uc, hu⟩ := HR4.out.cell hlt
                have hfz := HR4.out.free j
                clear kB kC kE kF hs4 b4
                gi_wp2_with fail
                refine NP.normal ?_
                have hg := HL2.out
                have HX5 := Lib.hid (HX4.out.other (a := ⟨H, j, none⟩) (.int .i64 z2) (by simp; omega))
                have HA5 := Lib.hid (HA4.out.other (a := ⟨H, j, none⟩) (.int .i64 z2) (by simp; omega))
                have HE5 := Lib.hid (HE4.out.other (a := ⟨H, j, none⟩) (.int .i64 z2) (by simp; omega))
                have HR5 := Lib.hid (HR4.out.set j z2)
                have HS5 := Lib.hid (HS4.out.set (p := ⟨H, j, none⟩) (by simp; omega) hlt0 (.int .i64 z2))
                clear hg
                go_wp2_with fail
                go_roundw
                case rel => exact ⟨j + 1, d + 1, by omega, by omega, by go_num, HX5.out, HA5.out, HE5.out, HR5.out, HS5.out⟩
                case measure => simp [intOf]; omega
            · obtain rfl : j = m := by omega
              have c1 := box_cell HX.out.2; have f1 := box_frozen HX.out.2
              have HX2 := Lib.hid (HX.out.put (.slice (some ⟨H, 0, none⟩) j j))
              have HS2 := Lib.hid (HS.out.set (p := ⟨W.heap.size + 1, 0, none⟩) (by simp) hlt0 (.slice (some ⟨H, 0, none⟩) j j))
              go_wp2_with fail
              refine leaves_cons (f := 56) (args := #[.pointer (some ⟨W.heap.size + 1, 0, none⟩)]) (by simp) (by simp [go_sem]) ?_
              refine (catch56 ⟨W.heap.size + 1, 0, none⟩ _).mono ?_
              rintro e u' w'' ⟨rfl, rfl, rfl⟩
              have c5 := box_cell HX2.out.2
              simp only [Leaves, settle, results, Try.results36]
              simp [go_sem, c5]
              exact ⟨_, d, rfl, by omega, HS2.out⟩
end C
end Go.Proofs.Ytpgnhnimndagpaa
