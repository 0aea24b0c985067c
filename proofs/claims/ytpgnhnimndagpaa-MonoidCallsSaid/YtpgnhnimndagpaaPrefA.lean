/- Prefixes where an element takes one cell. -/
import Derived.Test.YtpgnhnimndagpaaJoins
import Derived.Test.YtpgnhnimndagpaaBase
import Derived.Test.YtpgnhnimndagpaaLists
import Derived.Test.YtpgnhnimndagpaaMake
import Derived.Test.YtpgnhnimndagpaaOwn
import Derived.Test.YtpgnhnimndagpaaTail
import Derived.Outline
namespace Go.Proofs.Ytpgnhnimndagpaa
open Go.RowKit
namespace A
attribute [local go_sem] Oper.semAt_some

def enc1 (a : Int) : List Value := [Value.int .i64 a]
theorem elem1 : Elem Try.prog 40 3 1 8 := elem_of (z := Value.int .i64 0) (by kernel_rfl) (by kernel_rfl) rfl (by decide) (by decide)
def pfs (L : List Int) (j : Nat) : List Int := (List.range (j + 1)).map fun i => fold1 (addI) (0) (L.take i)
theorem pfs_length (L : List Int) (j : Nat) : (pfs L j).length = j + 1 := by simp [pfs]
theorem pfs_succ (L : List Int) (j : Nat) : pfs L (j + 1) = pfs L j ++ [fold1 (addI) (0) (L.take (j + 1))] := by simp [pfs, List.range_succ]
theorem pfs_get (L : List Int) (j : Nat) : (pfs L j)[j]'(by rw [pfs_length]; omega) = fold1 (addI) (0) (L.take j) := by simp [pfs]

/-- What stands at each round's head. -/
def PI (W w : World) (xs : List Int) : Prop :=
  (∃ v, w.heap[W.heap.size + 1]? = some (.cells #[v] 40 (0, 0)) ∧ SlA W.heap.size w 3 1 enc1 v xs) ∧ w.heap[W.heap.size]? = some (.cells #[] 42 (0, 0)) ∧ Below W.heap.size W w
theorem PI.below {W A C : World} {xs : List Int} (h : PI W A xs) (hb : Below A.heap.size A C) : PI W C xs :=
  ⟨h.1.imp fun _ h => ⟨box_below hb h.1, h.2.below hb⟩, box_below hb h.2.1, Below.step h.2.2 hb⟩
theorem PI.app {W A C : World} {xs ys : List Int} {v v' : Value} {cs : Array Value} (h : PI W A xs) (hS : SlA W.heap.size A 3 1 enc1 v xs) (hS' : SlA W.heap.size C 3 1 enc1 v' ys) (hg : (A.alloc (.cells cs 3)).grownBy C v.ownBlock) (hb : Below W.heap.size A C) : PI W (C.setCell ⟨W.heap.size + 1, 0, none⟩ v') ys := by
  obtain ⟨⟨v0, h1, h2⟩, h3, h4⟩ := h
  have e1 := app_other hS hg h1 (by decide)
  have e3 := app_other hS hg h3 (by decide)
  refine ⟨⟨v', box_set _ e1, hS'.setCell (a := ⟨W.heap.size + 1, 0, none⟩) _ e1 (by decide)⟩, ?_, (h4.trans hb).setCell (p := ⟨W.heap.size + 1, 0, none⟩) (by simp) _⟩
  rw [Below.heap_setCell]
  · exact e3
  · simp

set_option maxRecDepth 100000 in
set_option maxHeartbeats 4000000 in
theorem pref_any {W : World} {v : Value} {L : List Int} (hL : RowAt (Value.int .i64) W v L) (hn : L.length ≤ 1000000) (hJ : ∀ (j : Nat) (h : j < L.length), 0 < j → (fun _ _ : Int => True) (fold1 (addI) (0) (L.take j)) L[j]) :
    Calls Try.prog 38 #[.agg #[], v] W fun e w' => ∃ r, e = .returned r ∧ SlA W.heap.size w' 3 1 enc1 r (pfs L L.length) ∧ Below W.heap.size W w' := by
  obtain ⟨a, cap, rfl, hc1, hc2, hcells⟩ := hL
  unfold maxLen at hc2
  have hmf : ∀ (fn : Fn) (first cap : Array Value) (w : World), (Instr.makeFunc fn first cap).run Try.prog w = .ok (.func fn first cap) w := fun _ _ _ _ => rfl
  have hmU : ∀ w : World, (method 206 42 (.agg #[]) "Unit").run Try.prog w = .ok (78, .agg #[]) w := fun _ => by kernel_rfl
  have hmJ : ∀ w : World, (method 206 42 (.agg #[]) "Join").run Try.prog w = .ok (77, .agg #[]) w := fun _ => by kernel_rfl
  have hmk : ∀ w : World, (Instr.makeSlice 40 (.int .i64 0) (.int .i64 ((L.length : Int) + 1))).run Try.prog w = .ok (.slice (some ⟨w.heap.size, 0, none⟩) 0 (L.length + 1)) (w.alloc (.cells (madeCells #[Value.int .i64 0] (L.length + 1)) 3)) := fun w => by
    have h := mk_run (P := Try.prog) (t := 40) (e := 3) (z := Value.int .i64 0) (size := 1) (bytes := 8) (by kernel_rfl) (by kernel_rfl) 0 (L.length + 1) (by omega) (by omega) (by omega) w
    have hz : (Value.int .i64 0).cells = #[Value.int .i64 0] := rfl
    rw [hz] at h
    simpa using h
  have HM := Lib.hid hcells; have HJ := Lib.hid hJ; clear hcells hJ
  obtain ⟨W0, hW0⟩ : ∃ W0, (((W.alloc (.cells #[] 42)).alloc (.cells #[.slice none 0 0] 40)).alloc (.cells (madeCells #[Value.int .i64 0] (L.length + 1)) 3)).setCell ⟨W.heap.size + 1, 0, none⟩ (.slice (some ⟨W.heap.size + 1 + 1, 0, none⟩) 0 (L.length + 1)) = W0 := ⟨_, rfl⟩
  have hP0 : PI W W0 [] := by
    have b1 : Below W.heap.size W (((W.alloc (.cells #[] 42)).alloc (.cells #[.slice none 0 0] 40)).alloc (.cells (madeCells #[Value.int .i64 0] (L.length + 1)) 3)) := (((Below.refl _ W).alloc (Nat.le_refl _) _).alloc (by simp) _).alloc (by simp; omega) _
    have e1 : (((W.alloc (.cells #[] 42)).alloc (.cells #[.slice none 0 0] 40)).alloc (.cells (madeCells #[Value.int .i64 0] (L.length + 1)) 3)).heap[W.heap.size + 1]? = some (.cells #[.slice none 0 0] 40 (0, 0)) := (Below.heap_alloc _ _ _ (by simp)).trans (heap_new1 _ _ _)
    have s1 : SlA W.heap.size (((W.alloc (.cells #[] 42)).alloc (.cells #[.slice none 0 0] 40)).alloc (.cells (madeCells #[Value.int .i64 0] (L.length + 1)) 3)) 3 1 enc1 (.slice (some ⟨W.heap.size + 1 + 1, 0, none⟩) 0 (L.length + 1)) [] := by
      have := World.ownsRow_made ((W.alloc (.cells #[] 42)).alloc (.cells #[.slice none 0 0] 40)) (madeCells #[Value.int .i64 0] (L.length + 1)) (L.length + 1) (e := 3) (base := W.heap.size) (size := 1) (by simp; omega) (by unfold maxLen; omega) (by rw [size_madeCells, Nat.mul_one])
      simpa [SlA] using this
    rw [← hW0]
    refine ⟨⟨_, box_set _ e1, s1.setCell (a := ⟨W.heap.size + 1, 0, none⟩) _ e1 (by decide)⟩, ?_, b1.setCell (p := ⟨W.heap.size + 1, 0, none⟩) (by simp) _⟩
    rw [Below.heap_setCell]
    · exact (Below.heap_alloc _ _ _ (by simp; omega)).trans ((Below.heap_alloc _ _ _ (by simp)).trans (heap_new W _))
    · simp
  have HP0 := Lib.hid hP0; clear hP0
  have HF : ∀ f, Fence.wide.fn f := fun _ => trivial
  have pf0 : pfs L 0 = [(0)] := rfl
  go_enter_defers Try.func38, Try.ntmps38
  go_wp2_with fail
  clear hW0 hmk
  obtain ⟨v0, k0, s0⟩ := HP0.out.1
  have k1 : ∀ w, Below W0.heap.size W0 w → w.cell? ⟨W.heap.size + 1, 0, none⟩ = some v0 := fun w h => box_cell (box_below h k0)
  have B0 : Below W0.heap.size W0 W0.drew := (Below.refl _ _).drew
  refine wp_region_anyNP (Below W0.heap.size W0) (by kernel_rfl) ?_
  refine AnyH.take (i := 0) (d := some 12) (v := ?_) (by kernel_rfl) rfl rfl HF (fun _ _ _ h => h) (.inl ⟨by rfl, ?_⟩) (by first | assumption | rfl) ?_
  rotate_left
  · intro w hS; try subst hS
    go_simp; try with_reducible rfl
  try simp only [Act.put, List.setIfInBounds_toArray, List.set_cons_zero, List.set_cons_succ]
  refine AnyH.take (i := 1) (d := some 13) (v := ?_) (by kernel_rfl) rfl rfl HF (fun _ _ _ h => h) (.inl ⟨by rfl, ?_⟩) (by first | assumption | rfl) ?_
  rotate_left
  · intro w hS; try subst hS
    go_simp; try with_reducible rfl
  try simp only [Act.put, List.setIfInBounds_toArray, List.set_cons_zero, List.set_cons_succ]
  refine AnyH.take (i := 2) (d := some 14) (v := ?_) (by kernel_rfl) rfl rfl HF (fun _ _ _ h => h) (.inl ⟨by rfl, ?_⟩) (by first | assumption | rfl) ?_
  rotate_left
  · intro w hS; try subst hS
    go_simp; try with_reducible rfl
  try simp only [Act.put, List.setIfInBounds_toArray, List.set_cons_zero, List.set_cons_succ]
  refine AnyH.one (i := 3) (by kernel_rfl) (by kernel_rfl) rfl HF (by rfl) (fun K hK => ?_)
  go_simp
  first | ((with_reducible refine And.intro ?hdep ?_); (case hdep => first | rfl | (intro h; cases h))) | skip
  refine callsIn_wide.2 ((add_unit _).mono ?_)
  rintro e w2 ⟨rfl, b2⟩
  have B2 : Below W0.heap.size W0 w2 := Below.step B0 b2
  clear b2
  refine hK _ _ B2 ?_
  clear hK K
  try simp only [Act.put, List.setIfInBounds_toArray, List.set_cons_zero, List.set_cons_succ]
  refine AnyH.one (i := 4) (by kernel_rfl) (by kernel_rfl) rfl HF (by rfl) (fun K hK => ?_)
  go_simp
  have B3 : Below W0.heap.size W0 (w2.alloc (.cells #[Value.int .i64 (0)] 3)) := B2.alloc B2.size _
  refine hK _ _ B3 ?_
  clear hK K
  try simp only [Act.put, List.setIfInBounds_toArray, List.set_cons_zero, List.set_cons_succ]
  refine AnyH.tailL 5 (by kernel_rfl) ?_
  simp only [List.drop_succ_cons, List.drop_zero]
  have HP2 := Lib.hid (HP0.out.below B2)
  have s2 := s0.below B2; have e2 := box_below B2 k0
  clear k1 k0 s0 B0 B3 B2 HP0
  gi_wp2_with (
    gi_at_builtin
    refine wp_app1In (w0 := w2) elem1 (fun _ => rfl) rfl _ _ rfl rfl s2 (0) rfl rfl (by simp [enc1, Value.oneCell']) (by simp) HP2.out.2.2.size ?_
    intro v' w3 hS' hg hb'
    have e3 := app_other s2 hg e2 (by decide)
    have c3 := box_cell e3; have f3 := box_frozen e3
    obtain ⟨a0, cp, rfl⟩ := hS'.len
    have HP3 := Lib.hid (HP2.out.app s2 hS' hg hb')
    clear e3 hS' hg hb')
  refine NP.normal ?_
  rw [List.nil_append, ← pf0] at HP3
  clear s2 e2 HP2 c3 f3 pf0
  go_wp2_with fail
  go_loopw [20] (fun c wr => ∃ j : Nat, j ≤ L.length ∧ c = .int .i64 j ∧ PI W wr (pfs L j)) (fun c _ => L.length - (intOf c).toNat)
  case atStart => exact ⟨0, by omega, rfl, HP3.out⟩
  case round =>
    obtain ⟨j, hj, rfl, hP⟩ := hrel
    have HP := Lib.hid hP; clear hP HP3
    obtain ⟨v1, k1, s1⟩ := HP.out.1
    have c1 := box_cell k1; have f1 := box_frozen k1
    by_cases hlt : j < L.length
    · have hl3 : (j : Int) < (L.length : Int) := by omega
      have hl4 : (0 : Int) ≤ (j : Int) := by omega
      obtain ⟨b, hb, m1⟩ := HM.out j hlt
      subst hb
      have m1 : wr.cell? (b.add j) = some (Value.int .i64 L[j]) := cell_below m1 HP.out.2.2
      have hsn := pfs_succ L j
      have HSN := Lib.hid hsn; clear hsn
      have hlen := pfs_length L j
      obtain ⟨g, c, rfl, -, -⟩ : ∃ g c, v1 = .slice (some ⟨g, 0, none⟩) (j + 1) c ∧ True ∧ True := by
        rcases s1.shape with ⟨-, h⟩ | ⟨g, c, h, -⟩
        · rw [h] at hlen; simp at hlen
        · exact ⟨g, c, by rw [h, hlen], trivial, trivial⟩
      have hl5 : (j : Int) < (j : Int) + 1 := by omega
      clear hlen
      by_cases h0 : 0 < j
      · have h0' : (0 : Int) < (j : Int) := by omega
        have kE : ∀ w, Below wr.heap.size wr w → w.cell? ⟨g, j, none⟩ = some (Value.int .i64 (fold1 (addI) (0) (L.take j))) := fun w h => by
          have e := SlA.cell (size := 1) (enc := enc1) (fun _ => rfl) (s1.below h) (i := j) (by rw [pfs_length]; omega) (j := 0) Nat.one_pos
          simpa [enc1, pfs_get] using e
        have kB : ∀ w, Below wr.heap.size wr w → w.cell? ⟨W.heap.size + 1, 0, none⟩ = some (.slice (some ⟨g, 0, none⟩) (j + 1) c) := fun w h => box_cell (box_below h k1)
        have hs := HJ.out j hlt h0
        have HFS := Lib.hid (fold1_succ (addI) (0) L j h0 hlt)
        go_wp2_with fail
        have B0 : Below wr.heap.size wr wr.drew := (Below.refl _ _).drew
        refine wp_region_anyNP (Below wr.heap.size wr) (by kernel_rfl) ?_
        refine AnyH.take (i := 0) (d := some 27) (v := ?_) (by kernel_rfl) rfl rfl HF (fun _ _ _ h => h) (.inl ⟨by rfl, ?_⟩) (by first | assumption | rfl) ?_
        rotate_left
        · intro w hS; try subst hS
          go_simp; try with_reducible rfl
        try simp only [Act.put, List.setIfInBounds_toArray, List.set_cons_zero, List.set_cons_succ]
        refine AnyH.take (i := 1) (d := some 28) (v := ?_) (by kernel_rfl) rfl rfl HF (fun _ _ _ h => h) (.inl ⟨by rfl, ?_⟩) (by first | assumption | rfl) ?_
        rotate_left
        · intro w hS; try subst hS
          go_simp; try with_reducible rfl
        try simp only [Act.put, List.setIfInBounds_toArray, List.set_cons_zero, List.set_cons_succ]
        refine AnyH.take (i := 2) (d := some 29) (v := ?_) (by kernel_rfl) rfl rfl HF (fun _ _ _ h => h) (.inl ⟨by rfl, ?_⟩) (by first | assumption | rfl) ?_
        rotate_left
        · intro w hS; try subst hS
          go_simp; try with_reducible rfl
        try simp only [Act.put, List.setIfInBounds_toArray, List.set_cons_zero, List.set_cons_succ]
        refine AnyH.take (i := 3) (d := some 30) (v := ?_) (by kernel_rfl) rfl rfl HF (fun _ _ _ h => h) (.inl ⟨by rfl, ?_⟩) (by first | assumption | rfl) ?_
        rotate_left
        · intro w hS; try subst hS
          go_simp; try with_reducible rfl
        try simp only [Act.put, List.setIfInBounds_toArray, List.set_cons_zero, List.set_cons_succ]
        refine AnyH.take (i := 4) (d := some 31) (v := ?_) (by kernel_rfl) rfl rfl HF (fun _ _ _ h => h) (.inl ⟨by rfl, ?_⟩) (by first | assumption | rfl) ?_
        rotate_left
        · intro w hS; try subst hS
          go_simp; try with_reducible rfl
        try simp only [Act.put, List.setIfInBounds_toArray, List.set_cons_zero, List.set_cons_succ]
        refine AnyH.take (i := 5) (d := some 32) (v := ?_) (by kernel_rfl) rfl rfl HF (fun _ _ _ h => h) (.inl ⟨by rfl, ?_⟩) (by first | assumption | rfl) ?_
        rotate_left
        · intro w hS; try subst hS
          go_simp; try with_reducible rfl
        try simp only [Act.put, List.setIfInBounds_toArray, List.set_cons_zero, List.set_cons_succ]
        refine AnyH.take (i := 6) (d := some 33) (v := ?_) (by kernel_rfl) rfl rfl HF (fun _ _ _ h => h) (.inl ⟨by rfl, ?_⟩) (by first | assumption | rfl) ?_
        rotate_left
        · intro w hS; try subst hS
          go_simp; try with_reducible rfl
        try simp only [Act.put, List.setIfInBounds_toArray, List.set_cons_zero, List.set_cons_succ]
        refine AnyH.tailL 7 (by kernel_rfl) ?_
        simp only [List.drop_succ_cons, List.drop_zero]
        gi_wp2_with fail
        refine ⟨rfl, callsIn_wide.2 ((add_join _ _ _).mono ?_)⟩
        rintro e w4 ⟨rfl, b4⟩
        have b4 := Below.step B0 b4
        rw [← HFS.out]
        gi_wp2_with fail
        refine NP.normal ?_
        have HP4 := Lib.hid (HP.out.below b4)
        have s4 := s1.below b4; have e4 := box_below b4 k1
        have c4 := box_cell e4
        clear b4 B0 kE kB k1 s1 c1 f1 hs h0 h0' HP m1
        go_wp2_with (
          at_builtin
          refine wp_app1G (w0 := w4) elem1 (fun _ => rfl) rfl _ _ rfl rfl s4 (fold1 (addI) (0) (L.take (j + 1))) rfl rfl (by simp [enc1, Value.oneCell']) (by rw [pfs_length]; omega) HP4.out.2.2.size ?_
          intro v' w5 hS' hg hb'
          have e5 := app_other s4 hg e4 (by decide)
          have c5 := box_cell e5; have f5 := box_frozen e5
          obtain ⟨a0, cp, rfl⟩ := hS'.len
          have HP5 := Lib.hid (HP4.out.app s4 hS' hg hb')
          clear e5 hS' hg hb' c4)
        have hl6 : (pfs L (j + 1)).length = (pfs L j).length + 1 := by rw [pfs_length, pfs_length]
        rw [← HSN.out, hl6] at HP5
        clear hl6 s4 e4 HP4 c5 f5
        go_roundw
        case rel => exact ⟨j + 1, by omega, by go_num, HP5.out⟩
        case measure => simp [intOf]; omega
      · have h0' : ¬ ((0 : Int) < (j : Int)) := by omega
        have HFS := Lib.hid (fold1_one (addI) (0) L j h0 hlt)
        have HP4 := HP
        have s4 := s1; have e4 := k1; have c4 := c1
        clear HP s1 k1 c1
        rw [← HFS.out] at m1
        go_wp2_with (
          at_builtin
          refine wp_app1G (w0 := wr) elem1 (fun _ => rfl) rfl _ _ rfl rfl s4 (fold1 (addI) (0) (L.take (j + 1))) rfl rfl (by simp [enc1, Value.oneCell']) (by rw [pfs_length]; omega) HP4.out.2.2.size ?_
          intro v' w5 hS' hg hb'
          have e5 := app_other s4 hg e4 (by decide)
          have c5 := box_cell e5; have f5 := box_frozen e5
          obtain ⟨a0, cp, rfl⟩ := hS'.len
          have HP5 := Lib.hid (HP4.out.app s4 hS' hg hb')
          clear e5 hS' hg hb' c4)
        have hl6 : (pfs L (j + 1)).length = (pfs L j).length + 1 := by rw [pfs_length, pfs_length]
        rw [← HSN.out, hl6] at HP5
        clear hl6 s4 e4 HP4 c5 f5
        go_roundw
        case rel => exact ⟨j + 1, by omega, by go_num, HP5.out⟩
        case measure => simp [intOf]; omega
    · obtain rfl : j = L.length := by omega
      have HB2 := HP.out.2.2.setCell (p := ⟨W.heap.size + 1, 0, none⟩) (by simp) v1
      have s2 := s1.setCell (a := ⟨W.heap.size + 1, 0, none⟩) v1 k1 (by decide)
      have HC2 := Lib.hid (box_set v1 k1)
      obtain ⟨a1, cp1, hv⟩ := s1.len
      rw [pfs_length] at hv
      subst hv
      have H2 := Lib.hid (And.intro s2 HB2)
      clear s1 s2 HB2 k1
      go_wp2_with fail
      refine leaves_cons (f := 58) (args := #[.pointer (some ⟨W.heap.size + 1, 0, none⟩)]) (by simp) (by simp [go_sem]) ?_
      refine (catch58 ⟨W.heap.size + 1, 0, none⟩ _).mono ?_
      rintro e u' w'' ⟨rfl, rfl, rfl⟩
      have c5 := box_cell HC2.out
      have hB3 := H2.out
      simp only [Leaves, settle, results, Try.results38]
      simp [go_sem, c5]
      exact hB3
end A
end Go.Proofs.Ytpgnhnimndagpaa
