/- Prefixes over the counting monoid. -/
import Derived.Test.YtpgnhnimndagpaaCallsF
import Derived.Test.YtpgnhnimndagpaaBase
import Derived.Test.YtpgnhnimndagpaaLists
import Derived.Test.YtpgnhnimndagpaaMake
import Derived.Test.YtpgnhnimndagpaaTail
namespace Go.Proofs.Ytpgnhnimndagpaa
open Go.RowKit
namespace C
attribute [local go_sem] Oper.semAt_some

def enc1 (a : Int) : List Value := [.int .i64 a]
theorem elem1 : Elem Try.prog 40 3 1 8 := elem_of (z := Value.int .i64 0) (by kernel_rfl) (by kernel_rfl) rfl (by decide) (by decide)
theorem slA_bc {C B₀ : Nat} {A B : World} {v : Value} {xs : List Int} (hb : BC C A B) (hC : C < B₀) (h : SlA B₀ A 3 1 enc1 v xs) : SlA B₀ B 3 1 enc1 v xs := by
  refine World.ownsRow.kept (row := some C) h ⟨hb.os, hb.tape, hb.output, hb.size, fun k hk hne => hb.block k hk (fun e => hne (by rw [e]))⟩ ?_
  right
  intro e
  have := (h.lt C e).1
  omega
theorem St.app {C c : Nat} {W A D : World} (h : St C W A c) (hC : C < W.heap.size) (hb : Below W.heap.size A D) : St C W D c := by
  refine ⟨?_, ⟨hb.os.trans h.2.os, hb.tape.trans h.2.tape, hb.output.trans h.2.output, Nat.le_trans h.2.size hb.size, fun k hk hc => (hb.block k hk).trans (h.2.block k hk hc)⟩⟩
  show D.heap[C]? = _
  rw [hb.block C hC]; exact h.1
/-- What stands at each round's head. -/
def PI (C : Nat) (W w : World) (n : Nat) : Prop :=
  (∃ v xs, xs.length = n ∧ w.heap[W.heap.size + 1]? = some (.cells #[v] 40 (0, 0)) ∧ SlA W.heap.size w 3 1 enc1 v xs) ∧ w.heap[W.heap.size]? = some (.cells #[.pointer (some ⟨C, 0, none⟩)] 76 (0, 0))
theorem PI.below {C n : Nat} {W A B : World} (h : PI C W A n) (hb : Below A.heap.size A B) : PI C W B n :=
  ⟨h.1.imp fun _ h => h.imp fun _ h => ⟨h.1, box_below hb h.2.1, h.2.2.below hb⟩, box_below hb h.2⟩
theorem PI.bc {C n : Nat} {W A B : World} (h : PI C W A n) (hb : BC C A B) (hC : C < W.heap.size) : PI C W B n :=
  ⟨h.1.imp fun _ h => h.imp fun _ h => ⟨h.1, hb.obj (by omega) h.2.1, slA_bc hb hC h.2.2⟩, hb.obj (by omega) h.2⟩
theorem PI.app {C n : Nat} {W A D : World} {xs ys : List Int} {v v' : Value} {cs : Array Value} (h : PI C W A n) (hS : SlA W.heap.size A 3 1 enc1 v xs) (hS' : SlA W.heap.size D 3 1 enc1 v' ys) (hn : ys.length = n + 1) (hg : (A.alloc (.cells cs 3)).grownBy D v.ownBlock) : PI C W (D.setCell ⟨W.heap.size + 1, 0, none⟩ v') (n + 1) := by
  obtain ⟨⟨v0, x0, h0, h1, h2⟩, h3⟩ := h
  have e1 := app_other hS hg h1 (by decide)
  have e3 := app_other hS hg h3 (by decide)
  refine ⟨⟨v', ys, hn, box_set _ e1, hS'.setCell (a := ⟨W.heap.size + 1, 0, none⟩) _ e1 (by decide)⟩, ?_⟩
  rw [Below.heap_setCell]
  · exact e3
  · simp

set_option maxRecDepth 100000 in
set_option maxHeartbeats 4000000 in
theorem pref_any {W : World} {v : Value} {L : List Int} (hL : RowAt (Value.int .i64) W v L) {C c : Nat} (hC : Cn W C c) (hc : c ≤ 100000) (hn : L.length ≤ 100000) (hrow : ∀ (i : Nat) (h : i < L.length), ∃ b cap, v = .slice (some b) L.length cap ∧ (b.add i).block ≠ C) :
    Calls Try.prog 35 #[.agg #[.pointer (some ⟨C, 0, none⟩)], v] W (FP C c L.length W) := by
  obtain ⟨a, cap, rfl, hc1, hc2, hcells⟩ := hL
  unfold maxLen at hc2
  have hlt0 := hC.lt
  have hmf : ∀ (fn : Fn) (first cap : Array Value) (w : World), (Instr.makeFunc fn first cap).run Try.prog w = .ok (.func fn first cap) w := fun _ _ _ _ => rfl
  have hmU : ∀ w : World, (method 206 76 (.agg #[.pointer (some ⟨C, 0, none⟩)]) "Unit").run Try.prog w = .ok (86, .agg #[.pointer (some ⟨C, 0, none⟩)]) w := fun _ => by kernel_rfl
  have hmJ : ∀ w : World, (method 206 76 (.agg #[.pointer (some ⟨C, 0, none⟩)]) "Join").run Try.prog w = .ok (85, .agg #[.pointer (some ⟨C, 0, none⟩)]) w := fun _ => by kernel_rfl
  have hmk : ∀ w : World, (Instr.makeSlice 40 (.int .i64 0) (.int .i64 ((L.length : Int) + 1))).run Try.prog w = .ok (.slice (some ⟨w.heap.size, 0, none⟩) 0 (L.length + 1)) (w.alloc (.cells (madeCells #[Value.int .i64 0] (L.length + 1)) 3)) := fun w => by
    have h := mk_run (P := Try.prog) (t := 40) (e := 3) (z := Value.int .i64 0) (size := 1) (bytes := 8) (by kernel_rfl) (by kernel_rfl) 0 (L.length + 1) (by omega) (by omega) (by omega) w
    have hz : (Value.int .i64 0).cells = #[Value.int .i64 0] := rfl
    rw [hz] at h
    simpa using h
  have HM : Hid (∀ (i : Nat) (h : i < L.length), ∃ b, a = some b ∧ W.cell? (b.add i) = some (.int .i64 L[i]) ∧ (b.add i).block ≠ C) := Lib.hid (fun i h => by
    obtain ⟨b, e, m⟩ := hcells i h
    obtain ⟨b', cap', e', m'⟩ := hrow i h
    simp only [Value.slice.injEq] at e'
    rw [e] at e'
    obtain ⟨e', -, -⟩ := e'
    cases e'
    exact ⟨b, e, m, m'⟩)
  clear hcells hrow
  obtain ⟨W0, hW0⟩ : ∃ W0, (((W.alloc (.cells #[.pointer (some ⟨C, 0, none⟩)] 76)).alloc (.cells #[.slice none 0 0] 40)).alloc (.cells (madeCells #[Value.int .i64 0] (L.length + 1)) 3)).setCell ⟨W.heap.size + 1, 0, none⟩ (.slice (some ⟨W.heap.size + 1 + 1, 0, none⟩) 0 (L.length + 1)) = W0 := ⟨_, rfl⟩
  have hP0 : (∃ v, W0.heap[W.heap.size + 1]? = some (.cells #[v] 40 (0, 0)) ∧ SlA W.heap.size W0 3 1 enc1 v []) ∧ PI C W W0 0 ∧ Below W.heap.size W W0 := by
    have b1 : Below W.heap.size W (((W.alloc (.cells #[.pointer (some ⟨C, 0, none⟩)] 76)).alloc (.cells #[.slice none 0 0] 40)).alloc (.cells (madeCells #[Value.int .i64 0] (L.length + 1)) 3)) := (((Below.refl _ W).alloc (Nat.le_refl _) _).alloc (by simp) _).alloc (by simp; omega) _
    have e1 : (((W.alloc (.cells #[.pointer (some ⟨C, 0, none⟩)] 76)).alloc (.cells #[.slice none 0 0] 40)).alloc (.cells (madeCells #[Value.int .i64 0] (L.length + 1)) 3)).heap[W.heap.size + 1]? = some (.cells #[.slice none 0 0] 40 (0, 0)) := (Below.heap_alloc _ _ _ (by simp)).trans (heap_new1 _ _ _)
    have s1 : SlA W.heap.size (((W.alloc (.cells #[.pointer (some ⟨C, 0, none⟩)] 76)).alloc (.cells #[.slice none 0 0] 40)).alloc (.cells (madeCells #[Value.int .i64 0] (L.length + 1)) 3)) 3 1 enc1 (.slice (some ⟨W.heap.size + 1 + 1, 0, none⟩) 0 (L.length + 1)) [] := by
      have := World.ownsRow_made ((W.alloc (.cells #[.pointer (some ⟨C, 0, none⟩)] 76)).alloc (.cells #[.slice none 0 0] 40)) (madeCells #[Value.int .i64 0] (L.length + 1)) (L.length + 1) (e := 3) (base := W.heap.size) (size := 1) (by simp; omega) (by unfold maxLen; omega) (by rw [size_madeCells, Nat.mul_one])
      simpa [SlA] using this
    rw [← hW0]
    have x1 := box_set (.slice (some ⟨W.heap.size + 1 + 1, 0, none⟩) 0 (L.length + 1)) e1
    have x2 := s1.setCell (a := ⟨W.heap.size + 1, 0, none⟩) (.slice (some ⟨W.heap.size + 1 + 1, 0, none⟩) 0 (L.length + 1)) e1 (by decide)
    refine ⟨⟨_, x1, x2⟩, ⟨⟨_, _, rfl, x1, x2⟩, ?_⟩, b1.setCell (p := ⟨W.heap.size + 1, 0, none⟩) (by simp) _⟩
    rw [Below.heap_setCell]
    · exact (Below.heap_alloc _ _ _ (by simp; omega)).trans ((Below.heap_alloc _ _ _ (by simp)).trans (heap_new W _))
    · simp
  have HP0 := Lib.hid hP0.2.1; have HS0 : Hid (St C W W0 c) := Lib.hid ((St.refl hC).below hP0.2.2)
  obtain ⟨⟨v0, k0, s0⟩, -, b0⟩ := hP0
  have c0 := box_cell HP0.out.2
  have HZ0 := Lib.hid b0.size
  have HF : ∀ f, Fence.wide.fn f := fun _ => trivial
  clear b0
  go_enter_defers Try.func35, Try.ntmps35
  go_wp2_with fail
  clear hW0 hmk
  have k1 : ∀ w, Below W0.heap.size W0 w → w.cell? ⟨W.heap.size + 1, 0, none⟩ = some v0 := fun w h => box_cell (box_below h k0)
  have k2 : ∀ w, Below W0.heap.size W0 w → w.cell? ⟨W.heap.size, 0, none⟩ = some (.pointer (some ⟨C, 0, none⟩)) := fun w h => box_cell (box_below h HP0.out.2)
  have B0 : Below W0.heap.size W0 W0.drew := (Below.refl _ _).drew
  clear c0
  refine wp_region_anyNP (Below W0.heap.size W0) (by kernel_rfl) ?_
  refine AnyH.take (i := 0) (d := some 12) (v := ?_) (by kernel_rfl) rfl rfl HF (fun _ _ _ h => h) (.inl ⟨by rfl, ?_⟩) (by first | assumption | rfl) ?_
  rotate_left
  · intro w hS; try subst hS
    go_simp; try with_reducible rfl
  try simp only [Act.put, List.setIfInBounds_toArray, List.set_cons_zero, List.set_cons_succ]
  refine AnyH.take (i := 1) (d := some 13) (v := ?_) (by kernel_rfl) rfl rfl HF (fun _ _ _ h => h) (.inl ⟨by rfl, ?_⟩) (by first | assumption | rfl) ?_
  rotate_left
  · intro w hS; try subst hS
    go_simp; try with_reducible rfl
  try simp only [Act.put, List.setIfInBounds_toArray, List.set_cons_zero, List.set_cons_succ]
  refine AnyH.take (i := 2) (d := some 14) (v := ?_) (by kernel_rfl) rfl rfl HF (fun _ _ _ h => h) (.inl ⟨by rfl, ?_⟩) (by first | assumption | rfl) ?_
  rotate_left
  · intro w hS; try subst hS
    go_simp; try with_reducible rfl
  try simp only [Act.put, List.setIfInBounds_toArray, List.set_cons_zero, List.set_cons_succ]
  refine AnyH.one (i := 3) (by kernel_rfl) (by kernel_rfl) rfl HF (by rfl) (fun K hK => ?_)
  go_simp
  first | ((with_reducible refine And.intro ?hdep ?_); (case hdep => first | rfl | (intro h; cases h))) | skip
  refine callsIn_wide.2 ((cnt_unit C _).mono ?_)
  rintro e w2 ⟨rfl, b2⟩
  have B2 : Below W0.heap.size W0 w2 := Below.step B0 b2
  clear b2
  refine hK _ _ B2 ?_
  clear hK K
  try simp only [Act.put, List.setIfInBounds_toArray, List.set_cons_zero, List.set_cons_succ]
  refine AnyH.one (i := 4) (by kernel_rfl) (by kernel_rfl) rfl HF (by rfl) (fun K hK => ?_)
  go_simp
  have B3 : Below W0.heap.size W0 (w2.alloc (.cells #[Value.int .i64 0] 3)) := B2.alloc B2.size _
  refine hK _ _ B3 ?_
  clear hK K
  try simp only [Act.put, List.setIfInBounds_toArray, List.set_cons_zero, List.set_cons_succ]
  refine AnyH.tailL 5 (by kernel_rfl) ?_
  simp only [List.drop_succ_cons, List.drop_zero]
  have HP2 := Lib.hid (HP0.out.below B2); have HS2 := Lib.hid (HS0.out.below B2)
  have s2 := s0.below B2; have e2 := box_below B2 k0
  have hz2 : W.heap.size ≤ w2.heap.size := Nat.le_trans HZ0.out B2.size
  clear k1 k2 k0 s0 B0 B3 B2 HP0 HS0
  gi_wp2_with (
    gi_at_builtin
    refine wp_app1In (w0 := w2) elem1 (fun _ => rfl) rfl _ _ rfl rfl s2 (0 : Int) rfl rfl (by simp [enc1, Value.oneCell']) (by simp) hz2 ?_
    intro v' w3 hS' hg hb'
    have e3 := app_other s2 hg e2 (by decide)
    have c3 := box_cell e3; have f3 := box_frozen e3
    obtain ⟨a0, cp, rfl⟩ := hS'.len
    have HP3 := Lib.hid (HP2.out.app s2 hS' (by simp) hg)
    have HS3 := Lib.hid ((HS2.out.app hlt0 hb').set (p := ⟨W.heap.size + 1, 0, none⟩) (by simp) hlt0 (.slice a0 ([] ++ [(0 : Int)]).length cp))
    clear e3 hS' hg hb')
  refine NP.normal ?_
  clear s2 e2 HP2 HS2 c3 f3 HZ0 hz2
  go_wp2_with fail
  go_loopw [20] (fun k wr => ∃ j d : Nat, j ≤ L.length ∧ d ≤ j ∧ k = .int .i64 j ∧ PI C W wr (j + 1) ∧ St C W wr (c + d)) (fun k _ => L.length - (intOf k).toNat)
  case atStart => exact ⟨0, 0, by omega, by omega, rfl, HP3.out, HS3.out⟩
  case round =>
    obtain ⟨j, d, hj, hd, rfl, hP, hS⟩ := hrel
    have HP := Lib.hid hP; have HS := Lib.hid hS; clear hP hS HP3 HS3
    obtain ⟨⟨v1, xs, hxs, k1, s1⟩, k2⟩ := HP.out
    have hz := HS.out.2.size
    have c1 := box_cell k1; have f1 := box_frozen k1
    by_cases hlt : j < L.length
    · have hl3 : (j : Int) < (L.length : Int) := by omega
      have hl4 : (0 : Int) ≤ (j : Int) := by omega
      obtain ⟨b, hb, m1, hbl⟩ := HM.out j hlt
      subst hb
      have m1 : wr.cell? (b.add j) = some (Value.int .i64 L[j]) := HS.out.2.cell hbl m1
      clear hbl
      obtain ⟨g, cp1, rfl, -, -⟩ : ∃ g c, v1 = .slice (some ⟨g, 0, none⟩) (j + 1) c ∧ True ∧ True := by
        rcases s1.shape with ⟨-, h⟩ | ⟨g, c, h, -⟩
        · rw [h] at hxs; simp at hxs
        · exact ⟨g, c, by rw [h, hxs], trivial, trivial⟩
      have hl5 : (j : Int) < (j : Int) + 1 := by omega
      have hby : (xs.length + 1) * 8 ≤ 140737488355328 := by rw [hxs]; omega
      have hlen2 : ∀ z : Int, (xs ++ [z]).length = j + 1 + 1 := fun z => by simp [hxs]
      by_cases h0 : 0 < j
      · have h0' : (0 : Int) < (j : Int) := by omega
        obtain ⟨xj, hxj⟩ : ∃ xj, xs[j]'(by omega) = xj := ⟨_, rfl⟩
        have kE : ∀ w, Below wr.heap.size wr w → w.cell? ⟨g, j, none⟩ = some (Value.int .i64 xj) := fun w h => by
          have e := SlA.cell (size := 1) (enc := enc1) (fun _ => rfl) (s1.below h) (i := j) (by omega) (j := 0) Nat.one_pos
          rw [← hxj]
          simpa [enc1] using e
        have kB : ∀ w, Below wr.heap.size wr w → w.cell? ⟨W.heap.size + 1, 0, none⟩ = some (.slice (some ⟨g, 0, none⟩) (j + 1) cp1) := fun w h => box_cell (box_below h k1)
        have kC : ∀ w, Below wr.heap.size wr w → w.cell? ⟨W.heap.size, 0, none⟩ = some (.pointer (some ⟨C, 0, none⟩)) := fun w h => box_cell (box_below h k2)
        clear hxj
        go_wp2_with fail
        have B0 : Below wr.heap.size wr wr.drew := (Below.refl _ _).drew
        refine wp_region_anyNP (Below wr.heap.size wr) (by kernel_rfl) ?_
        refine AnyH.take (i := 0) (d := some 27) (v := ?_) (by kernel_rfl) rfl rfl HF (fun _ _ _ h => h) (.inl ⟨by rfl, ?_⟩) (by first | assumption | rfl) ?_
        rotate_left
        · intro w hS; try subst hS
          go_simp; try with_reducible rfl
        try simp only [Act.put, List.setIfInBounds_toArray, List.set_cons_zero, List.set_cons_succ]
        refine AnyH.take (i := 1) (d := some 28) (v := ?_) (by kernel_rfl) rfl rfl HF (fun _ _ _ h => h) (.inl ⟨by rfl, ?_⟩) (by first | assumption | rfl) ?_
        rotate_left
        · intro w hS; try subst hS
          go_simp; try with_reducible rfl
        try simp only [Act.put, List.setIfInBounds_toArray, List.set_cons_zero, List.set_cons_succ]
        refine AnyH.take (i := 2) (d := some 29) (v := ?_) (by kernel_rfl) rfl rfl HF (fun _ _ _ h => h) (.inl ⟨by rfl, ?_⟩) (by first | assumption | rfl) ?_
        rotate_left
        · intro w hS; try subst hS
          go_simp; try with_reducible rfl
        try simp only [Act.put, List.setIfInBounds_toArray, List.set_cons_zero, List.set_cons_succ]
        refine AnyH.take (i := 3) (d := some 30) (v := ?_) (by kernel_rfl) rfl rfl HF (fun _ _ _ h => h) (.inl ⟨by rfl, ?_⟩) (by first | assumption | rfl) ?_
        rotate_left
        · intro w hS; try subst hS
          go_simp; try with_reducible rfl
        try simp only [Act.put, List.setIfInBounds_toArray, List.set_cons_zero, List.set_cons_succ]
        refine AnyH.take (i := 4) (d := some 31) (v := ?_) (by kernel_rfl) rfl rfl HF (fun _ _ _ h => h) (.inl ⟨by rfl, ?_⟩) (by first | assumption | rfl) ?_
        rotate_left
        · intro w hS; try subst hS
          go_simp; try with_reducible rfl
        try simp only [Act.put, List.setIfInBounds_toArray, List.set_cons_zero, List.set_cons_succ]
        refine AnyH.take (i := 5) (d := some 32) (v := ?_) (by kernel_rfl) rfl rfl HF (fun _ _ _ h => h) (.inl ⟨by rfl, ?_⟩) (by first | assumption | rfl) ?_
        rotate_left
        · intro w hS; try subst hS
          go_simp; try with_reducible rfl
        try simp only [Act.put, List.setIfInBounds_toArray, List.set_cons_zero, List.set_cons_succ]
        refine AnyH.take (i := 6) (d := some 33) (v := ?_) (by kernel_rfl) rfl rfl HF (fun _ _ _ h => h) (.inl ⟨by rfl, ?_⟩) (by first | assumption | rfl) ?_
        rotate_left
        · intro w hS; try subst hS
          go_simp; try with_reducible rfl
        try simp only [Act.put, List.setIfInBounds_toArray, List.set_cons_zero, List.set_cons_succ]
        refine AnyH.tailL 7 (by kernel_rfl) ?_
        simp only [List.drop_succ_cons, List.drop_zero]
        gi_wp2_with fail
        refine ⟨rfl, callsIn_wide.2 ((cnt_join C (c + d) (by omega) _ _ _ (HS.out.1.below B0)).mono ?_)⟩
        rintro e w4 ⟨z2, rfl, hs4⟩
        gi_wp2_with fail
        refine NP.normal ?_
        have hs4' := (BC.of B0).trans hs4.2
        have HP4 := Lib.hid (HP.out.bc hs4' hlt0); have HS4 := Lib.hid ((HS.out.below B0).step hs4)
        have s4 := slA_bc hs4' hlt0 s1; have e4 := hs4'.obj (by omega) k1
        have c4 := box_cell e4
        have hz4 := HS4.out.2.size
        clear hs4 hs4' B0 kE kB kC k1 k2 s1 c1 f1 h0 h0' HP HS m1
        go_wp2_with (
          at_builtin
          refine wp_app1G (w0 := w4) (enc := enc1) elem1 (fun _ => rfl) rfl _ _ rfl rfl s4 z2 rfl rfl (by simp [enc1, Value.oneCell']) hby hz4 ?_
          intro v' w5 hS' hg hb'
          have e5 := app_other s4 hg e4 (by decide)
          have c5 := box_cell e5; have f5 := box_frozen e5
          obtain ⟨a0, cp, hv⟩ := hS'.len
          have hle := hlen2 z2
          rw [hle] at hv
          subst hv
          have HP5 := Lib.hid (HP4.out.app s4 hS' hle hg)
          have HS5 := Lib.hid ((HS4.out.app hlt0 hb').set (p := ⟨W.heap.size + 1, 0, none⟩) (by simp) hlt0 (.slice a0 (j + 1 + 1) cp))
          clear e5 hS' hg hb' c4 hle)
        clear s4 e4 HP4 c5 f5
        go_roundw
        case rel => exact ⟨j + 1, d + 1, by omega, by omega, by go_num, HP5.out, HS5.out⟩
        case measure => simp [intOf]; omega
      · have h0' : ¬ ((0 : Int) < (j : Int)) := by omega
        go_wp2_with (
          at_builtin
          refine wp_app1G (w0 := wr) (enc := enc1) elem1 (fun _ => rfl) rfl _ _ rfl rfl s1 L[j] rfl rfl (by simp [enc1, Value.oneCell']) hby hz ?_
          intro v' w5 hS' hg hb'
          have e5 := app_other s1 hg k1 (by decide)
          have c5 := box_cell e5; have f5 := box_frozen e5
          obtain ⟨a0, cp, hv⟩ := hS'.len
          have hle := hlen2 L[j]
          rw [hle] at hv
          subst hv
          have HP5 := Lib.hid (HP.out.app s1 hS' hle hg)
          have HS5 := Lib.hid ((HS.out.app hlt0 hb').set (p := ⟨W.heap.size + 1, 0, none⟩) (by simp) hlt0 (.slice a0 (j + 1 + 1) cp))
          clear e5 hS' hg hb' c1 hle)
        clear s1 k1 HP HS c5 f5
        go_roundw
        case rel => exact ⟨j + 1, d, by omega, by omega, by go_num, HP5.out, HS5.out⟩
        case measure => simp [intOf]; omega
    · obtain rfl : j = L.length := by omega
      have HC2 := Lib.hid (box_set v1 k1)
      have HS2 := Lib.hid (HS.out.set (p := ⟨W.heap.size + 1, 0, none⟩) (by simp) hlt0 v1)
      obtain ⟨a1, cp1, hv⟩ := s1.len
      rw [hxs] at hv
      subst hv
      clear s1 k1 k2 HP HS
      go_wp2_with fail
      refine leaves_cons (f := 55) (args := #[.pointer (some ⟨W.heap.size + 1, 0, none⟩)]) (by simp) (by simp [go_sem]) ?_
      refine (catch55 ⟨W.heap.size + 1, 0, none⟩ _).mono ?_
      rintro e u' w'' ⟨rfl, rfl, rfl⟩
      have c5 := box_cell HC2.out
      simp only [Leaves, settle, results, Try.results35]
      simp [go_sem, c5]
      exact ⟨_, d, rfl, by omega, HS2.out⟩
end C
end Go.Proofs.Ytpgnhnimndagpaa
