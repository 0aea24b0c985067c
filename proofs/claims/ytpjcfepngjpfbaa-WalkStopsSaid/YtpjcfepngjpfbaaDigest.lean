/- Digests: Join, Repeat. -/
import Derived.Test.YtpjcfepngjpfbaaWeight
namespace Go.Proofs.Ytpjcfepngjpfbaa
open Go.RowKit Go.Lib
namespace M
attribute [local go_sem] Oper.semAt_some
theorem P_Q : P = Q := rfl
def Dg.ok (d : Dg) : Prop := d.v < 18446744073709551616 ∧ d.s < 18446744073709551616
theorem Q_lt : Q < 18446744073709551616 := by decide
theorem dg_ok (t : List Nat) : (dg t).ok := ⟨Nat.lt_trans (dgv_lt t) Q_lt, Nat.lt_trans (Nat.mod_lt _ Q_pos) Q_lt⟩
theorem joinD_ok (a b : Dg) : (joinD a b).ok := ⟨Nat.lt_trans (Nat.mod_lt _ Q_pos) Q_lt, Nat.lt_trans (Nat.mod_lt _ Q_pos) Q_lt⟩
set_option maxRecDepth 100000 in
theorem djoin_any (W : World) {a b : Dg} (ha : a.ok) (hb : b.ok) : Calls Try.prog 82 #[.agg #[.int .u64 a.v, .int .u64 a.s], .agg #[.int .u64 b.v, .int .u64 b.s]] W fun e w' => e = .returned (dgV (joinD a b)) ∧ Below W.heap.size W w' := by
  have HF : ∀ f, Fence.wide.fn f := fun _ => trivial
  obtain ⟨W1, hW1⟩ : ∃ w, ((W.alloc (.cells #[.int .u64 a.v, .int .u64 a.s] 86)).alloc (.cells #[.int .u64 b.v, .int .u64 b.s] 86)).alloc (.cells #[.int .u64 0, .int .u64 0] 86) = w := ⟨_, rfl⟩
  have k1 : DgC W1 W.heap.size a := by
    rw [← hW1]
    exact below_block ((Below.refl _ _).alloc (Nat.le_refl _) _) (below_block ((Below.refl _ _).alloc (Nat.le_refl _) _) (heap_new' W _))
  have k2 : DgC W1 (W.heap.size + 1) b := by
    rw [← hW1]
    have := heap_new' (W.alloc (.cells #[.int .u64 a.v, .int .u64 a.s] 86)) (.cells #[.int .u64 b.v, .int .u64 b.s] 86)
    rw [World.size_alloc] at this
    exact below_block ((Below.refl _ _).alloc (Nat.le_refl _) _) this
  have k3 : DgC W1 (W.heap.size + 1 + 1) ⟨0, 0⟩ := by
    rw [← hW1]
    have := heap_new' ((W.alloc (.cells #[.int .u64 a.v, .int .u64 a.s] 86)).alloc (.cells #[.int .u64 b.v, .int .u64 b.s] 86)) (.cells #[.int .u64 0, .int .u64 0] 86)
    simp only [World.size_alloc] at this
    exact this
  have b1 : Below W.heap.size W W1 := by
    rw [← hW1]
    exact (((Below.refl _ W).alloc (Nat.le_refl _) _).alloc (by simp) _).alloc (by simp only [World.size_alloc]; omega) _
  have a0 : ∀ w, Below W1.heap.size W1 w → w.cell? ⟨W.heap.size, 0, none⟩ = some (.int .u64 a.v) := fun w h => (DgC.cells (below_block h k1)).1.1
  have a1 : ∀ w, Below W1.heap.size W1 w → w.cell? ⟨W.heap.size, 1, none⟩ = some (.int .u64 a.s) := fun w h => (DgC.cells (below_block h k1)).1.2
  have b0 : ∀ w, Below W1.heap.size W1 w → w.cell? ⟨W.heap.size + 1, 0, none⟩ = some (.int .u64 b.v) := fun w h => (DgC.cells (below_block h k2)).1.1
  have b1' : ∀ w, Below W1.heap.size W1 w → w.cell? ⟨W.heap.size + 1, 1, none⟩ = some (.int .u64 b.s) := fun w h => (DgC.cells (below_block h k2)).1.2
  have HA := Lib.hid ha; have HB := Lib.hid hb; have B1 := Lib.hid b1; have K3 := Lib.hid k3
  have HJ := Lib.hid (show (joinD a b).v = (a.v * b.s % P + b.v) % P ∧ (joinD a b).s = a.s * b.s % P from ⟨by unfold joinD; rw [P_Q, Nat.mod_add_mod], rfl⟩)
  have HM : Hid (∀ z : Nat, z % P < 18446744073709551616) := Lib.hid (fun z => Nat.lt_trans (Nat.mod_lt _ Q_pos) Q_lt)
  clear k1 k2 k3 b1 ha hb
  go_enter Try.func82, Try.ntmps82
  go_wp2_with fail
  clear hW1
  refine wp_region_anyH (Below W1.heap.size W1) (by kernel_rfl) ?_
  have S0 : Below W1.heap.size W1 W1.drew := (Below.refl _ _).drew
  obtain ⟨w2, hw2⟩ : ∃ w, W1.drew = w := ⟨_, rfl⟩
  rw [hw2] at S0 ⊢
  clear hw2
  refine AnyH.take (i := 0) (d := some 5) (v := ?_) (by kernel_rfl) rfl rfl HF (fun _ _ _ h => h) (.inl ⟨by rfl, ?_⟩) (by first | assumption | rfl) ?_
  rotate_left
  · intro w hS; try subst hS
    go_simp; try with_reducible rfl
  try simp only [Act.put, List.setIfInBounds_toArray, List.set_cons_zero, List.set_cons_succ]
  refine AnyH.take (i := 1) (d := some 6) (v := ?_) (by kernel_rfl) rfl rfl HF (fun _ _ _ h => h) (.inl ⟨by rfl, ?_⟩) (by first | assumption | rfl) ?_
  rotate_left
  · intro w hS; try subst hS
    go_simp; try with_reducible rfl
  try simp only [Act.put, List.setIfInBounds_toArray, List.set_cons_zero, List.set_cons_succ]
  refine AnyH.take (i := 2) (d := some 7) (v := ?_) (by kernel_rfl) rfl rfl HF (fun _ _ _ h => h) (.inl ⟨by rfl, ?_⟩) (by first | assumption | rfl) ?_
  rotate_left
  · intro w hS; try subst hS
    go_simp; try with_reducible rfl
  try simp only [Act.put, List.setIfInBounds_toArray, List.set_cons_zero, List.set_cons_succ]
  refine AnyH.take (i := 3) (d := some 8) (v := ?_) (by kernel_rfl) rfl rfl HF (fun _ _ _ h => h) (.inl ⟨by rfl, ?_⟩) (by first | assumption | rfl) ?_
  rotate_left
  · intro w hS; try subst hS
    go_simp; try with_reducible rfl
  try simp only [Act.put, List.setIfInBounds_toArray, List.set_cons_zero, List.set_cons_succ]
  refine AnyH.take (i := 5) (d := some 10) (v := ?_) (by kernel_rfl) rfl rfl HF (fun _ _ _ h => h) (.inl ⟨by rfl, ?_⟩) (by first | assumption | rfl) ?_
  rotate_left
  · intro w hS; try subst hS
    go_simp; try with_reducible rfl
  try simp only [Act.put, List.setIfInBounds_toArray, List.set_cons_zero, List.set_cons_succ]
  refine AnyH.take (i := 6) (d := some 11) (v := ?_) (by kernel_rfl) rfl rfl HF (fun _ _ _ h => h) (.inl ⟨by rfl, ?_⟩) (by first | assumption | rfl) ?_
  rotate_left
  · intro w hS; try subst hS
    go_simp; try with_reducible rfl
  try simp only [Act.put, List.setIfInBounds_toArray, List.set_cons_zero, List.set_cons_succ]
  refine AnyH.take (i := 8) (d := some 13) (v := ?_) (by kernel_rfl) rfl rfl HF (fun _ _ _ h => h) (.inl ⟨by rfl, ?_⟩) (by first | assumption | rfl) ?_
  rotate_left
  · intro w hS; try subst hS
    go_simp; try with_reducible rfl
  try simp only [Act.put, List.setIfInBounds_toArray, List.set_cons_zero, List.set_cons_succ]
  refine AnyH.take (i := 9) (d := some 14) (v := ?_) (by kernel_rfl) rfl rfl HF (fun _ _ _ h => h) (.inl ⟨by rfl, ?_⟩) (by first | assumption | rfl) ?_
  rotate_left
  · intro w hS; try subst hS
    go_simp; try with_reducible rfl
  try simp only [Act.put, List.setIfInBounds_toArray, List.set_cons_zero, List.set_cons_succ]
  refine AnyH.take (i := 10) (d := some 15) (v := ?_) (by kernel_rfl) rfl rfl HF (fun _ _ _ h => h) (.inl ⟨by rfl, ?_⟩) (by first | assumption | rfl) ?_
  rotate_left
  · intro w hS; try subst hS
    go_simp; try with_reducible rfl
  try simp only [Act.put, List.setIfInBounds_toArray, List.set_cons_zero, List.set_cons_succ]
  refine AnyH.take (i := 11) (d := some 16) (v := ?_) (by kernel_rfl) rfl rfl HF (fun _ _ _ h => h) (.inl ⟨by rfl, ?_⟩) (by first | assumption | rfl) ?_
  rotate_left
  · intro w hS; try subst hS
    go_simp; try with_reducible rfl
  try simp only [Act.put, List.setIfInBounds_toArray, List.set_cons_zero, List.set_cons_succ]
  refine AnyH.one (i := 4) (by kernel_rfl) (by kernel_rfl) rfl HF (by rfl) (fun K hK => ?_)
  go_simp
  first | ((with_reducible refine And.intro ?hdep ?_); (case hdep => first | rfl | (intro h; cases h))) | skip
  refine callsIn_wide.2 ((mul_any w2 a.v b.s HA.out.1 HB.out.2).mono ?_)
  rintro e w ⟨rfl, h⟩; rw [h]; clear h w
  obtain ⟨x, hx⟩ : ∃ x, a.v * b.s % P = x := ⟨_, rfl⟩
  have HX := Lib.hid hx
  rw [hx]; clear hx
  refine hK _ _ S0 ?_
  clear hK K
  try simp only [Act.put, List.setIfInBounds_toArray, List.set_cons_zero, List.set_cons_succ]
  refine AnyH.one (i := 7) (by kernel_rfl) (by kernel_rfl) rfl HF (by rfl) (fun K hK => ?_)
  go_simp
  first | ((with_reducible refine And.intro ?hdep ?_); (case hdep => first | rfl | (intro h; cases h))) | skip
  refine callsIn_wide.2 ((add_any w2 x b.v (by rw [← HX.out]; exact HM.out _) HB.out.1).mono ?_)
  rintro e w ⟨rfl, h⟩; rw [h]; clear h w
  obtain ⟨y, hy⟩ : ∃ y, (x + b.v) % P = y := ⟨_, rfl⟩
  have HY := Lib.hid hy
  rw [hy]; clear hy
  refine hK _ _ S0 ?_
  clear hK K
  try simp only [Act.put, List.setIfInBounds_toArray, List.set_cons_zero, List.set_cons_succ]
  refine AnyH.one (i := 12) (by kernel_rfl) (by kernel_rfl) rfl HF (by rfl) (fun K hK => ?_)
  go_simp
  first | ((with_reducible refine And.intro ?hdep ?_); (case hdep => first | rfl | (intro h; cases h))) | skip
  refine callsIn_wide.2 ((mul_any w2 a.s b.s HA.out.2 HB.out.2).mono ?_)
  rintro e w ⟨rfl, h⟩; rw [h]; clear h w
  obtain ⟨z, hz⟩ : ∃ z, a.s * b.s % P = z := ⟨_, rfl⟩
  have HZ := Lib.hid hz
  rw [hz]; clear hz
  refine hK _ _ S0 ?_
  clear hK K
  try simp only [Act.put, List.setIfInBounds_toArray, List.set_cons_zero, List.set_cons_succ]
  refine AnyH.take (i := 13) (d := some 18) (v := ?_) (by kernel_rfl) rfl rfl HF (fun _ _ _ h => h) (.inl ⟨by rfl, ?_⟩) (by first | assumption | rfl) ?_
  rotate_left
  · intro w hS; try subst hS
    go_simp; try with_reducible rfl
  try simp only [Act.put, List.setIfInBounds_toArray, List.set_cons_zero, List.set_cons_succ]
  refine AnyH.tailL 14 (by kernel_rfl) ?_
  simp only [List.drop_succ_cons, List.drop_zero]
  have k3 := below_block S0 K3.out
  obtain ⟨⟨c0, c1⟩, f0, f1⟩ := DgC.cells k3
  obtain ⟨w3, hw3⟩ : ∃ w, (w2.setCell ⟨W.heap.size + 1 + 1, 0, none⟩ (.int .u64 y)).setCell ⟨W.heap.size + 1 + 1, 1, none⟩ (.int .u64 z) = w := ⟨_, rfl⟩
  have K4 : Hid (DgC w3 (W.heap.size + 1 + 1) ⟨y, z⟩) := Lib.hid (by rw [← hw3]; exact DgC.set k3 ⟨y, z⟩)
  have B4 : Hid (Below W.heap.size W w3) := Lib.hid (by
    rw [← hw3]
    exact ((Below.after B1.out S0).setCell (p := ⟨W.heap.size + 1 + 1, 0, none⟩) (by dsimp only; omega) _).setCell (p := ⟨W.heap.size + 1 + 1, 1, none⟩) (by dsimp only; omega) _)
  have HE : Hid (dgV (joinD a b) = .agg #[.int .u64 y, .int .u64 z]) := Lib.hid (by
    have h1 := HJ.out.1; have h2 := HJ.out.2
    rw [HX.out, HY.out] at h1
    rw [HZ.out] at h2
    unfold dgV
    rw [h1, h2])
  clear k3 S0 a0 a1 b0 b1' HX HY HZ HJ HM
  gi_wp2_with fail
  go_wp2_with fail
  obtain ⟨⟨c0, c1⟩, -⟩ := K4.out.cells
  exact bodyPost_ret (v := .agg #[.int .u64 y, .int .u64 z]) (by simp [results, Try.results82, go_sem, c0, c1]) rfl ⟨by rw [HE.out], B4.out⟩
theorem set_other {W : World} {g k i : Nat} {o : Obj} {v : Value} (hg : k ≠ g) (h : W.heap[k]? = some o) : (W.setCell ⟨g, i, none⟩ v).heap[k]? = some o := by
  rw [Below.heap_setCell _ _ _ _ hg]; exact h
/-- Digest's squaring. -/
theorem rep_half (u : List Nat) (k : Nat) : rep k u = rep (k % 2) u ++ rep (k / 2) (u ++ u) := by
  have e : u ++ u = rep 2 u := by rw [rep_succ, rep_one]
  rw [e, rep_mul, ← rep_add]
  congr 1
  omega
set_option maxRecDepth 100000 in
set_option maxHeartbeats 2000000 in
theorem drep_any (W : World) (t : List Nat) (k : Nat) (hk : k ≤ 9223372036854775807) : Calls Try.prog 91 #[.agg #[.int .u64 (dg t).v, .int .u64 (dg t).s], .int .i64 k] W fun e w' => e = .returned (dgV (dg (rep k t))) ∧ Below W.heap.size W w' := by
  obtain ⟨a, ha⟩ : ∃ a, dg t = a := ⟨_, rfl⟩
  rw [ha]
  obtain ⟨W1, hW1⟩ : ∃ w, (W.alloc (.cells #[.int .u64 a.v, .int .u64 a.s] 86)).alloc (.cells #[.int .u64 0, .int .u64 0] 86) = w := ⟨_, rfl⟩
  have k1 : DgC W1 W.heap.size a := by
    rw [← hW1]
    exact below_block ((Below.refl _ _).alloc (Nat.le_refl _) _) (heap_new' W _)
  have k2 : DgC W1 (W.heap.size + 1) ⟨0, 0⟩ := by
    rw [← hW1]
    have := heap_new' (W.alloc (.cells #[.int .u64 a.v, .int .u64 a.s] 86)) (.cells #[.int .u64 0, .int .u64 0] 86)
    rw [World.size_alloc] at this
    exact this
  have b1 : Below W.heap.size W W1 := by
    rw [← hW1]
    exact ((Below.refl _ W).alloc (Nat.le_refl _) _).alloc (by simp) _
  have K1 := Lib.hid k1; have K2 := Lib.hid k2; have B1 := Lib.hid b1; have HA := Lib.hid ha
  clear k1 k2 b1 ha
  go_enter Try.func91, Try.ntmps91
  go_wp2_with fail
  refine (dunit_any W1).mono ?_; rintro e w1 ⟨rfl, b2⟩
  have ev : dgV (dg []) = .agg #[.int .u64 0, .int .u64 1] := rfl
  rw [ev]
  clear ev hW1
  obtain ⟨g, hg⟩ : ∃ g, w1.heap.size = g := ⟨_, rfl⟩
  obtain ⟨W3, hW3⟩ : ∃ w, w1.alloc (.cells #[.int .u64 0, .int .u64 1] 86) = w := ⟨_, rfl⟩
  have HI : Hid (DgC W3 W.heap.size (dg t) ∧ DgC W3 (W.heap.size + 1) ⟨0, 0⟩ ∧ DgC W3 g (dg []) ∧ Below W.heap.size W W3 ∧ W.heap.size + 1 < g) := Lib.hid (by
    have h3 : Below w1.heap.size w1 W3 := by rw [← hW3]; exact (Below.refl _ _).alloc (Nat.le_refl _) _
    refine ⟨by rw [HA.out]; exact below_block h3 (below_block b2 K1.out), below_block h3 (below_block b2 K2.out), by rw [← hW3, ← hg]; exact heap_new' _ _, Below.after (Below.after B1.out b2) h3, ?_⟩
    have := (Array.getElem?_eq_some_iff.1 K2.out).1
    have := b2.size
    omega)
  have HLT := Lib.hid HI.out.2.2.2.2
  clear b2
  go_wp2_with fail
  try rw [hg]
  clear hg hW3 K1 K2 B1 HA
  go_loopw [1] (fun c wr => ∃ (j : Nat) (r u : List Nat), c = .int .i64 j ∧ j ≤ 9223372036854775807 ∧ DgC wr W.heap.size (dg u) ∧ DgC wr (W.heap.size + 1) ⟨0, 0⟩ ∧ DgC wr g (dg r) ∧ r ++ rep j u = rep k t ∧ Below W.heap.size W wr) (fun c _ => (intOf c).toNat)
  case atStart => exact ⟨k, [], t, rfl, hk, HI.out.1, HI.out.2.1, HI.out.2.2.1, rfl, HI.out.2.2.2.1⟩
  case round =>
    obtain ⟨j, r, u, rfl, hj, q1, q2, q3, hr, hb⟩ := hrel
    by_cases hj0 : 0 < j
    · have t1 : (0 : Int) < (j : Int) := by omega
      have hh := rep_half u j
      obtain ⟨d, hd⟩ : ∃ d, dg u = d := ⟨_, rfl⟩
      obtain ⟨s, hs⟩ : ∃ d, dg r = d := ⟨_, rfl⟩
      rw [hd] at q1; rw [hs] at q3
      have Hd : Hid d.ok := Lib.hid (by rw [← hd]; exact dg_ok _)
      have Hs : Hid s.ok := Lib.hid (by rw [← hs]; exact dg_ok _)
      have Hdd : Hid (dg (u ++ u) = joinD d d) := Lib.hid (by rw [dg_append, hd])
      have Hsd : Hid (dg (r ++ u) = joinD s d) := Lib.hid (by rw [dg_append, hs, hd])
      have Q1 := Lib.hid q1; have Q2 := Lib.hid q2; have Q3 := Lib.hid q3; have HB := Lib.hid hb; have HS := Lib.hid hs
      obtain ⟨⟨c0, c1⟩, f0, f1⟩ := q1.cells
      obtain ⟨⟨d0, d1⟩, e0, e1⟩ := q3.cells
      rcases Nat.mod_two_eq_zero_or_one j with hm | hm
      · have hmi : (j : Int) % 2 = 0 := by omega
        have HN : Hid (r ++ rep (j / 2) (u ++ u) = rep k t) := Lib.hid (by rw [← hr, hh, hm]; rfl)
        clear hh hr hm q1 q2 q3 hb hd hs d0 d1 e0 e1 HI
        go_wp2_with fail
        refine (djoin_any wr Hd.out Hd.out).mono ?_; rintro e w2 ⟨rfl, b2⟩
        obtain ⟨x, hx⟩ : ∃ x, joinD d d = x := ⟨_, rfl⟩
        have ev : dgV x = .agg #[.int .u64 x.v, .int .u64 x.s] := rfl
        have HX : Hid (dg (u ++ u) = x) := Lib.hid (by rw [Hdd.out, hx])
        rw [hx, ev]
        have k2 := below_block b2 Q1.out
        obtain ⟨⟨c0, c1⟩, f0, f1⟩ := DgC.cells k2
        obtain ⟨w3, hw3⟩ : ∃ w, (w2.setCell ⟨W.heap.size, 0, none⟩ (.int .u64 x.v)).setCell ⟨W.heap.size, 1, none⟩ (.int .u64 x.s) = w := ⟨_, rfl⟩
        have HE : Hid (DgC w3 W.heap.size (dg (u ++ u)) ∧ DgC w3 (W.heap.size + 1) ⟨0, 0⟩ ∧ DgC w3 g (dg r) ∧ Below W.heap.size W w3) := Lib.hid (by
          rw [← hw3, HX.out]
          refine ⟨DgC.set k2 x, ?_, ?_, ((Below.after HB.out b2).setCell (p := ⟨W.heap.size, 0, none⟩) (Nat.le_refl _) _).setCell (p := ⟨W.heap.size, 1, none⟩) (Nat.le_refl _) _⟩
          · exact set_other (by omega) (set_other (by omega) (below_block b2 Q2.out))
          · rw [HS.out]; exact set_other (by have := HLT.out; omega) (set_other (by have := HLT.out; omega) (below_block b2 Q3.out)))
        clear k2 b2 hx ev
        go_wp2_with fail
        go_roundw
        case rel => exact ⟨j / 2, r, u ++ u, by go_num, by omega, HE.out.1, HE.out.2.1, HE.out.2.2.1, HN.out, HE.out.2.2.2⟩
        case measure => simp [intOf]; omega
      · have hmi : (j : Int) % 2 = 1 := by omega
        have HN : Hid ((r ++ u) ++ rep (j / 2) (u ++ u) = rep k t) := Lib.hid (by rw [← hr, hh, hm, rep_one, List.append_assoc])
        clear hh hr hm q1 q2 q3 hb hd hs HI
        go_wp2_with fail
        refine (djoin_any wr Hs.out Hd.out).mono ?_; rintro e w2 ⟨rfl, b2⟩
        obtain ⟨y, hy⟩ : ∃ x, joinD s d = x := ⟨_, rfl⟩
        have ev : dgV y = .agg #[.int .u64 y.v, .int .u64 y.s] := rfl
        have HY : Hid (dg (r ++ u) = y) := Lib.hid (by rw [Hsd.out, hy])
        rw [hy, ev]
        have k3 := below_block b2 Q3.out
        obtain ⟨⟨d0, d1⟩, e0, e1⟩ := DgC.cells k3
        obtain ⟨w3, hw3⟩ : ∃ w, (w2.setCell ⟨g, 0, none⟩ (.int .u64 y.v)).setCell ⟨g, 1, none⟩ (.int .u64 y.s) = w := ⟨_, rfl⟩
        have HE : Hid (DgC w3 W.heap.size d ∧ DgC w3 (W.heap.size + 1) ⟨0, 0⟩ ∧ DgC w3 g y ∧ Below W.heap.size W w3) := Lib.hid (by
          rw [← hw3]
          refine ⟨?_, ?_, DgC.set k3 y, ((Below.after HB.out b2).setCell (p := ⟨g, 0, none⟩) (by have := HLT.out; dsimp only; omega) _).setCell (p := ⟨g, 1, none⟩) (by have := HLT.out; dsimp only; omega) _⟩
          · exact set_other (by have := HLT.out; omega) (set_other (by have := HLT.out; omega) (below_block b2 Q1.out))
          · exact set_other (by have := HLT.out; omega) (set_other (by have := HLT.out; omega) (below_block b2 Q2.out)))
        have q1 := HE.out.1
        obtain ⟨⟨c0, c1⟩, f0, f1⟩ := q1.cells
        clear k3 b2 hy ev q1
        go_wp2_with fail
        refine (djoin_any w3 Hd.out Hd.out).mono ?_; rintro e w4 ⟨rfl, b4⟩
        obtain ⟨x, hx⟩ : ∃ x, joinD d d = x := ⟨_, rfl⟩
        have ev : dgV x = .agg #[.int .u64 x.v, .int .u64 x.s] := rfl
        have HX : Hid (dg (u ++ u) = x) := Lib.hid (by rw [Hdd.out, hx])
        rw [hx, ev]
        have k4 := below_block b4 HE.out.1
        obtain ⟨⟨c0, c1⟩, f0, f1⟩ := DgC.cells k4
        obtain ⟨w5, hw5⟩ : ∃ w, (w4.setCell ⟨W.heap.size, 0, none⟩ (.int .u64 x.v)).setCell ⟨W.heap.size, 1, none⟩ (.int .u64 x.s) = w := ⟨_, rfl⟩
        have HE2 : Hid (DgC w5 W.heap.size (dg (u ++ u)) ∧ DgC w5 (W.heap.size + 1) ⟨0, 0⟩ ∧ DgC w5 g (dg (r ++ u)) ∧ Below W.heap.size W w5) := Lib.hid (by
          rw [← hw5, HX.out]
          refine ⟨DgC.set k4 x, ?_, ?_, ((Below.after HE.out.2.2.2 b4).setCell (p := ⟨W.heap.size, 0, none⟩) (Nat.le_refl _) _).setCell (p := ⟨W.heap.size, 1, none⟩) (Nat.le_refl _) _⟩
          · exact set_other (by omega) (set_other (by omega) (below_block b4 HE.out.2.1))
          · rw [HY.out]; exact set_other (by have := HLT.out; omega) (set_other (by have := HLT.out; omega) (below_block b4 HE.out.2.2.1)))
        clear k4 b4 hx ev hw3
        go_wp2_with fail
        go_roundw
        case rel => exact ⟨j / 2, r ++ u, u ++ u, by go_num, by omega, HE2.out.1, HE2.out.2.1, HE2.out.2.2.1, HN.out, HE2.out.2.2.2⟩
        case measure => simp [intOf]; omega
    · obtain rfl : j = 0 := by omega
      obtain ⟨d, hd⟩ : ∃ d, dg r = d := ⟨_, rfl⟩
      have HR : Hid (dg (rep k t) = d) := Lib.hid (by rw [← hr, rep_zero, List.append_nil, hd])
      rw [hd] at q3
      obtain ⟨⟨d0, d1⟩, -⟩ := q3.cells
      obtain ⟨⟨c0, c1⟩, f0, f1⟩ := q2.cells
      obtain ⟨w3, hw3⟩ : ∃ w, (wr.setCell ⟨W.heap.size + 1, 0, none⟩ (.int .u64 d.v)).setCell ⟨W.heap.size + 1, 1, none⟩ (.int .u64 d.s) = w := ⟨_, rfl⟩
      have HE : Hid (DgC w3 (W.heap.size + 1) d ∧ Below W.heap.size W w3) := Lib.hid (by
        rw [← hw3]
        exact ⟨DgC.set q2 d, (hb.setCell (p := ⟨W.heap.size + 1, 0, none⟩) (by dsimp only; omega) _).setCell (p := ⟨W.heap.size + 1, 1, none⟩) (by dsimp only; omega) _⟩)
      clear hr q1 q2 q3 hb hd
      go_wp2_with fail
      obtain ⟨⟨c0, c1⟩, -⟩ := HE.out.1.cells
      exact bodyPost_ret (v := .agg #[.int .u64 d.v, .int .u64 d.s]) (by simp [results, Try.results91, go_sem, c0, c1]) rfl ⟨by rw [HR.out], HE.out.2⟩
end M
end Go.Proofs.Ytpjcfepngjpfbaa
