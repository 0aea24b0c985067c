/- The contract of level, at each instance. Written by mklevel.py. -/
import Derived.Test.YtlfodhejpbjfcaaNodesd
set_option linter.unusedVariables false
set_option linter.unusedSimpArgs false
namespace Go.Proofs.Ytlfodhejpbjfcaa
open Go.RowKit
namespace sd
theorem tall_at {W : World} {p : Option Addr} {T : Tr ByteArray Int} (h : Is W p T) (w : World) (hB : Below W.heap.size W w) : Calls Try.prog 101 #[.pointer p] w fun e w' => e = .returned (.int .i64 T.ht) ∧ w = w' := tall_any (h.below hB)
theorem cell_at {W : World} {a : Addr} {v : Value} (h : W.cell? a = some v) (w : World) (hB : Below W.heap.size W w) : w.cell? a = some v := (hB.cell (World.block_lt_of_cell? W a h)).trans h

set_option maxRecDepth 100000 in
set_option maxHeartbeats 1600000 in
theorem level_LL {W : World} {pl pr : Option Addr} {ll lr O : Tr ByteArray Int} {lk : ByteArray} {lv : Int} (k : ByteArray) (v : Int) (hL : Is W pl (Tr.node ll lk lv lr)) (hR : Is W pr O) (hs : ll.sz + lr.sz + O.sz ≤ 999990)
    (h1 : O.ht + 1 < (Tr.node ll lk lv lr).ht) (h2 : lr.ht ≤ ll.ht) :
    Calls Try.prog 95 #[.pointer pl, Value.string k, Value.int .i64 v, .pointer pr] W fun e w' => ∃ p', e = .returned (.pointer p') ∧ Is w' p' (.node ll lk lv (.node lr k v O)) ∧ Below W.heap.size W w' := by
  have H1 := Lib.hid (tall_any hL); have H2 := Lib.hid (tall_any hR)
  have HO := Lib.hid hR; clear hR
  obtain ⟨b, pll, plr, rfl, hb, hll, hlr⟩ := hL
  obtain ⟨c0, c1, c2, c3, -, -⟩ := node_cells hb
  have H3 := Lib.hid (tall_at hll); have H4 := Lib.hid (tall_at hlr)
  have d0 := cell_at c0; have d1 := cell_at c1; have d2 := cell_at c2; have d3 := cell_at c3
  have Hll := Lib.hid hll; have Hlr := Lib.hid hlr
  clear hll hlr
  clear c0 c1 c2 c3 hb
  have n_ll := ll.sz_nonneg; have m_ll := ll.ht_nonneg; have q_ll := ll.ht_le_sz
  have n_lr := lr.sz_nonneg; have m_lr := lr.ht_nonneg; have q_lr := lr.ht_le_sz
  have n_O := O.sz_nonneg; have m_O := O.ht_nonneg; have q_O := O.ht_le_sz
  have S1 := Lib.hid (show (lr).sz + (O).sz ≤ 1000000 by first | omega | (simp only [Tr.sz]; omega))
  have S2 := Lib.hid (show (ll).sz + (Tr.node lr k v O).sz ≤ 1000000 by first | omega | (simp only [Tr.sz]; omega))
  have m1 := (Tr.node ll lk lv lr).ht_le_sz; have m2 := (Tr.node ll lk lv lr).ht_nonneg; simp only [Tr.sz] at m1
  have hmx : (Tr.node ll lk lv lr).ht ≤ 1000000 := by omega
  have hox : O.ht ≤ 1000000 := by omega
  clear hs m1 n_ll q_ll n_lr q_lr n_O q_O
  generalize (Tr.node ll lk lv lr).ht = mh at *; generalize O.ht = oh at *
  generalize ll.ht = lh at *
  generalize lr.ht = rh at *
  have B0 : Below W.heap.size W W := Below.refl _ _
  go_enter Try.func95, Try.ntmps95
  go_wp2_with fail
  refine H1.out.mono ?_; rintro e w' ⟨rfl, rfl⟩
  go_wp2_with fail
  refine H2.out.mono ?_; rintro e w' ⟨rfl, rfl⟩
  go_wp2_with fail
  go_region_held3 (fun w' => Below W.heap.size W w') (first | assumption | exact Below.drew (by assumption)) (first
    | (go_at_call 101; with_reducible refine (H3.out _ (by assumption)).mono ?_; rintro e w' ⟨rfl, rfl⟩)
    | (go_at_call 101; with_reducible refine (H4.out _ (by assumption)).mono ?_; rintro e w' ⟨rfl, rfl⟩))
  go_wp2_with fail
  go_region_held3 (fun w' => Below W.heap.size W w') (first | assumption | exact Below.drew (by assumption)) (first
    | (go_at_call 94; with_reducible refine (build_any k v (IsT.below (by assumption) Hlr.out) (IsT.below (by assumption) HO.out) S1.out).mono ?_; rintro e w' ⟨p1, rfl, hT1, hB1⟩; have hC1 : Below W.heap.size W w' := Below.step (by assumption) hB1)
    | (go_at_call 94; with_reducible refine (build_any lk lv (IsT.below (by assumption) Hll.out) hT1 S2.out).mono ?_; rintro e w' ⟨p2, rfl, hT2, hB2⟩; have hC2 : Below W.heap.size W w' := Below.step (by assumption) hB2))
  go_wp2_with fail
  go_ret
  exact ⟨_, rfl, hT2, hC2⟩

set_option maxRecDepth 100000 in
set_option maxHeartbeats 1600000 in
theorem level_LR {W : World} {pl pr : Option Addr} {ll a c O : Tr ByteArray Int} {lk : ByteArray} {lv : Int} {tk : ByteArray} {tv : Int} (k : ByteArray) (v : Int) (hL : Is W pl (Tr.node ll lk lv (Tr.node a tk tv c))) (hR : Is W pr O) (hs : ll.sz + a.sz + c.sz + O.sz ≤ 999990)
    (h1 : O.ht + 1 < (Tr.node ll lk lv (Tr.node a tk tv c)).ht) (h2 : ll.ht < (Tr.node a tk tv c).ht) :
    Calls Try.prog 95 #[.pointer pl, Value.string k, Value.int .i64 v, .pointer pr] W fun e w' => ∃ p', e = .returned (.pointer p') ∧ Is w' p' (.node (.node ll lk lv a) tk tv (.node c k v O)) ∧ Below W.heap.size W w' := by
  have H1 := Lib.hid (tall_any hL); have H2 := Lib.hid (tall_any hR)
  have HO := Lib.hid hR; clear hR
  obtain ⟨b, pll, plr, rfl, hb, hll, hlr⟩ := hL
  obtain ⟨c0, c1, c2, c3, -, -⟩ := node_cells hb
  have H3 := Lib.hid (tall_at hll); have H4 := Lib.hid (tall_at hlr)
  have d0 := cell_at c0; have d1 := cell_at c1; have d2 := cell_at c2; have d3 := cell_at c3
  obtain ⟨b2, pa, pc, rfl, hb2, ha, hc⟩ := hlr
  obtain ⟨f0, f1, f2, f3, -, -⟩ := node_cells hb2
  have g0 := cell_at f0; have g1 := cell_at f1; have g2 := cell_at f2; have g3 := cell_at f3
  have Hk := Lib.hid hll; have Ha := Lib.hid ha; have Hc := Lib.hid hc
  clear f0 f1 f2 f3 hb2 hll ha hc
  clear c0 c1 c2 c3 hb
  have n_ll := ll.sz_nonneg; have m_ll := ll.ht_nonneg; have q_ll := ll.ht_le_sz
  have n_a := a.sz_nonneg; have m_a := a.ht_nonneg; have q_a := a.ht_le_sz
  have n_c := c.sz_nonneg; have m_c := c.ht_nonneg; have q_c := c.ht_le_sz
  have n_O := O.sz_nonneg; have m_O := O.ht_nonneg; have q_O := O.ht_le_sz
  have S1 := Lib.hid (show (ll).sz + (a).sz ≤ 1000000 by first | omega | (simp only [Tr.sz]; omega))
  have S2 := Lib.hid (show (c).sz + (O).sz ≤ 1000000 by first | omega | (simp only [Tr.sz]; omega))
  have S3 := Lib.hid (show (Tr.node ll lk lv a).sz + (Tr.node c k v O).sz ≤ 1000000 by first | omega | (simp only [Tr.sz]; omega))
  have q1 := (Tr.node a tk tv c).ht_le_sz; have q2 := (Tr.node a tk tv c).ht_nonneg; simp only [Tr.sz] at q1
  have m1 := (Tr.node ll lk lv (Tr.node a tk tv c)).ht_le_sz; have m2 := (Tr.node ll lk lv (Tr.node a tk tv c)).ht_nonneg; simp only [Tr.sz] at m1
  have hmx : (Tr.node ll lk lv (Tr.node a tk tv c)).ht ≤ 1000000 := by omega
  have hox : O.ht ≤ 1000000 := by omega
  clear hs m1 n_ll q_ll n_a q_a n_c q_c n_O q_O q1
  generalize (Tr.node ll lk lv (Tr.node a tk tv c)).ht = mh at *; generalize O.ht = oh at *
  generalize (Tr.node a tk tv c).ht = th at *
  generalize ll.ht = lh at *
  have B0 : Below W.heap.size W W := Below.refl _ _
  go_enter Try.func95, Try.ntmps95
  go_wp2_with fail
  refine H1.out.mono ?_; rintro e w' ⟨rfl, rfl⟩
  go_wp2_with fail
  refine H2.out.mono ?_; rintro e w' ⟨rfl, rfl⟩
  go_wp2_with fail
  go_region_held3 (fun w' => Below W.heap.size W w') (first | assumption | exact Below.drew (by assumption)) (first
    | (go_at_call 101; with_reducible refine (H3.out _ (by assumption)).mono ?_; rintro e w' ⟨rfl, rfl⟩)
    | (go_at_call 101; with_reducible refine (H4.out _ (by assumption)).mono ?_; rintro e w' ⟨rfl, rfl⟩))
  have d3' := d3 _ (by assumption)
  go_wp2_with fail
  go_region_held3 (fun w' => Below W.heap.size W w') (first | assumption | exact Below.drew (by assumption)) (first
    | (go_at_call 94; with_reducible refine (build_any lk lv (IsT.below (by assumption) Hk.out) (IsT.below (by assumption) Ha.out) S1.out).mono ?_; rintro e w' ⟨p1, rfl, hT1, hB1⟩; have hC1 : Below W.heap.size W w' := Below.step (by assumption) hB1)
    | (go_at_call 94; with_reducible refine (build_any k v (IsT.below (by assumption) Hc.out) (IsT.below (by assumption) HO.out) S2.out).mono ?_; rintro e w' ⟨p2, rfl, hT2, hB2⟩; have hC2 : Below W.heap.size W w' := Below.step (by assumption) hB2)
    | (go_at_call 94; with_reducible refine (build_any tk tv (IsT.below hB2 hT1) hT2 S3.out).mono ?_; rintro e w' ⟨p3, rfl, hT3, hB3⟩; have hC3 : Below W.heap.size W w' := Below.step (by assumption) hB3))
  go_wp2_with fail
  go_ret
  exact ⟨_, rfl, hT3, hC3⟩

set_option maxRecDepth 100000 in
set_option maxHeartbeats 1600000 in
theorem level_RR {W : World} {pl pr : Option Addr} {ll lr O : Tr ByteArray Int} {lk : ByteArray} {lv : Int} (k : ByteArray) (v : Int) (hL : Is W pl O) (hR : Is W pr (Tr.node ll lk lv lr)) (hs : ll.sz + lr.sz + O.sz ≤ 999990)
    (h1 : O.ht + 1 < (Tr.node ll lk lv lr).ht) (h2 : ll.ht ≤ lr.ht) :
    Calls Try.prog 95 #[.pointer pl, Value.string k, Value.int .i64 v, .pointer pr] W fun e w' => ∃ p', e = .returned (.pointer p') ∧ Is w' p' (.node (.node O k v ll) lk lv lr) ∧ Below W.heap.size W w' := by
  have H1 := Lib.hid (tall_any hL); have H2 := Lib.hid (tall_any hR)
  have HO := Lib.hid hL; clear hL
  obtain ⟨b, pll, plr, rfl, hb, hll, hlr⟩ := hR
  obtain ⟨c0, c1, c2, c3, -, -⟩ := node_cells hb
  have H3 := Lib.hid (tall_at hll); have H4 := Lib.hid (tall_at hlr)
  have d0 := cell_at c0; have d1 := cell_at c1; have d2 := cell_at c2; have d3 := cell_at c3
  have Hll := Lib.hid hll; have Hlr := Lib.hid hlr
  clear hll hlr
  clear c0 c1 c2 c3 hb
  have n_ll := ll.sz_nonneg; have m_ll := ll.ht_nonneg; have q_ll := ll.ht_le_sz
  have n_lr := lr.sz_nonneg; have m_lr := lr.ht_nonneg; have q_lr := lr.ht_le_sz
  have n_O := O.sz_nonneg; have m_O := O.ht_nonneg; have q_O := O.ht_le_sz
  have S1 := Lib.hid (show (O).sz + (ll).sz ≤ 1000000 by first | omega | (simp only [Tr.sz]; omega))
  have S2 := Lib.hid (show (Tr.node O k v ll).sz + (lr).sz ≤ 1000000 by first | omega | (simp only [Tr.sz]; omega))
  have m1 := (Tr.node ll lk lv lr).ht_le_sz; have m2 := (Tr.node ll lk lv lr).ht_nonneg; simp only [Tr.sz] at m1
  have hmx : (Tr.node ll lk lv lr).ht ≤ 1000000 := by omega
  have hox : O.ht ≤ 1000000 := by omega
  clear hs m1 n_ll q_ll n_lr q_lr n_O q_O
  generalize (Tr.node ll lk lv lr).ht = mh at *; generalize O.ht = oh at *
  generalize ll.ht = lh at *
  generalize lr.ht = rh at *
  have B0 : Below W.heap.size W W := Below.refl _ _
  go_enter Try.func95, Try.ntmps95
  go_wp2_with fail
  refine H1.out.mono ?_; rintro e w' ⟨rfl, rfl⟩
  go_wp2_with fail
  refine H2.out.mono ?_; rintro e w' ⟨rfl, rfl⟩
  go_wp2_with fail
  refine H2.out.mono ?_; rintro e w' ⟨rfl, rfl⟩
  go_wp2_with fail
  refine H1.out.mono ?_; rintro e w' ⟨rfl, rfl⟩
  go_wp2_with fail
  go_region_held3 (fun w' => Below W.heap.size W w') (first | assumption | exact Below.drew (by assumption)) (first
    | (go_at_call 101; with_reducible refine (H4.out _ (by assumption)).mono ?_; rintro e w' ⟨rfl, rfl⟩)
    | (go_at_call 101; with_reducible refine (H3.out _ (by assumption)).mono ?_; rintro e w' ⟨rfl, rfl⟩))
  go_wp2_with fail
  go_region_held3 (fun w' => Below W.heap.size W w') (first | assumption | exact Below.drew (by assumption)) (first
    | (go_at_call 94; with_reducible refine (build_any k v (IsT.below (by assumption) HO.out) (IsT.below (by assumption) Hll.out) S1.out).mono ?_; rintro e w' ⟨p1, rfl, hT1, hB1⟩; have hC1 : Below W.heap.size W w' := Below.step (by assumption) hB1)
    | (go_at_call 94; with_reducible refine (build_any lk lv hT1 (IsT.below (by assumption) Hlr.out) S2.out).mono ?_; rintro e w' ⟨p2, rfl, hT2, hB2⟩; have hC2 : Below W.heap.size W w' := Below.step (by assumption) hB2))
  go_wp2_with fail
  go_ret
  exact ⟨_, rfl, hT2, hC2⟩

set_option maxRecDepth 100000 in
set_option maxHeartbeats 1600000 in
theorem level_RL {W : World} {pl pr : Option Addr} {lr a c O : Tr ByteArray Int} {lk : ByteArray} {lv : Int} {tk : ByteArray} {tv : Int} (k : ByteArray) (v : Int) (hL : Is W pl O) (hR : Is W pr (Tr.node (Tr.node a tk tv c) lk lv lr)) (hs : lr.sz + a.sz + c.sz + O.sz ≤ 999990)
    (h1 : O.ht + 1 < (Tr.node (Tr.node a tk tv c) lk lv lr).ht) (h2 : lr.ht < (Tr.node a tk tv c).ht) :
    Calls Try.prog 95 #[.pointer pl, Value.string k, Value.int .i64 v, .pointer pr] W fun e w' => ∃ p', e = .returned (.pointer p') ∧ Is w' p' (.node (.node O k v a) tk tv (.node c lk lv lr)) ∧ Below W.heap.size W w' := by
  have H1 := Lib.hid (tall_any hL); have H2 := Lib.hid (tall_any hR)
  have HO := Lib.hid hL; clear hL
  obtain ⟨b, pll, plr, rfl, hb, hll, hlr⟩ := hR
  obtain ⟨c0, c1, c2, c3, -, -⟩ := node_cells hb
  have H3 := Lib.hid (tall_at hll); have H4 := Lib.hid (tall_at hlr)
  have d0 := cell_at c0; have d1 := cell_at c1; have d2 := cell_at c2; have d3 := cell_at c3
  obtain ⟨b2, pa, pc, rfl, hb2, ha, hc⟩ := hll
  obtain ⟨f0, f1, f2, f3, -, -⟩ := node_cells hb2
  have g0 := cell_at f0; have g1 := cell_at f1; have g2 := cell_at f2; have g3 := cell_at f3
  have Hk := Lib.hid hlr; have Ha := Lib.hid ha; have Hc := Lib.hid hc
  clear f0 f1 f2 f3 hb2 hlr ha hc
  clear c0 c1 c2 c3 hb
  have n_lr := lr.sz_nonneg; have m_lr := lr.ht_nonneg; have q_lr := lr.ht_le_sz
  have n_a := a.sz_nonneg; have m_a := a.ht_nonneg; have q_a := a.ht_le_sz
  have n_c := c.sz_nonneg; have m_c := c.ht_nonneg; have q_c := c.ht_le_sz
  have n_O := O.sz_nonneg; have m_O := O.ht_nonneg; have q_O := O.ht_le_sz
  have S1 := Lib.hid (show (O).sz + (a).sz ≤ 1000000 by first | omega | (simp only [Tr.sz]; omega))
  have S2 := Lib.hid (show (c).sz + (lr).sz ≤ 1000000 by first | omega | (simp only [Tr.sz]; omega))
  have S3 := Lib.hid (show (Tr.node O k v a).sz + (Tr.node c lk lv lr).sz ≤ 1000000 by first | omega | (simp only [Tr.sz]; omega))
  have q1 := (Tr.node a tk tv c).ht_le_sz; have q2 := (Tr.node a tk tv c).ht_nonneg; simp only [Tr.sz] at q1
  have m1 := (Tr.node (Tr.node a tk tv c) lk lv lr).ht_le_sz; have m2 := (Tr.node (Tr.node a tk tv c) lk lv lr).ht_nonneg; simp only [Tr.sz] at m1
  have hmx : (Tr.node (Tr.node a tk tv c) lk lv lr).ht ≤ 1000000 := by omega
  have hox : O.ht ≤ 1000000 := by omega
  clear hs m1 n_lr q_lr n_a q_a n_c q_c n_O q_O q1
  generalize (Tr.node (Tr.node a tk tv c) lk lv lr).ht = mh at *; generalize O.ht = oh at *
  generalize (Tr.node a tk tv c).ht = th at *
  generalize lr.ht = rh at *
  have B0 : Below W.heap.size W W := Below.refl _ _
  go_enter Try.func95, Try.ntmps95
  go_wp2_with fail
  refine H1.out.mono ?_; rintro e w' ⟨rfl, rfl⟩
  go_wp2_with fail
  refine H2.out.mono ?_; rintro e w' ⟨rfl, rfl⟩
  go_wp2_with fail
  refine H2.out.mono ?_; rintro e w' ⟨rfl, rfl⟩
  go_wp2_with fail
  refine H1.out.mono ?_; rintro e w' ⟨rfl, rfl⟩
  go_wp2_with fail
  go_region_held3 (fun w' => Below W.heap.size W w') (first | assumption | exact Below.drew (by assumption)) (first
    | (go_at_call 101; with_reducible refine (H4.out _ (by assumption)).mono ?_; rintro e w' ⟨rfl, rfl⟩)
    | (go_at_call 101; with_reducible refine (H3.out _ (by assumption)).mono ?_; rintro e w' ⟨rfl, rfl⟩))
  have d2' := d2 _ (by assumption)
  go_wp2_with fail
  go_region_held3 (fun w' => Below W.heap.size W w') (first | assumption | exact Below.drew (by assumption)) (first
    | (go_at_call 94; with_reducible refine (build_any k v (IsT.below (by assumption) HO.out) (IsT.below (by assumption) Ha.out) S1.out).mono ?_; rintro e w' ⟨p1, rfl, hT1, hB1⟩; have hC1 : Below W.heap.size W w' := Below.step (by assumption) hB1)
    | (go_at_call 94; with_reducible refine (build_any lk lv (IsT.below (by assumption) Hc.out) (IsT.below (by assumption) Hk.out) S2.out).mono ?_; rintro e w' ⟨p2, rfl, hT2, hB2⟩; have hC2 : Below W.heap.size W w' := Below.step (by assumption) hB2)
    | (go_at_call 94; with_reducible refine (build_any tk tv (IsT.below hB2 hT1) hT2 S3.out).mono ?_; rintro e w' ⟨p3, rfl, hT3, hB3⟩; have hC3 : Below W.heap.size W w' := Below.step (by assumption) hB3))
  go_wp2_with fail
  go_ret
  exact ⟨_, rfl, hT3, hC3⟩

set_option maxRecDepth 100000 in
set_option maxHeartbeats 800000 in
theorem level_M {W : World} {pl pr : Option Addr} {L R : Tr ByteArray Int} (k : ByteArray) (v : Int) (hL : Is W pl L) (hR : Is W pr R) (hs : L.sz + R.sz ≤ 999990) (h1 : L.ht ≤ R.ht + 1) (h2 : R.ht ≤ L.ht + 1) :
    Calls Try.prog 95 #[.pointer pl, Value.string k, Value.int .i64 v, .pointer pr] W fun e w' => ∃ p', e = .returned (.pointer p') ∧ Is w' p' (.node L k v R) ∧ Below W.heap.size W w' := by
  have H1 := Lib.hid (tall_any hL); have H2 := Lib.hid (tall_any hR)
  have H3 := Lib.hid (build_any k v hL hR (by omega))
  have a1 := L.ht_nonneg; have a2 := R.ht_nonneg; have a3 := L.ht_le_sz; have a4 := R.ht_le_sz
  have a5 := L.sz_nonneg; have a6 := R.sz_nonneg
  clear hL hR
  generalize L.ht = lh at *; generalize R.ht = rh at *
  go_enter Try.func95, Try.ntmps95
  go_wp2_with fail
  refine H1.out.mono ?_; rintro e w' ⟨rfl, rfl⟩
  go_wp2_with fail
  refine H2.out.mono ?_; rintro e w' ⟨rfl, rfl⟩
  go_wp2_with fail
  refine H2.out.mono ?_; rintro e w' ⟨rfl, rfl⟩
  go_wp2_with fail
  refine H1.out.mono ?_; rintro e w' ⟨rfl, rfl⟩
  go_wp2_with fail
  refine H3.out.mono ?_; rintro e w' ⟨p1, rfl, hT1, hB1⟩
  go_wp2_with fail
  go_ret
  exact ⟨_, rfl, hT1, hB1⟩

theorem level_any {W : World} {pl pr : Option Addr} {L R : Tr ByteArray Int} (k : ByteArray) (v : Int) (hL : Is W pl L) (hR : Is W pr R) (hs : L.sz + R.sz ≤ 999990) :
    Calls Try.prog 95 #[.pointer pl, Value.string k, Value.int .i64 v, .pointer pr] W fun e w' => ∃ p', e = .returned (.pointer p') ∧ Is w' p' (levelF L k v R) ∧ Below W.heap.size W w' := by
  unfold levelF
  by_cases h1 : R.ht + 1 < L.ht
  · rw [if_pos h1]
    match L, hL, hs, h1 with
    | .nil, _, _, h1 => have := R.ht_nonneg; simp only [Tr.ht] at h1; omega
    | .node ll lk lv lr, hL, hs, h1 =>
      have hs' := hs; simp only [Tr.sz] at hs'
      by_cases h2 : lr.ht ≤ ll.ht
      · simp only [if_pos h2]; exact level_LL k v hL hR (by omega) h1 h2
      · simp only [if_neg h2]
        match lr, hL, hs', h1, h2 with
        | .nil, _, _, _, h2 => have := ll.ht_nonneg; simp only [Tr.ht] at h2; omega
        | .node a tk tv c, hL, hs', h1, h2 => simp only [Tr.sz] at hs'; exact level_LR k v hL hR (by omega) h1 (by omega)
  · rw [if_neg h1]
    by_cases h2 : L.ht + 1 < R.ht
    · rw [if_pos h2]
      match R, hR, hs, h2 with
      | .nil, _, _, h1 => have := L.ht_nonneg; simp only [Tr.ht] at h1; omega
      | .node rl rk rv rr, hR, hs, h2 =>
        have hs' := hs; simp only [Tr.sz] at hs'
        by_cases h3 : rl.ht ≤ rr.ht
        · simp only [if_pos h3]; exact level_RR k v hL hR (by omega) h2 h3
        · simp only [if_neg h3]
          match rl, hR, hs', h2, h3 with
          | .nil, _, _, _, h3 => have := rr.ht_nonneg; simp only [Tr.ht] at h3; omega
          | .node a tk tv c, hR, hs', h2, h3 => simp only [Tr.sz] at hs'; exact level_RL k v hL hR (by omega) h2 (by omega)
    · rw [if_neg h2]; exact level_M k v hL hR hs (by omega) (by omega)
end sd
end Go.Proofs.Ytlfodhejpbjfcaa
