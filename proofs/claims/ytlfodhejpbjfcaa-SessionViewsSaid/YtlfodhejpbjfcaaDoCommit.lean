/- The player's do: Commit. -/
import Derived.Test.YtlfodhejpbjfcaaDoSz
namespace Go.Proofs.Ytlfodhejpbjfcaa
open Go.RowKit
namespace S
attribute [local go_sem] Oper.semAt_some
theorem commitR_len (Vs : List Ver) (t : RT) : (commitR Vs t).2.1.sees = t.sees ∧ (commitR Vs t).2.1.read = t.read ∧ (commitR Vs t).2.1.changed = t.changed := by
  unfold commitR
  split
  · exact ⟨rfl, rfl, rfl⟩
  · split
    · exact ⟨rfl, rfl, rfl⟩
    · split <;> exact ⟨rfl, rfl, rfl⟩
set_option maxRecDepth 100000 in
set_option maxHeartbeats 8000000 in
theorem do_commit {K p k kd tx : Nat} {n0 : Lo} {W : World} {X : Bx} {Vs : List Ver} {m : Sl} {rs : Nat → R5} {f : Slots} {x : Tx} {t : RT} (hP : PlAt K n0 W p X Vs m rs f) (hKs : K ≤ 60) (hkd : kd < 256) (htx : tx < 256) (hkk : (tx : Int) % 4 = (k : Int)) (hk : k < 4) (hf : f k = some (x, t)) (hkind : (kd : Int) % 6 = 5) (s : ByteArray) (hs : s.size ≤ 9223372036854775807) (id : Int) :
    Calls Try.prog 12 #[.pointer (some ⟨p, 0, none⟩), actV kd tx s id] W (DoPost K n0 W p) := by
  have HF : ∀ f, Fence.wide.fn f := fun _ => trivial
  unfold actV
  obtain ⟨W1, hW1⟩ : ∃ w, W.alloc (.cells #[.int .u8 (kd : Int), .int .u8 (tx : Int), .string s, .int .i64 id] 29) = w := ⟨_, rfl⟩
  have hb1 : Below W.heap.size W W1 := by rw [← hW1]; exact (Below.refl _ _).alloc (Nat.le_refl _) _
  have ka : ActC W1 W.heap.size kd tx s id := by rw [← hW1]; exact heap_new _ _
  have hP1 := hP.below hb1
  have HP := Lib.hid hP1; have HB1 := Lib.hid hb1; have HA := Lib.hid ka; have HF0 := Lib.hid hf
  have c0 : W1.cell? ⟨p, 2 + k, none⟩ = some (.pointer (some ⟨x.t, 0, none⟩)) := by
    have := hP1.1.txn hk
    unfold tsOf at this; rw [hf] at this; exact this
  obtain ⟨a0, a1, a2, a3⟩ := ka.cells
  have hk4 : (k : Int) < 4 := by omega
  have hk0 : (0 : Int) ≤ (k : Int) := by omega
  clear hP hP1 hb1 ka hf
  go_enter Try.func12, Try.ntmps12
  go_wp2_with fail
  have HSl := Lib.hid (HP.out.2.2.2.2.2.2.1 k hk _ HF0.out)
  have hBI := HP.out.2.2.2.1
  have HNum := Lib.hid hBI.num
  have HPos := Lib.hid hBI.pos
  have HSB := Lib.hid HP.out.2.2.2.2.1
  have HSZ := Lib.hid HSl.out.2.2.2.1
  have HTI := Lib.hid HSl.out.2.2.1
  dsimp only at HSZ HTI
  clear hBI
  refine (tx_commit HP.out.2.2.1 HSl.out.1 HSl.out.2.1 (by have := HNum.out; have := HPos.out; omega) (by have := HNum.out; have := HSB.out.2.2.1; omega) HTI.out.lo (by have h1 : x.n ≤ X.N := HTI.out.hi; have h2 := HNum.out; have h3 := HSB.out.2.2.1; show x.n ≤ 1000000; omega) (by have := HSB.out.1; have := HSZ.out.2.1; dsimp only; omega) (by have := HSB.out.2.1; have := HSZ.out.2.1; dsimp only; omega)).mono ?_
  rintro e w1 ⟨gn, gc, X', rfl, hC, hXb, hXm, hL⟩
  dsimp only at hC hL
  have HL := Lib.hid hL; have HC := Lib.hid hC; have HXB := Lib.hid (And.intro hXb hXm)
  have HI := Lib.hid (inv_commit HP.out.2.2.2.1 HTI.out HSl.out.1.2.2.2.1.nodup hC)
  have HCS := Lib.hid (commit_sz HTI.out HI.out.2.2.1 (conf_eq HP.out.2.2.2.1 HTI.out) hC HSB.out HSZ.out hKs)
  obtain ⟨Cm, hCm⟩ : ∃ g, commitR Vs t = g := ⟨_, rfl⟩
  have HCM := Lib.hid hCm
  have np := HP.out.1.ne_tx HSl.out.1; have nb := HP.out.1.ne_box HP.out.2.2.1
  have p1 : PlC w1 p X.b m (tsOf f) rs := hL.2.2.2.obj (by simp; exact ⟨np.1, np.2.1, np.2.2, nb.1, nb.2⟩) HP.out.1
  have kt : ∀ {ty : TypeId}, ty ≠ 158 → ty ≠ 120 → KeepT ty W1 w1 := fun h1 h2 => Left.rest HP.out.2.2.1 HSl.out.1 hL h1 h2
  have rt1 : RtAt w1 (rs k).2.1 (rs k).2.2.1 (rs k).2.2.2.1 t := ⟨HSl.out.2.2.2.2.1.1.keep (kt (by decide) (by decide)), HSl.out.2.2.2.2.1.2.1.keep (kt (by decide) (by decide)), HSl.out.2.2.2.2.1.2.2.keep (kt (by decide) (by decide))⟩
  have HV1 := Lib.hid (VersAt.keep HP.out.2.1 (kt (by decide) (by decide)) (kt (by decide) (by decide)) (kt (by decide) (by decide)))
  have hr1 := HSl.out.2.2.2.2.2.1; have hr2 := HSl.out.2.2.2.2.2.2.1
  dsimp only at hr1 hr2
  obtain ⟨j0, j1, j2, j3, j4⟩ := p1.ref hk
  have jv := p1.vers
  have P1 := Lib.hid p1
  obtain ⟨⟨rn, ⟨ra, ran, rac⟩, ⟨rb, rbn, rbc⟩, ⟨rc, rcn, rcc⟩, rd⟩, hrk⟩ : ∃ r, rs k = r := ⟨_, rfl⟩
  obtain ⟨ma, mn, mc⟩ := m
  rw [hrk] at rt1 hr1 hr2
  simp only [hrk, slV] at j0 j1 j2 j3 j4 jv
  dsimp only at rt1 hr1 hr2
  have RT1 : Hid (RtIs w1 (rtV rn (ra, ran, rac) (rb, rbn, rbc) (rc, rcn, rcc) rd) t) := Lib.hid ⟨_, _, _, by rw [hr1, hr2], rt1⟩
  have HG0 := Lib.hid (refCommit_any (HV1.out.below (Below.refl w1.heap.size w1).drew) (RT1.out.below (Below.refl w1.heap.size w1).drew) HPos.out (by have := HSB.out.2.2.1; omega) (by rw [← HTI.out.began]; exact HTI.out.lo) (by have := HTI.out.hi; have := HNum.out; have := HTI.out.began; omega) (by have := HSZ.out.2.2.2.2; omega) (by have := HSZ.out.2.2.2.1; omega) (by have := HSZ.out.2.2.1; omega) (fun V hV => by have := HSB.out.2.2.2 V hV; exact ⟨by omega, by omega⟩))
  rw [hCm] at HG0
  obtain ⟨Vs', hVs'⟩ : ∃ g, Cm.1 = g := ⟨_, rfl⟩
  obtain ⟨t', ht'⟩ : ∃ g, Cm.2.1 = g := ⟨_, rfl⟩
  obtain ⟨tn, htn⟩ : ∃ g, t'.began = g := ⟨_, rfl⟩
  obtain ⟨td, htd⟩ : ∃ g, t'.done = g := ⟨_, rfl⟩
  have hIe := HI.out
  rw [hCm] at hIe
  rw [← hIe.1, ← hIe.2.1, hVs', ht'] at HG0
  have HVS := Lib.hid hVs'; have HT' := Lib.hid ht'; have HTN := Lib.hid htn; have HTD := Lib.hid htd
  have HTNX : Hid (x.n = tn) := Lib.hid (by rw [← htn, ← ht']; exact hIe.2.2.2.1.began)
  unfold rtV at HG0
  clear hL hC hXb hXm np nb p1 kt rt1 hr1 hr2 c0 a0 a1 a2 a3 hrk hW1 ht' htn htd hVs' hCm hIe
  go_wp2_with fail
  go_region_with ((go_at_call 38; refine HG0.out.mono ?_; rintro e w2 ⟨v2, u2, rfl, hV2, hr2, hb2⟩; obtain ⟨⟨xa, xan, xac⟩, ⟨xb, xbn, xbc⟩, ⟨xc, xcn, xcc⟩, rfl, hA2⟩ := hr2; obtain ⟨va, vd, rfl⟩ := hV2.len; have hB2 : Below w1.heap.size w1 w2 := Below.step (Below.refl _ _).drew hb2; have p2 : PlC w2 p X.b (ma, mn, mc) (tsOf f) rs := box_below hB2 P1.out; have P2 := Lib.hid p2; have HA2 := Lib.hid hA2; have HV2 := Lib.hid hV2; have HB2 := Lib.hid hB2; have qv := p2.vers; have fv := p2.free 1; obtain ⟨wm, hwm⟩ : ∃ w, w2.setCell ⟨p, 1, none⟩ (.slice va Vs'.length vd) = w := ⟨_, rfl⟩; have pm : PlC wm p X.b (va, Vs'.length, vd) (tsOf f) rs := (by rw [← hwm]; exact p2.setVers (va, Vs'.length, vd)); obtain ⟨q0, q1, q2, q3, q4⟩ := pm.ref hk; have f0 := pm.free (6 + k * 5); have f1 := pm.free (6 + k * 5 + 1); have f2 := pm.free (6 + k * 5 + 2); have f3 := pm.free (6 + k * 5 + 3); have f4 := pm.free (6 + k * 5 + 4); rw [HTN.out, HTD.out]; unfold rtV; simp only [slV] at q0 q1 q2 q3 q4 qv ⊢; clear hA2 hV2 hB2 hb2 p2 pm; obtain ⟨w3, hw3⟩ : ∃ w, ((((wm.setCell ⟨p, 6 + k * 5, none⟩ (.int .i64 tn)).setCell ⟨p, 6 + k * 5 + 1, none⟩ (.slice xa xan xac)).setCell ⟨p, 6 + k * 5 + 2, none⟩ (.slice xb xbn xbc)).setCell ⟨p, 6 + k * 5 + 3, none⟩ (.slice xc xcn xcc)).setCell ⟨p, 6 + k * 5 + 4, none⟩ (.bool td) = w := ⟨_, rfl⟩))
  all_goals
    have HEND : Hid (PlAt (K + 1) n0 w3 p X' Vs' (va, Vs'.length, vd) (up rs k (tn, (xa, xan, xac), (xb, xbn, xbc), (xc, xcn, xcc), td)) (up f k (some ({ x with d := true }, t'))) ∧ Fr n0 W1 w3) := Lib.hid (by
      have hIe := HI.out
      have hCS := HCS.out
      rw [HCM.out] at hIe hCS
      rw [HVS.out, HT'.out] at hIe
      rw [HVS.out] at hCS
      refine PlAt.step HP.out hk HF0.out HL.out HXB.out.1 HXB.out.2 rfl rfl rfl HB2.out hIe.2.2.1 hIe.2.2.2.2 hIe.2.2.2.1 ?_ hCS (r := (tn, (xa, xan, xac), (xb, xbn, xbc), (xc, xcn, xcc), td)) HA2.out HTN.out.symm HTD.out.symm HV2.out ?_ ?_
      · have hZ := HSZ.out.mono (show K ≤ K + 1 by omega)
        have hcl := commitR_len Vs t
        rw [HCM.out, HT'.out] at hcl
        obtain ⟨z1, z2, z3, z4, z5⟩ := hZ
        exact ⟨z1, z2, by rw [hcl.1]; exact z3, by rw [hcl.2.1]; exact z4, by rw [hcl.2.2]; exact z5⟩
      · intro ts rs' _
        rw [← hw3, ← hwm]
        exact ((((((BC.refl p w2).set (p := ⟨p, 1, none⟩) (.inr rfl) _).set (p := ⟨p, 6 + k * 5, none⟩) (.inr rfl) _).set (p := ⟨p, 6 + k * 5 + 1, none⟩) (.inr rfl) _).set (p := ⟨p, 6 + k * 5 + 2, none⟩) (.inr rfl) _).set (p := ⟨p, 6 + k * 5 + 3, none⟩) (.inr rfl) _).set (p := ⟨p, 6 + k * 5 + 4, none⟩) (.inr rfl) _
      · intro ts hp
        rw [← hw3, ← hwm]
        exact (hp.setVers (va, Vs'.length, vd)).setRef hk (tn, (xa, xan, xac), (xb, xbn, xbc), (xc, xcn, xcc), td))
    clear hw3 hwm q0 q1 q2 q3 q4 f0 f1 f2 f3 f4 j0 j1 j2 j3 j4 jv qv fv
    have hp3 := HEND.out.1.1
    have hs3 := HEND.out.1.2.2.2.2.2.2.1 k hk ({ x with d := true }, t') (by simp [up])
    have htx : TxnC w3 x.t X'.b x.n x.q x.r x.c true := hs3.1.1
    have c3 : ∀ w, Below w3.heap.size w3 w → w.cell? ⟨p, 6 + k * 5, none⟩ = some (.int .i64 tn) := fun w hw => by have := (PlC.ref (box_below hw hp3) hk).1; simpa [up] using this
    have HTX := Lib.hid htx
    clear hp3 hs3 htx
    go_wp2_with fail
    go_simp
    refine wp_region_anyH (Below w3.heap.size w3) (by kernel_rfl) ?_
    have B0 : Below w3.heap.size w3 w3.drew := (Below.refl _ _).drew
    refine AnyH.take (i := 0) (d := some 204) (v := ?_) (by kernel_rfl) rfl rfl HF (fun _ _ _ h => h) (.inl ⟨by rfl, ?_⟩) (by first | assumption | rfl) ?_
    rotate_left
    · intro w hS; try subst hS
      go_simp; try with_reducible rfl
    try simp only [Act.put, List.setIfInBounds_toArray, List.set_cons_zero, List.set_cons_succ]
    refine AnyH.take (i := 1) (d := some 205) (v := ?_) (by kernel_rfl) rfl rfl HF (fun _ _ _ h => h) (.inl ⟨by rfl, ?_⟩) (by first | assumption | rfl) ?_
    rotate_left
    · intro w hS; try subst hS
      go_simp; try with_reducible rfl
    try simp only [Act.put, List.setIfInBounds_toArray, List.set_cons_zero, List.set_cons_succ]
    refine AnyH.take (i := 2) (d := some 206) (v := ?_) (by kernel_rfl) rfl rfl HF (fun _ _ _ h => h) (.inl ⟨by rfl, ?_⟩) (by first | assumption | rfl) ?_
    rotate_left
    · intro w hS; try subst hS
      go_simp; try with_reducible rfl
    try simp only [Act.put, List.setIfInBounds_toArray, List.set_cons_zero, List.set_cons_succ]
    refine AnyH.take (i := 3) (d := some 207) (v := ?_) (by kernel_rfl) rfl rfl HF (fun _ _ _ h => h) (.inl ⟨by rfl, ?_⟩) (by first | assumption | rfl) ?_
    rotate_left
    · intro w hS; try subst hS
      go_simp; try with_reducible rfl
    try simp only [Act.put, List.setIfInBounds_toArray, List.set_cons_zero, List.set_cons_succ]
    refine AnyH.take (i := 4) (d := some 208) (v := ?_) (by kernel_rfl) rfl rfl HF (fun _ _ _ h => h) (.inl ⟨by rfl, ?_⟩) (by first | assumption | rfl) ?_
    rotate_left
    · intro w hS; try subst hS
      go_simp; try with_reducible rfl
    try simp only [Act.put, List.setIfInBounds_toArray, List.set_cons_zero, List.set_cons_succ]
    refine AnyH.take (i := 6) (d := some 210) (v := ?_) (by kernel_rfl) rfl rfl HF (fun _ _ _ h => h) (.inl ⟨by rfl, ?_⟩) (by first | assumption | rfl) ?_
    rotate_left
    · intro w hS; try subst hS
      go_simp; try with_reducible rfl
    try simp only [Act.put, List.setIfInBounds_toArray, List.set_cons_zero, List.set_cons_succ]
    refine AnyH.one (i := 5) (by kernel_rfl) (by kernel_rfl) rfl HF (by rfl) (fun K hK => ?_)
    go_simp
    first | ((with_reducible refine And.intro ?hdep ?_); (case hdep => first | rfl | (intro h; cases h))) | skip
    refine callsIn_wide.2 ((num_any w3.drew gc).mono ?_)
    rintro e w4 ⟨rfl, h4⟩
    rw [h4]; clear h4 w4
    refine hK _ _ B0 ?_
    clear hK K
    try simp only [Act.put, List.setIfInBounds_toArray, List.set_cons_zero, List.set_cons_succ]
    refine AnyH.take (i := 7) (d := some 211) (v := ?_) (by kernel_rfl) rfl rfl HF (fun _ _ _ h => h) (.inl ⟨by rfl, ?_⟩) (by first | assumption | rfl) ?_
    rotate_left
    · intro w hS; try subst hS
      go_simp; try with_reducible rfl
    try simp only [Act.put, List.setIfInBounds_toArray, List.set_cons_zero, List.set_cons_succ]
    refine AnyH.take (i := 8) (d := some 212) (v := ?_) (by kernel_rfl) rfl rfl HF (fun _ _ _ h => h) (.inl ⟨by rfl, ?_⟩) (by first | assumption | rfl) ?_
    rotate_left
    · intro w hS; try subst hS
      go_simp; try with_reducible rfl
    try simp only [Act.put, List.setIfInBounds_toArray, List.set_cons_zero, List.set_cons_succ]
    refine AnyH.take (i := 9) (d := some 213) (v := ?_) (by kernel_rfl) rfl rfl HF (fun _ _ _ h => h) (.inl ⟨by rfl, ?_⟩) (by first | assumption | rfl) ?_
    rotate_left
    · intro w hS; try subst hS
      go_simp; try with_reducible rfl
    try simp only [Act.put, List.setIfInBounds_toArray, List.set_cons_zero, List.set_cons_succ]
    refine AnyH.take (i := 10) (d := some 214) (v := ?_) (by kernel_rfl) rfl rfl HF (fun _ _ _ h => h) (.inl ⟨by rfl, ?_⟩) (by first | assumption | rfl) ?_
    rotate_left
    · intro w hS; try subst hS
      go_simp; try with_reducible rfl
    try simp only [Act.put, List.setIfInBounds_toArray, List.set_cons_zero, List.set_cons_succ]
    refine AnyH.take (i := 12) (d := some 216) (v := ?_) (by kernel_rfl) rfl rfl HF (fun _ _ _ h => h) (.inl ⟨by rfl, ?_⟩) (by first | assumption | rfl) ?_
    rotate_left
    · intro w hS; try subst hS
      go_simp; try with_reducible rfl
    try simp only [Act.put, List.setIfInBounds_toArray, List.set_cons_zero, List.set_cons_succ]
    refine AnyH.take (i := 13) (d := some 217) (v := ?_) (by kernel_rfl) rfl rfl HF (fun _ _ _ h => h) (.inl ⟨by rfl, ?_⟩) (by first | assumption | rfl) ?_
    rotate_left
    · intro w hS; try subst hS
      go_simp; try with_reducible rfl
    try simp only [Act.put, List.setIfInBounds_toArray, List.set_cons_zero, List.set_cons_succ]
    refine AnyH.take (i := 14) (d := some 218) (v := ?_) (by kernel_rfl) rfl rfl HF (fun _ _ _ h => h) (.inl ⟨by rfl, ?_⟩) (by first | assumption | rfl) ?_
    rotate_left
    · intro w hS; try subst hS
      go_simp; try with_reducible rfl
    try simp only [Act.put, List.setIfInBounds_toArray, List.set_cons_zero, List.set_cons_succ]
    refine AnyH.take (i := 15) (d := some 219) (v := ?_) (by kernel_rfl) rfl rfl HF (fun _ _ _ h => h) (.inl ⟨by rfl, ?_⟩) (by first | assumption | rfl) ?_
    rotate_left
    · intro w hS; try subst hS
      go_simp; try with_reducible rfl
    try simp only [Act.put, List.setIfInBounds_toArray, List.set_cons_zero, List.set_cons_succ]
    refine AnyH.take (i := 16) (d := some 220) (v := ?_) (by kernel_rfl) rfl rfl HF (fun _ _ _ h => h) (.inl ⟨by rfl, ?_⟩) (by first | assumption | rfl) ?_
    rotate_left
    · intro w hS; try subst hS
      go_simp; try with_reducible rfl
    try simp only [Act.put, List.setIfInBounds_toArray, List.set_cons_zero, List.set_cons_succ]
    refine AnyH.take (i := 17) (d := some 221) (v := ?_) (by kernel_rfl) rfl rfl HF (fun _ _ _ h => h) (.inl ⟨by rfl, ?_⟩) (by first | assumption | rfl) ?_
    rotate_left
    · intro w hS; try subst hS
      go_simp; try with_reducible rfl
    try simp only [Act.put, List.setIfInBounds_toArray, List.set_cons_zero, List.set_cons_succ]
    refine AnyH.take (i := 18) (d := some 222) (v := ?_) (by kernel_rfl) rfl rfl HF (fun _ _ _ h => h) (.inl ⟨by rfl, ?_⟩) (by first | assumption | rfl) ?_
    rotate_left
    · intro w hS; try subst hS
      go_simp; try with_reducible rfl
    try simp only [Act.put, List.setIfInBounds_toArray, List.set_cons_zero, List.set_cons_succ]
    refine AnyH.one (i := 11) (by kernel_rfl) (by kernel_rfl) rfl HF (by rfl) (fun K hK => ?_)
    go_simp
    first | ((with_reducible refine And.intro ?hdep ?_); (case hdep => first | rfl | (intro h; cases h))) | skip
    refine callsIn_wide.2 ((TxnVersion_any (W := w3.drew) (box_below B0 HTX.out)).mono ?_)
    rintro e w4 ⟨rfl, h4⟩
    rw [h4, HTNX.out]; clear h4 w4
    refine hK _ _ B0 ?_
    clear hK K
    try simp only [Act.put, List.setIfInBounds_toArray, List.set_cons_zero, List.set_cons_succ]
    refine AnyH.take (i := 19) (d := some 223) (v := ?_) (by kernel_rfl) rfl rfl HF (fun _ _ _ h => h) (.inl ⟨by rfl, ?_⟩) (by first | assumption | rfl) ?_
    rotate_left
    · intro w hS; try subst hS
      go_simp; try with_reducible rfl
    try simp only [Act.put, List.setIfInBounds_toArray, List.set_cons_zero, List.set_cons_succ]
    refine AnyH.take (i := 20) (d := some 224) (v := ?_) (by kernel_rfl) rfl rfl HF (fun _ _ _ h => h) (.inl ⟨by rfl, ?_⟩) (by first | assumption | rfl) ?_
    rotate_left
    · intro w hS; try subst hS
      go_simp; try with_reducible rfl
    try simp only [Act.put, List.setIfInBounds_toArray, List.set_cons_zero, List.set_cons_succ]
    refine AnyH.take (i := 21) (d := some 4) (v := ?_) (by kernel_rfl) rfl rfl HF (fun _ _ _ h => h) (.inl ⟨by rfl, ?_⟩) (by first | assumption | rfl) ?_
    rotate_left
    · intro w hS; try subst hS
      go_simp; try with_reducible rfl
    try simp only [Act.put, List.setIfInBounds_toArray, List.set_cons_zero, List.set_cons_succ]
    refine AnyH.done (by kernel_rfl) ?_
    go_wp2_with fail
    go_ret
    exact ⟨rfl, _, _, _, _, _, HEND.out.1.below B0, ((Fr.of HB1.out).trans HEND.out.2).trans (Fr.of B0)⟩
end S
end Go.Proofs.Ytlfodhejpbjfcaa
