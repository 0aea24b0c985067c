/- The player's do: Put. -/
import Derived.Test.YtlfodhejpbjfcaaDoSz
namespace Go.Proofs.Ytlfodhejpbjfcaa
open Go.RowKit
namespace S
attribute [local go_sem] Oper.semAt_some
set_option maxRecDepth 100000 in
set_option maxHeartbeats 8000000 in
theorem do_put {K p k kd tx : Nat} {n0 : Lo} {W : World} {X : Bx} {Vs : List Ver} {m : Sl} {rs : Nat → R5} {f : Slots} {x : Tx} {t : RT} (hP : PlAt K n0 W p X Vs m rs f) (hK : K ≤ 60) (hkd : kd < 256) (htx : tx < 256) (hkk : (tx : Int) % 4 = (k : Int)) (hk : k < 4) (hf : f k = some (x, t)) (hkind : (kd : Int) % 6 = 2 ∨ (kd : Int) % 6 = 3) (s : ByteArray) (hs : s.size ≤ 9223372036854775807) (id : Int) :
    Calls Try.prog 12 #[.pointer (some ⟨p, 0, none⟩), actV kd tx s id] W (DoPost K n0 W p) := by
  unfold actV
  obtain ⟨W1, hW1⟩ : ∃ w, W.alloc (.cells #[.int .u8 (kd : Int), .int .u8 (tx : Int), .string s, .int .i64 id] 29) = w := ⟨_, rfl⟩
  have hb1 : Below W.heap.size W W1 := by rw [← hW1]; exact (Below.refl _ _).alloc (Nat.le_refl _) _
  have ka : ActC W1 W.heap.size kd tx s id := by rw [← hW1]; exact heap_new _ _
  have hP1 := hP.below hb1
  have HP := Lib.hid hP1; have HB1 := Lib.hid hb1; have HA := Lib.hid ka; have HF0 := Lib.hid hf
  have c0 : W1.cell? ⟨p, 2 + k, none⟩ = some (.pointer (some ⟨x.t, 0, none⟩)) := by
    have := hP1.1.txn hk
    unfold tsOf at this; rw [hf] at this; exact this
  obtain ⟨a0, a1, a2, a3⟩ := ka.cells
  have hk4 : (k : Int) < 4 := by omega
  have hk0 : (0 : Int) ≤ (k : Int) := by omega
  clear hP hP1 hb1 ka hf
  rcases hkind with hkind | hkind
  all_goals
    go_enter Try.func12, Try.ntmps12
    go_wp2_with fail
    have HSl := Lib.hid (HP.out.2.2.2.2.2.2.1 k hk _ HF0.out)
    have HI := Lib.hid (inv_put HSl.out.2.2.1 s id)
    refine (tx_put HP.out.2.2.1 HSl.out.1 HSl.out.2.1 s id hs (by have := HSl.out.2.2.2.1.2.1; dsimp only at this ⊢; omega)).mono ?_
    rintro e w1 ⟨rfl, hL⟩
    have HL := Lib.hid hL
    dsimp only
    rw [HI.out.1]
    obtain ⟨gc, hgc⟩ : ∃ g, (chgRT t s id false).2 = g := ⟨_, rfl⟩
    have HGC := Lib.hid hgc
    rw [hgc]
    have np := HP.out.1.ne_tx HSl.out.1; have nb := HP.out.1.ne_box HP.out.2.2.1
    have p1 : PlC w1 p X.b m (tsOf f) rs := hL.2.2.2.obj (by simp; exact ⟨np.1, np.2.1, np.2.2, nb.1, nb.2⟩) HP.out.1
    have kt : ∀ {ty : TypeId}, ty ≠ 158 → ty ≠ 120 → KeepT ty W1 w1 := fun h1 h2 => Left.rest HP.out.2.2.1 HSl.out.1 hL h1 h2
    have ka1 : ActC w1 W.heap.size kd tx s id := kt (by decide) (by decide) _ _ _ HA.out
    have rt1 : RtAt w1 (rs k).2.1 (rs k).2.2.1 (rs k).2.2.2.1 t := ⟨HSl.out.2.2.2.2.1.1.keep (kt (by decide) (by decide)), HSl.out.2.2.2.2.1.2.1.keep (kt (by decide) (by decide)), HSl.out.2.2.2.2.1.2.2.keep (kt (by decide) (by decide))⟩
    have hr1 := HSl.out.2.2.2.2.2.1; have hr2 := HSl.out.2.2.2.2.2.2.1
    dsimp only at hr1 hr2
    obtain ⟨j0, j1, j2, j3, j4⟩ := p1.ref hk
    have P1 := Lib.hid p1; have KA1 := Lib.hid ka1
    obtain ⟨⟨rn, ⟨ra, ran, rac⟩, ⟨rb, rbn, rbc⟩, ⟨rc, rcn, rcc⟩, rd⟩, hrk⟩ : ∃ r, rs k = r := ⟨_, rfl⟩
    rw [hrk] at rt1 hr1 hr2
    simp only [hrk, slV] at j0 j1 j2 j3 j4
    dsimp only at rt1 hr1 hr2
    have RT1 : Hid (RtIs w1 (rtV rn (ra, ran, rac) (rb, rbn, rbc) (rc, rcn, rcc) rd) t) := Lib.hid ⟨_, _, _, by rw [hr1, hr2], rt1⟩
    have HZ : Hid (t.sees.length ≤ 90000 ∧ t.read.length ≤ 90000 ∧ t.changed.length ≤ 90000) := Lib.hid (by obtain ⟨z1, z2, z3, z4, z5⟩ := HSl.out.2.2.2.1; dsimp only at z1 z2 z3 z4 z5; exact ⟨by omega, by omega, by omega⟩)
    obtain ⟨b0, b1, b2, b3⟩ := ka1.cells
    clear hL np nb p1 kt ka1 rt1 hr1 hr2 c0 a0 a1 a2 a3 hrk hW1
    obtain ⟨t', ht'⟩ : ∃ g, (chgRT t s id false).1 = g := ⟨_, rfl⟩
    have HT' := Lib.hid ht'
    obtain ⟨tn, htn⟩ : ∃ g, t'.began = g := ⟨_, rfl⟩
    obtain ⟨td, htd⟩ : ∃ g, t'.done = g := ⟨_, rfl⟩
    have HTN := Lib.hid htn; have HTD := Lib.hid htd
    have HG0 := Lib.hid (refPutC_any s id hs (RT1.out.below (Below.refl w1.heap.size w1).drew) HZ.out.1 HZ.out.2.1 HZ.out.2.2)
    rw [ht', hgc] at HG0
    unfold rtV at HG0
    clear ht' htn htd hgc
    go_wp2_with fail
    go_region_with ((go_at_call 37; refine HG0.out.mono ?_; rintro e w2 ⟨v2, rfl, hr2, hb2⟩; obtain ⟨⟨xa, xan, xac⟩, ⟨xb, xbn, xbc⟩, ⟨xc, xcn, xcc⟩, rfl, hA2⟩ := hr2; have hB2 : Below w1.heap.size w1 w2 := Below.step (Below.refl _ _).drew hb2; have p2 : PlC w2 p X.b m (tsOf f) rs := box_below hB2 P1.out; have P2 := Lib.hid p2; have HA2 := Lib.hid hA2; have HB2 := Lib.hid hB2; obtain ⟨q0, q1, q2, q3, q4⟩ := p2.ref hk; have f0 := p2.free (6 + k * 5); have f1 := p2.free (6 + k * 5 + 1); have f2 := p2.free (6 + k * 5 + 2); have f3 := p2.free (6 + k * 5 + 3); have f4 := p2.free (6 + k * 5 + 4); rw [HTN.out, HTD.out]; unfold rtV; simp only [slV] at q0 q1 q2 q3 q4 ⊢; clear hA2 hB2 hb2 p2; obtain ⟨w3, hw3⟩ : ∃ w, ((((w2.setCell ⟨p, 6 + k * 5, none⟩ (.int .i64 tn)).setCell ⟨p, 6 + k * 5 + 1, none⟩ (.slice xa xan xac)).setCell ⟨p, 6 + k * 5 + 2, none⟩ (.slice xb xbn xbc)).setCell ⟨p, 6 + k * 5 + 3, none⟩ (.slice xc xcn xcc)).setCell ⟨p, 6 + k * 5 + 4, none⟩ (.bool td) = w := ⟨_, rfl⟩))
    all_goals
      have HEND : Hid (PlAt (K + 1) n0 w3 p X Vs m (up rs k (tn, (xa, xan, xac), (xb, xbn, xbc), (xc, xcn, xcc), td)) (up f k (some ({ x with ch := putN x.d x.ch s id }, t'))) ∧ Fr n0 W1 w3) := Lib.hid (by
        have hR := chgRT_len t s id false
        have hZ := HSl.out.2.2.2.1
        refine PlAt.step HP.out hk HF0.out HL.out rfl rfl rfl rfl rfl HB2.out HP.out.2.2.2.1 (Int.le_refl _) (by rw [← HT'.out]; exact HI.out.2) ?_ (HP.out.2.2.2.2.1.mono (by omega)) (r := (tn, (xa, xan, xac), (xb, xbn, xbc), (xc, xcn, xcc), td)) HA2.out HTN.out.symm HTD.out.symm ?_ ?_ ?_
        · obtain ⟨z1, z2, z3, z4, z5⟩ := hZ
          dsimp only at z1 z2 z3 z4 z5
          have hrl := putN_len x.d x.ch s id
          rw [HT'.out] at hR
          exact ⟨by (try dsimp only); omega, by (try dsimp only); omega, by (try dsimp only); omega, by (try dsimp only); omega, by (try dsimp only); omega⟩
        · exact VersAt.below (VersAt.keep HP.out.2.1 (Left.rest HP.out.2.2.1 HSl.out.1 HL.out (by decide) (by decide)) (Left.rest HP.out.2.2.1 HSl.out.1 HL.out (by decide) (by decide)) (Left.rest HP.out.2.2.1 HSl.out.1 HL.out (by decide) (by decide))) HB2.out
        · intro ts rs' _
          rw [← hw3]
          exact (((((BC.refl p w2).set (p := ⟨p, 6 + k * 5, none⟩) (.inr rfl) _).set (p := ⟨p, 6 + k * 5 + 1, none⟩) (.inr rfl) _).set (p := ⟨p, 6 + k * 5 + 2, none⟩) (.inr rfl) _).set (p := ⟨p, 6 + k * 5 + 3, none⟩) (.inr rfl) _).set (p := ⟨p, 6 + k * 5 + 4, none⟩) (.inr rfl) _
        · intro ts hp
          rw [← hw3]
          exact hp.setRef hk (tn, (xa, xan, xac), (xb, xbn, xbc), (xc, xcn, xcc), td))
      clear hw3 q0 q1 q2 q3 q4 f0 f1 f2 f3 f4 j0 j1 j2 j3 j4 b0 b1 b2 b3
      go_wp2_with fail
      refine (num_any w3 gc).mono ?_; rintro e w4 ⟨rfl, h⟩; rw [h]; clear h w4
      go_wp2_with fail
      go_ret
      exact ⟨rfl, _, _, _, _, _, HEND.out.1, (Fr.of HB1.out).trans HEND.out.2⟩
end S
end Go.Proofs.Ytlfodhejpbjfcaa
