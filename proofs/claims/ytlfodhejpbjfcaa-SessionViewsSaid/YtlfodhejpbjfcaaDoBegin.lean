/- The player's do: a transaction begins. -/
import Derived.Test.YtlfodhejpbjfcaaPlayS2
namespace Go.Proofs.Ytlfodhejpbjfcaa
open Go.RowKit
namespace S
attribute [local go_sem] Oper.semAt_some
/-- What floats behind the stores: the box's cell and the versions'. -/
def SBeg (p : Nat) (x v : Value) (W w : World) : Prop := BC p W w ∧ w.cell? ⟨p, 0, none⟩ = some x ∧ w.cell? ⟨p, 1, none⟩ = some v
set_option maxRecDepth 100000 in
set_option maxHeartbeats 8000000 in
theorem do_begin {N p k kd tx : Nat} {n0 : Lo} {W : World} {X : Bx} {Vs : List Ver} {m : Sl} {rs : Nat → R5} {f : Slots} (hP : PlAt N n0 W p X Vs m rs f) (hKs : N ≤ 60) (hkd : kd < 256) (htx : tx < 256) (hkk : (tx : Int) % 4 = (k : Int)) (hk : k < 4) (hkind : f k = none ∨ (kd : Int) % 6 = 0 ∧ ∃ y, f k = some y) (s : ByteArray) (id : Int) :
    Calls Try.prog 12 #[.pointer (some ⟨p, 0, none⟩), actV kd tx s id] W (DoPost N n0 W p) := by
  have HF : ∀ f, Fence.wide.fn f := fun _ => trivial
  unfold actV
  obtain ⟨W1, hW1⟩ : ∃ w, W.alloc (.cells #[.int .u8 (kd : Int), .int .u8 (tx : Int), .string s, .int .i64 id] 29) = w := ⟨_, rfl⟩
  have hb1 : Below W.heap.size W W1 := by rw [← hW1]; exact (Below.refl _ _).alloc (Nat.le_refl _) _
  have ka : ActC W1 W.heap.size kd tx s id := by rw [← hW1]; exact heap_new _ _
  have hP1 := hP.below hb1
  have HP := Lib.hid hP1; have HB1 := Lib.hid hb1; have HA := Lib.hid ka
  obtain ⟨a0, a1, a2, a3⟩ := ka.cells
  have hk4 : (k : Int) < 4 := by omega
  have hk0 : (0 : Int) ≤ (k : Int) := by omega
  obtain ⟨ma, mn, mc⟩ := m
  have c2 : W1.cell? ⟨p, 2 + k, none⟩ = some (.pointer (tsOf f k)) := hP1.1.txn hk
  have c00 : W1.cell? ⟨p, 0, none⟩ = some (.pointer (some ⟨X.b, 0, none⟩)) := hP1.1.box
  have c01 : W1.cell? ⟨p, 1, none⟩ = some (.slice ma mn mc) := hP1.1.vers
  have c0 : ∀ w, SBeg p (.pointer (some ⟨X.b, 0, none⟩)) (.slice ma mn mc) W1 w → w.cell? ⟨p, 0, none⟩ = some (.pointer (some ⟨X.b, 0, none⟩)) := fun w h => h.2.1
  have c1 : ∀ w, SBeg p (.pointer (some ⟨X.b, 0, none⟩)) (.slice ma mn mc) W1 w → w.cell? ⟨p, 1, none⟩ = some (.slice ma mn mc) := fun w h => h.2.2
  have HC0 := Lib.hid (And.intro c00 c01)
  have HVl := Lib.hid (And.intro hP.2.2.2.1.pos (show Vs.length ≤ 1000 by have := hP.2.2.2.2.1.2.2.1; omega))
  have HI : ∀ t r c, Hid (TxInv X.N ⟨t, r, c, X.N, X.q, X.T, false, [], []⟩ (beginR Vs)) := fun t r c => Lib.hid (inv_begin hP.2.2.2.1 t r c)
  have HI0 := Lib.hid (show X.N = (beginR Vs).began from hP.2.2.2.1.num)
  have HZ : ∀ t r c, Hid (Sz (N + 1) ⟨t, r, c, X.N, X.q, X.T, false, [], []⟩ (beginR Vs)) := fun t r c => Lib.hid (by
    have h1 := hP.2.2.2.1.list
    have h2 := hP.2.2.2.2.1.1
    have h3 := Tr.sz_eq X.T
    have h4 : (beginR Vs).sees = X.T.toList := h1.symm
    have h5 : ((beginR Vs).sees.length : Int) = X.T.sz := by rw [h4, ← h3]
    exact ⟨by simp, by simp, by omega, by simp [beginR], by simp [beginR]⟩)
  clear hP hP1 hb1 ka c00 c01
  go_enter Try.func12, Try.ntmps12
  rcases hkind with hfk | ⟨hkind, ⟨yt, yr⟩, hfk⟩
  all_goals
    unfold tsOf at c2
    rw [hfk] at c2
    dsimp only [Option.map] at c2
    clear hfk
    go_wp2_with fail
    clear a0 a1 a2 a3 c2 hW1
    have S0 : SBeg p (.pointer (some ⟨X.b, 0, none⟩)) (.slice ma mn mc) W1 W1.drew := ⟨.of (Below.refl _ _).drew, HC0.out.1, HC0.out.2⟩
    refine wp_region_anyH (SBeg p (.pointer (some ⟨X.b, 0, none⟩)) (.slice ma mn mc) W1) (by kernel_rfl) ?_
    refine AnyH.take (i := 0) (d := some 33) (v := ?_) (by kernel_rfl) rfl rfl HF (fun _ _ _ h => h) (.inl ⟨by rfl, ?_⟩) (by first | assumption | rfl) ?_
    rotate_left
    · intro w hS; try subst hS
      go_simp; try with_reducible rfl
    try simp only [Act.put, List.setIfInBounds_toArray, List.set_cons_zero, List.set_cons_succ]
    refine AnyH.take (i := 1) (d := some 34) (v := ?_) (by kernel_rfl) rfl rfl HF (fun _ _ _ h => h) (.inl ⟨by rfl, ?_⟩) (by first | assumption | rfl) ?_
    rotate_left
    · intro w hS; try subst hS
      go_simp; try with_reducible rfl
    try simp only [Act.put, List.setIfInBounds_toArray, List.set_cons_zero, List.set_cons_succ]
    refine AnyH.take (i := 2) (d := some 35) (v := ?_) (by kernel_rfl) rfl rfl HF (fun _ _ _ h => h) (.inl ⟨by rfl, ?_⟩) (by first | assumption | rfl) ?_
    rotate_left
    · intro w hS; try subst hS
      go_simp; try with_reducible rfl
    try simp only [Act.put, List.setIfInBounds_toArray, List.set_cons_zero, List.set_cons_succ]
    refine AnyH.take (i := 3) (d := some 36) (v := ?_) (by kernel_rfl) rfl rfl HF (fun _ _ _ h => h) (.inl ⟨by rfl, ?_⟩) (by first | assumption | rfl) ?_
    rotate_left
    · intro w hS; try subst hS
      go_simp; try with_reducible rfl
    try simp only [Act.put, List.setIfInBounds_toArray, List.set_cons_zero, List.set_cons_succ]
    refine AnyH.take (i := 4) (d := some 37) (v := ?_) (by kernel_rfl) rfl rfl HF (fun _ _ _ h => h) (.inl ⟨by rfl, ?_⟩) (by first | assumption | rfl) ?_
    rotate_left
    · intro w hS; try subst hS
      go_simp; try with_reducible rfl
    try simp only [Act.put, List.setIfInBounds_toArray, List.set_cons_zero, List.set_cons_succ]
    refine AnyH.take (i := 5) (d := some 38) (v := ?_) (by kernel_rfl) rfl rfl HF (fun _ _ _ h => h) (.inl ⟨by rfl, ?_⟩) (by first | assumption | rfl) ?_
    rotate_left
    · intro w hS; try subst hS
      go_simp; try with_reducible rfl
    try simp only [Act.put, List.setIfInBounds_toArray, List.set_cons_zero, List.set_cons_succ]
    refine AnyH.take (i := 6) (d := some 39) (v := ?_) (by kernel_rfl) rfl rfl HF (fun _ _ _ h => h) (.inl ⟨by rfl, ?_⟩) (by first | assumption | rfl) ?_
    rotate_left
    · intro w hS; try subst hS
      go_simp; try with_reducible rfl
    try simp only [Act.put, List.setIfInBounds_toArray, List.set_cons_zero, List.set_cons_succ]
    refine AnyH.take (i := 7) (d := some 40) (v := ?_) (by kernel_rfl) rfl rfl HF (fun _ _ _ h => h) (.inl ⟨by rfl, ?_⟩) (by first | assumption | rfl) ?_
    rotate_left
    · intro w hS; try subst hS
      go_simp; try with_reducible rfl
    try simp only [Act.put, List.setIfInBounds_toArray, List.set_cons_zero, List.set_cons_succ]
    refine AnyH.take (i := 9) (d := some 42) (v := ?_) (by kernel_rfl) rfl rfl HF (fun _ _ _ h => h) (.inl ⟨by rfl, ?_⟩) (by first | assumption | rfl) ?_
    rotate_left
    · intro w hS; try subst hS
      go_simp; try with_reducible rfl
    try simp only [Act.put, List.setIfInBounds_toArray, List.set_cons_zero, List.set_cons_succ]
    refine AnyH.take (i := 10) (d := some 43) (v := ?_) (by kernel_rfl) rfl rfl HF (fun _ _ _ h => h) (.inl ⟨by rfl, ?_⟩) (by first | assumption | rfl) ?_
    rotate_left
    · intro w hS; try subst hS
      go_simp; try with_reducible rfl
    try simp only [Act.put, List.setIfInBounds_toArray, List.set_cons_zero, List.set_cons_succ]
    refine AnyH.take (i := 11) (d := some 44) (v := ?_) (by kernel_rfl) rfl rfl HF (fun _ _ _ h => h) (.inl ⟨by rfl, ?_⟩) (by first | assumption | rfl) ?_
    rotate_left
    · intro w hS; try subst hS
      go_simp; try with_reducible rfl
    try simp only [Act.put, List.setIfInBounds_toArray, List.set_cons_zero, List.set_cons_succ]
    refine AnyH.take (i := 12) (d := some 45) (v := ?_) (by kernel_rfl) rfl rfl HF (fun _ _ _ h => h) (.inl ⟨by rfl, ?_⟩) (by first | assumption | rfl) ?_
    rotate_left
    · intro w hS; try subst hS
      go_simp; try with_reducible rfl
    try simp only [Act.put, List.setIfInBounds_toArray, List.set_cons_zero, List.set_cons_succ]
    refine AnyH.take (i := 14) (d := some 47) (v := ?_) (by kernel_rfl) rfl rfl HF (fun _ _ _ h => h) (.inl ⟨by rfl, ?_⟩) (by first | assumption | rfl) ?_
    rotate_left
    · intro w hS; try subst hS
      go_simp; try with_reducible rfl
    try simp only [Act.put, List.setIfInBounds_toArray, List.set_cons_zero, List.set_cons_succ]
    refine AnyH.take (i := 15) (d := some 48) (v := ?_) (by kernel_rfl) rfl rfl HF (fun _ _ _ h => h) (.inl ⟨by rfl, ?_⟩) (by first | assumption | rfl) ?_
    rotate_left
    · intro w hS; try subst hS
      go_simp; try with_reducible rfl
    try simp only [Act.put, List.setIfInBounds_toArray, List.set_cons_zero, List.set_cons_succ]
    refine AnyH.take (i := 18) (d := some 50) (v := ?_) (by kernel_rfl) rfl rfl HF (fun _ _ _ h => h) (.inl ⟨by rfl, ?_⟩) (by first | assumption | rfl) ?_
    rotate_left
    · intro w hS; try subst hS
      go_simp; try with_reducible rfl
    try simp only [Act.put, List.setIfInBounds_toArray, List.set_cons_zero, List.set_cons_succ]
    refine AnyH.take (i := 19) (d := some 51) (v := ?_) (by kernel_rfl) rfl rfl HF (fun _ _ _ h => h) (.inl ⟨by rfl, ?_⟩) (by first | assumption | rfl) ?_
    rotate_left
    · intro w hS; try subst hS
      go_simp; try with_reducible rfl
    try simp only [Act.put, List.setIfInBounds_toArray, List.set_cons_zero, List.set_cons_succ]
    refine AnyH.one (i := 8) (by kernel_rfl) (by kernel_rfl) rfl HF (by rfl) (fun K hK => ?_)
    go_simp
    first | ((with_reducible refine And.intro ?hdep ?_); (case hdep => first | rfl | (intro h; cases h))) | skip
    refine callsIn_wide.2 ((tx_begin (HP.out.2.2.1.below (Below.refl W1.heap.size W1).drew)).mono ?_)
    rintro e w2 ⟨t, r, c, rfl, g1, g2, g3, hx, hX, -, hb⟩
    have hb2 : Below W1.heap.size W1 w2 := Below.step (Below.refl _ _).drew hb
    have hP2 := HP.out.1
    have p2 : PlC w2 p X.b (ma, mn, mc) (tsOf f) rs := box_below hb2 hP2
    have S2 : SBeg p (.pointer (some ⟨X.b, 0, none⟩)) (.slice ma mn mc) W1 w2 := ⟨.of hb2, p2.box, p2.vers⟩
    have HB2 := Lib.hid hb2; have HG := Lib.hid (And.intro g1 (And.intro g2 g3)); have HX2 := Lib.hid hx; have P2 := Lib.hid p2
    clear g1 g2 g3 hx hX hb hb2 hP2 p2
    refine hK _ _ S2 ?_
    clear hK K
    try simp only [Act.put, List.setIfInBounds_toArray, List.set_cons_zero, List.set_cons_succ]
    refine AnyH.one (i := 13) (by kernel_rfl) (by kernel_rfl) rfl HF (by rfl) (fun K hK => ?_)
    go_simp
    first | ((with_reducible refine And.intro ?hdep ?_); (case hdep => first | rfl | (intro h; cases h))) | skip
    refine callsIn_wide.2 ((refBegin_any (HP.out.2.1.below HB2.out) HVl.out.1 HVl.out.2).mono ?_)
    rintro e w3 ⟨v3, rfl, hr3, hb3⟩
    obtain ⟨⟨xa, xan, xac⟩, ⟨xb, xbn, xbc⟩, ⟨xc, xcn, xcc⟩, rfl, hA3⟩ := hr3
    have p3 : PlC w3 p X.b (ma, mn, mc) (tsOf f) rs := box_below hb3 P2.out
    have S3 : SBeg p (.pointer (some ⟨X.b, 0, none⟩)) (.slice ma mn mc) W1 w3 := ⟨.of (Below.step HB2.out hb3), p3.box, p3.vers⟩
    obtain ⟨bn, hbn⟩ : ∃ g, (beginR Vs).began = g := ⟨_, rfl⟩
    obtain ⟨bd, hbd⟩ : ∃ g, (beginR Vs).done = g := ⟨_, rfl⟩
    have HBN := Lib.hid hbn; have HBD := Lib.hid hbd
    rw [hbn, hbd]
    have HB3 := Lib.hid hb3; have P3 := Lib.hid p3; have HA3 := Lib.hid hA3
    have f2 := p3.free (2 + k)
    have d2 : w3.cell? ⟨p, 2 + k, none⟩ = some (.pointer (tsOf f k)) := p3.txn hk
    unfold rtV
    simp only [slV]
    clear hb3 p3 hA3 hbn hbd
    refine hK _ _ S3 ?_
    clear hK K
    try simp only [Act.put, List.setIfInBounds_toArray, List.set_cons_zero, List.set_cons_succ]
    refine AnyH.take (i := 16) (d := some 49) (v := ?_) (by kernel_rfl) rfl rfl HF (fun _ _ _ h => h) (.inl ⟨by rfl, ?_⟩) (by first | assumption | rfl) ?_
    rotate_left
    · intro w hS; try subst hS
      go_simp; try with_reducible rfl
    try simp only [Act.put, List.setIfInBounds_toArray, List.set_cons_zero, List.set_cons_succ]
    refine AnyH.one (i := 17) (by kernel_rfl) (by kernel_rfl) rfl HF (by rfl) (fun K hK => ?_)
    go_simp
    obtain ⟨w4, hw4⟩ : ∃ w, w3.setCell ⟨p, 2 + k, none⟩ (.pointer (some ⟨t, 0, none⟩)) = w := ⟨_, rfl⟩
    have p4 : PlC w4 p X.b (ma, mn, mc) (up (tsOf f) k (some ⟨t, 0, none⟩)) rs := by rw [← hw4]; exact P3.out.setTxn hk _
    have b4 : BC p w3 w4 := by rw [← hw4]; exact (BC.refl p w3).set (p := ⟨p, 2 + k, none⟩) (.inr rfl) _
    have S4 : SBeg p (.pointer (some ⟨X.b, 0, none⟩)) (.slice ma mn mc) W1 w4 := ⟨S3.1.trans b4, p4.box, p4.vers⟩
    try rw [hw4]
    have HB4 := Lib.hid b4; have P4 := Lib.hid p4
    obtain ⟨q0, q1, q2, q3, q4⟩ := p4.ref hk
    have f0 := p4.free (6 + k * 5); have f1 := p4.free (6 + k * 5 + 1); have f2' := p4.free (6 + k * 5 + 2); have f3 := p4.free (6 + k * 5 + 3); have f4 := p4.free (6 + k * 5 + 4)
    simp only [slV] at q1 q2 q3
    clear b4 p4 f2 d2
    refine hK _ _ S4 ?_
    clear hK K
    try simp only [Act.put, List.setIfInBounds_toArray, List.set_cons_zero, List.set_cons_succ]
    refine AnyH.take (i := 20) (d := some 52) (v := ?_) (by kernel_rfl) rfl rfl HF (fun _ _ _ h => h) (.inl ⟨by rfl, ?_⟩) (by first | assumption | rfl) ?_
    rotate_left
    · intro w hS; try subst hS
      go_simp; try with_reducible rfl
    try simp only [Act.put, List.setIfInBounds_toArray, List.set_cons_zero, List.set_cons_succ]
    refine AnyH.one (i := 21) (by kernel_rfl) (by kernel_rfl) rfl HF (by rfl) (fun K hK => ?_)
    go_simp
    obtain ⟨w5, hw5⟩ : ∃ w, ((((w4.setCell ⟨p, 6 + k * 5, none⟩ (.int .i64 bn)).setCell ⟨p, 6 + k * 5 + 1, none⟩ (.slice xa xan xac)).setCell ⟨p, 6 + k * 5 + 2, none⟩ (.slice xb xbn xbc)).setCell ⟨p, 6 + k * 5 + 3, none⟩ (.slice xc xcn xcc)).setCell ⟨p, 6 + k * 5 + 4, none⟩ (.bool bd) = w := ⟨_, rfl⟩
    rw [hw5]
    have p5 : PlC w5 p X.b (ma, mn, mc) (up (tsOf f) k (some ⟨t, 0, none⟩)) (up rs k (bn, (xa, xan, xac), (xb, xbn, xbc), (xc, xcn, xcc), bd)) := by rw [← hw5]; exact P4.out.setRef hk (bn, (xa, xan, xac), (xb, xbn, xbc), (xc, xcn, xcc), bd)
    have b5 : BC p w3 w5 := by
      rw [← hw5]
      exact (((((HB4.out).set (p := ⟨p, 6 + k * 5, none⟩) (.inr rfl) _).set (p := ⟨p, 6 + k * 5 + 1, none⟩) (.inr rfl) _).set (p := ⟨p, 6 + k * 5 + 2, none⟩) (.inr rfl) _).set (p := ⟨p, 6 + k * 5 + 3, none⟩) (.inr rfl) _).set (p := ⟨p, 6 + k * 5 + 4, none⟩) (.inr rfl) _
    have S5 : SBeg p (.pointer (some ⟨X.b, 0, none⟩)) (.slice ma mn mc) W1 w5 := ⟨S3.1.trans b5, p5.box, p5.vers⟩
    have HEND : Hid (PlAt (N + 1) n0 w5 p X Vs (ma, mn, mc) (up rs k (bn, (xa, xan, xac), (xb, xbn, xbc), (xc, xcn, xcc), bd)) (up f k (some (⟨t, r, c, X.N, X.q, X.T, false, [], []⟩, beginR Vs))) ∧ Fr n0 W1 w5) := Lib.hid
      (PlAt.begun HP.out hk HX2.out HB2.out HG.out.1 HG.out.2.1 HG.out.2.2 HB3.out (HI t r c).out (HZ t r c).out (r := (bn, (xa, xan, xac), (xb, xbn, xbc), (xc, xcn, xcc), bd)) HA3.out HBN.out.symm HBD.out.symm b5 p5)
    clear p5 b5 hw5 hw4 q0 q1 q2 q3 q4 f0 f1 f2' f3 f4
    refine hK _ _ S5 ?_
    clear hK K
    try simp only [Act.put, List.setIfInBounds_toArray, List.set_cons_zero, List.set_cons_succ]
    refine AnyH.done (by kernel_rfl) ?_
    have hp5 := HEND.out.1.1
    have hs5 := HEND.out.1.2.2.2.2.2.2.1 k hk (⟨t, r, c, X.N, X.q, X.T, false, [], []⟩, beginR Vs) (by simp [up])
    have htx : TxnC w5 t X.b X.N X.q r c false := hs5.1.1
    have e2 : ∀ w, Below w5.heap.size w5 w → w.cell? ⟨p, 2 + k, none⟩ = some (.pointer (some ⟨t, 0, none⟩)) := fun w hw => by have := (PlC.txn (box_below hw hp5) hk); simpa [tsOf, up] using this
    have e6 : ∀ w, Below w5.heap.size w5 w → w.cell? ⟨p, 6 + k * 5, none⟩ = some (.int .i64 bn) := fun w hw => by have := (PlC.ref (box_below hw hp5) hk).1; simpa [up] using this
    have HTX := Lib.hid htx
    have HNB : Hid (X.N = bn) := Lib.hid (by rw [← HBN.out]; exact HI0.out)
    clear hp5 hs5 htx c0 c1 S0 S2 S3 S4 S5
    go_wp2_with fail
    refine wp_region_anyH (Below w5.heap.size w5) (by kernel_rfl) ?_
    have B0 : Below w5.heap.size w5 w5.drew := (Below.refl _ _).drew
    refine AnyH.take (i := 0) (d := some 53) (v := ?_) (by kernel_rfl) rfl rfl HF (fun _ _ _ h => h) (.inl ⟨by rfl, ?_⟩) (by first | assumption | rfl) ?_
    rotate_left
    · intro w hS; try subst hS
      go_simp; try with_reducible rfl
    try simp only [Act.put, List.setIfInBounds_toArray, List.set_cons_zero, List.set_cons_succ]
    refine AnyH.take (i := 1) (d := some 54) (v := ?_) (by kernel_rfl) rfl rfl HF (fun _ _ _ h => h) (.inl ⟨by rfl, ?_⟩) (by first | assumption | rfl) ?_
    rotate_left
    · intro w hS; try subst hS
      go_simp; try with_reducible rfl
    try simp only [Act.put, List.setIfInBounds_toArray, List.set_cons_zero, List.set_cons_succ]
    refine AnyH.take (i := 2) (d := some 55) (v := ?_) (by kernel_rfl) rfl rfl HF (fun _ _ _ h => h) (.inl ⟨by rfl, ?_⟩) (by first | assumption | rfl) ?_
    rotate_left
    · intro w hS; try subst hS
      go_simp; try with_reducible rfl
    try simp only [Act.put, List.setIfInBounds_toArray, List.set_cons_zero, List.set_cons_succ]
    refine AnyH.take (i := 3) (d := some 56) (v := ?_) (by kernel_rfl) rfl rfl HF (fun _ _ _ h => h) (.inl ⟨by rfl, ?_⟩) (by first | assumption | rfl) ?_
    rotate_left
    · intro w hS; try subst hS
      go_simp; try with_reducible rfl
    try simp only [Act.put, List.setIfInBounds_toArray, List.set_cons_zero, List.set_cons_succ]
    refine AnyH.take (i := 4) (d := some 57) (v := ?_) (by kernel_rfl) rfl rfl HF (fun _ _ _ h => h) (.inl ⟨by rfl, ?_⟩) (by first | assumption | rfl) ?_
    rotate_left
    · intro w hS; try subst hS
      go_simp; try with_reducible rfl
    try simp only [Act.put, List.setIfInBounds_toArray, List.set_cons_zero, List.set_cons_succ]
    refine AnyH.take (i := 5) (d := some 58) (v := ?_) (by kernel_rfl) rfl rfl HF (fun _ _ _ h => h) (.inl ⟨by rfl, ?_⟩) (by first | assumption | rfl) ?_
    rotate_left
    · intro w hS; try subst hS
      go_simp; try with_reducible rfl
    try simp only [Act.put, List.setIfInBounds_toArray, List.set_cons_zero, List.set_cons_succ]
    refine AnyH.take (i := 6) (d := some 59) (v := ?_) (by kernel_rfl) rfl rfl HF (fun _ _ _ h => h) (.inl ⟨by rfl, ?_⟩) (by first | assumption | rfl) ?_
    rotate_left
    · intro w hS; try subst hS
      go_simp; try with_reducible rfl
    try simp only [Act.put, List.setIfInBounds_toArray, List.set_cons_zero, List.set_cons_succ]
    refine AnyH.take (i := 7) (d := some 60) (v := ?_) (by kernel_rfl) rfl rfl HF (fun _ _ _ h => h) (.inl ⟨by rfl, ?_⟩) (by first | assumption | rfl) ?_
    rotate_left
    · intro w hS; try subst hS
      go_simp; try with_reducible rfl
    try simp only [Act.put, List.setIfInBounds_toArray, List.set_cons_zero, List.set_cons_succ]
    refine AnyH.take (i := 8) (d := some 61) (v := ?_) (by kernel_rfl) rfl rfl HF (fun _ _ _ h => h) (.inl ⟨by rfl, ?_⟩) (by first | assumption | rfl) ?_
    rotate_left
    · intro w hS; try subst hS
      go_simp; try with_reducible rfl
    try simp only [Act.put, List.setIfInBounds_toArray, List.set_cons_zero, List.set_cons_succ]
    refine AnyH.take (i := 9) (d := some 62) (v := ?_) (by kernel_rfl) rfl rfl HF (fun _ _ _ h => h) (.inl ⟨by rfl, ?_⟩) (by first | assumption | rfl) ?_
    rotate_left
    · intro w hS; try subst hS
      go_simp; try with_reducible rfl
    try simp only [Act.put, List.setIfInBounds_toArray, List.set_cons_zero, List.set_cons_succ]
    refine AnyH.take (i := 10) (d := some 63) (v := ?_) (by kernel_rfl) rfl rfl HF (fun _ _ _ h => h) (.inl ⟨by rfl, ?_⟩) (by first | assumption | rfl) ?_
    rotate_left
    · intro w hS; try subst hS
      go_simp; try with_reducible rfl
    try simp only [Act.put, List.setIfInBounds_toArray, List.set_cons_zero, List.set_cons_succ]
    refine AnyH.take (i := 11) (d := some 64) (v := ?_) (by kernel_rfl) rfl rfl HF (fun _ _ _ h => h) (.inl ⟨by rfl, ?_⟩) (by first | assumption | rfl) ?_
    rotate_left
    · intro w hS; try subst hS
      go_simp; try with_reducible rfl
    try simp only [Act.put, List.setIfInBounds_toArray, List.set_cons_zero, List.set_cons_succ]
    refine AnyH.take (i := 12) (d := some 65) (v := ?_) (by kernel_rfl) rfl rfl HF (fun _ _ _ h => h) (.inl ⟨by rfl, ?_⟩) (by first | assumption | rfl) ?_
    rotate_left
    · intro w hS; try subst hS
      go_simp; try with_reducible rfl
    try simp only [Act.put, List.setIfInBounds_toArray, List.set_cons_zero, List.set_cons_succ]
    refine AnyH.take (i := 13) (d := some 66) (v := ?_) (by kernel_rfl) rfl rfl HF (fun _ _ _ h => h) (.inl ⟨by rfl, ?_⟩) (by first | assumption | rfl) ?_
    rotate_left
    · intro w hS; try subst hS
      go_simp; try with_reducible rfl
    try simp only [Act.put, List.setIfInBounds_toArray, List.set_cons_zero, List.set_cons_succ]
    refine AnyH.take (i := 15) (d := some 68) (v := ?_) (by kernel_rfl) rfl rfl HF (fun _ _ _ h => h) (.inl ⟨by rfl, ?_⟩) (by first | assumption | rfl) ?_
    rotate_left
    · intro w hS; try subst hS
      go_simp; try with_reducible rfl
    try simp only [Act.put, List.setIfInBounds_toArray, List.set_cons_zero, List.set_cons_succ]
    refine AnyH.take (i := 16) (d := some 69) (v := ?_) (by kernel_rfl) rfl rfl HF (fun _ _ _ h => h) (.inl ⟨by rfl, ?_⟩) (by first | assumption | rfl) ?_
    rotate_left
    · intro w hS; try subst hS
      go_simp; try with_reducible rfl
    try simp only [Act.put, List.setIfInBounds_toArray, List.set_cons_zero, List.set_cons_succ]
    refine AnyH.take (i := 17) (d := some 70) (v := ?_) (by kernel_rfl) rfl rfl HF (fun _ _ _ h => h) (.inl ⟨by rfl, ?_⟩) (by first | assumption | rfl) ?_
    rotate_left
    · intro w hS; try subst hS
      go_simp; try with_reducible rfl
    try simp only [Act.put, List.setIfInBounds_toArray, List.set_cons_zero, List.set_cons_succ]
    refine AnyH.take (i := 18) (d := some 71) (v := ?_) (by kernel_rfl) rfl rfl HF (fun _ _ _ h => h) (.inl ⟨by rfl, ?_⟩) (by first | assumption | rfl) ?_
    rotate_left
    · intro w hS; try subst hS
      go_simp; try with_reducible rfl
    try simp only [Act.put, List.setIfInBounds_toArray, List.set_cons_zero, List.set_cons_succ]
    refine AnyH.take (i := 19) (d := some 72) (v := ?_) (by kernel_rfl) rfl rfl HF (fun _ _ _ h => h) (.inl ⟨by rfl, ?_⟩) (by first | assumption | rfl) ?_
    rotate_left
    · intro w hS; try subst hS
      go_simp; try with_reducible rfl
    try simp only [Act.put, List.setIfInBounds_toArray, List.set_cons_zero, List.set_cons_succ]
    refine AnyH.take (i := 20) (d := some 73) (v := ?_) (by kernel_rfl) rfl rfl HF (fun _ _ _ h => h) (.inl ⟨by rfl, ?_⟩) (by first | assumption | rfl) ?_
    rotate_left
    · intro w hS; try subst hS
      go_simp; try with_reducible rfl
    try simp only [Act.put, List.setIfInBounds_toArray, List.set_cons_zero, List.set_cons_succ]
    refine AnyH.take (i := 21) (d := some 74) (v := ?_) (by kernel_rfl) rfl rfl HF (fun _ _ _ h => h) (.inl ⟨by rfl, ?_⟩) (by first | assumption | rfl) ?_
    rotate_left
    · intro w hS; try subst hS
      go_simp; try with_reducible rfl
    try simp only [Act.put, List.setIfInBounds_toArray, List.set_cons_zero, List.set_cons_succ]
    refine AnyH.one (i := 14) (by kernel_rfl) (by kernel_rfl) rfl HF (by rfl) (fun K hK => ?_)
    go_simp
    first | ((with_reducible refine And.intro ?hdep ?_); (case hdep => first | rfl | (intro h; cases h))) | skip
    refine callsIn_wide.2 ((TxnVersion_any (W := w5.drew) (box_below B0 HTX.out)).mono ?_)
    rintro e w6 ⟨rfl, h6⟩
    rw [h6, HNB.out]; clear h6 w6
    refine hK _ _ B0 ?_
    clear hK K
    try simp only [Act.put, List.setIfInBounds_toArray, List.set_cons_zero, List.set_cons_succ]
    refine AnyH.take (i := 22) (d := some 75) (v := ?_) (by kernel_rfl) rfl rfl HF (fun _ _ _ h => h) (.inl ⟨by rfl, ?_⟩) (by first | assumption | rfl) ?_
    rotate_left
    · intro w hS; try subst hS
      go_simp; try with_reducible rfl
    try simp only [Act.put, List.setIfInBounds_toArray, List.set_cons_zero, List.set_cons_succ]
    refine AnyH.take (i := 23) (d := some 76) (v := ?_) (by kernel_rfl) rfl rfl HF (fun _ _ _ h => h) (.inl ⟨by rfl, ?_⟩) (by first | assumption | rfl) ?_
    rotate_left
    · intro w hS; try subst hS
      go_simp; try with_reducible rfl
    try simp only [Act.put, List.setIfInBounds_toArray, List.set_cons_zero, List.set_cons_succ]
    refine AnyH.take (i := 24) (d := some 4) (v := ?_) (by kernel_rfl) rfl rfl HF (fun _ _ _ h => h) (.inl ⟨by rfl, ?_⟩) (by first | assumption | rfl) ?_
    rotate_left
    · intro w hS; try subst hS
      go_simp; try with_reducible rfl
    try simp only [Act.put, List.setIfInBounds_toArray, List.set_cons_zero, List.set_cons_succ]
    refine AnyH.done (by kernel_rfl) ?_
    go_wp2_with fail
    go_ret
    exact ⟨rfl, _, _, _, _, _, HEND.out.1.below B0, ((Fr.of HB1.out).trans HEND.out.2).trans (Fr.of B0)⟩
end S
end Go.Proofs.Ytlfodhejpbjfcaa
