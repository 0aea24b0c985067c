/- law18's step: one call on both cursors (printed by cursor/mkstep.py). -/
import Derived.Test.YtjbllcakaljpgaaStepP
namespace Go.Proofs.Ytjbllcakaljpgaa
open Go.RowKit Go.Lib
namespace M
attribute [local go_sem] Oper.semAt_some
set_option maxRecDepth 100000 in
theorem num_err (W : World) (c : Int) : Calls Try.prog 65 #[err c] W fun e w' => e = .returned (.int .i64 c) ∧ w' = W := by
  have hta : ∀ w : World, (Instr.typeAssert (.iface 85 (.int .i64 c)) 35 85 true).run Try.prog w = .ok (.tuple #[.int .i64 c, .bool true]) w := fun _ => by kernel_rfl
  unfold err
  go_enter Try.func65, Try.ntmps65
  go_wp2_with fail
  go_ret
  exact ⟨rfl, rfl⟩
set_option maxRecDepth 100000 in
theorem is_err (W : World) (c k : Int) (hk : k ≠ 0) : Calls Try.prog 36 #[err c, .int .i64 k] W fun e w' => e = .returned (.bool (decide (c = k))) ∧ w' = W := by
  have hkb : (k != 0) = true := by simpa using hk
  by_cases h : c = k
  · subst h
    go_enter Try.func36, Try.ntmps36
    go_wp2_with fail
    refine (num_err W c).mono ?_; rintro e w1 ⟨rfl, rfl⟩
    go_wp2_with fail
    go_ret
    exact ⟨by simp, rfl⟩
  · have hb : (c == k) = false := by simpa using h
    go_enter Try.func36, Try.ntmps36
    go_wp2_with fail
    refine (num_err W c).mono ?_; rintro e w1 ⟨rfl, rfl⟩
    go_wp2_with fail
    go_ret
    exact ⟨by simp [h], rfl⟩
theorem row_below {A C : World} {v : Value} {l : List Nat} (h : ByR A v l) (hb : Below A.heap.size A C) : ByR C v l := by
  obtain ⟨a, cap, rfl, h1, h2, hc⟩ := h
  exact ⟨a, cap, rfl, h1, h2, fun i hi => (hc i hi).imp fun b hh => ⟨hh.1, cell_on hh.2 hb⟩⟩
theorem RcC.other' {W : World} {g y : Nat} {v u : Value} {k m : Int} (_ : RcC W g v k) (h : RcC W y u m) (hc : y ≠ g) {i : Nat} {q : Value} : RcC (W.setCell ⟨g, i, none⟩ q) y u m := h.other hc q
theorem Bys.bc {b0 : Nat} {A C : World} {v : Value} {l : List Nat} (c : Nat) {B id len k : Nat} (h : Bys b0 A v l) (hc : CuC A c B id len k) (hb : BC c A C) : Bys b0 C v l := by
  refine ⟨h.1, ?_⟩
  rcases h.2 with hn | ⟨g, cap, cur, hv, hg0, hg, rest⟩
  · exact .inl hn
  · refine .inr ⟨g, cap, cur, hv, hg0, hb.obj (fun e => ?_) hg, rest⟩
    subst e
    unfold CuC at hc
    rw [hg] at hc; cases hc
theorem row_bc (c : Nat) {A D C : World} {v : Value} {l : List Nat} {B id len k : Nat} (hc : CuC A c B id len k) (h : ByR A v l) (hd : Below A.heap.size A D) (hb : BC c D C) : ByR C v l := by
  have hcd : CuC D c B id len k := below_block hd hc
  obtain ⟨a, cap, rfl, h1, h2, hcl⟩ := row_below h hd
  refine ⟨a, cap, rfl, h1, h2, fun i hi => ?_⟩
  obtain ⟨b, e0, h3⟩ := hcl i hi
  refine ⟨b, e0, ?_⟩
  generalize b.add i = p at h3 ⊢
  obtain ⟨pb, po, pf⟩ := p
  unfold World.cell? at h3 ⊢
  dsimp only at h3 ⊢
  by_cases e : pb = c
  · exfalso
    subst e
    unfold CuC at hcd
    rw [hcd] at h3
    rcases po with _ | _ | _ | _ | n <;> simp at h3
  · cases hh : D.heap[pb]? with
    | none => rw [hh] at h3; cases h3
    | some o =>
      rw [hb.obj e hh]
      rw [hh] at h3
      exact h3
theorem nx_le {t : List Nat} {tl k : Nat} (hl : t.length = tl) (hk : k ≤ tl) : (nxF t k).getD k ≤ tl := by
  rcases Nat.eq_zero_or_pos ((t.drop k).count 10) with g | g
  · rw [nxF_none g]; exact hk
  · rw [nxF_some (by omega) g, ← hl]; exact (nx_at (by omega) g).1
theorem pv_le {t : List Nat} {tl k : Nat} (hl : t.length = tl) (hk : k ≤ tl) : (pvF t k).getD k ≤ tl := by
  rcases pv_cases (t := t) (a := k) (by omega) with ⟨-, g, -⟩ | ⟨-, -, g, -⟩ | ⟨-, -, -, p, g, hp, -⟩
  · rw [g]; exact hk
  · rw [g]; show k - _ ≤ tl; omega
  · rw [g]; show p ≤ tl; omega
/-- What a step leaves. -/
def StepP (va : Option Addr) (vc c B id tl : Nat) (W : World) (e : Ending) (w' : World) : Prop := ∃ k' : Nat, k' ≤ tl ∧ e = .returned (.tuple #[.agg #[.slice va tl vc, .int .i64 ((k' : Nat) : Int)], .bool true]) ∧ CuC w' c B id tl k' ∧ BC c W w'
set_option maxRecDepth 100000 in
set_option maxHeartbeats 16000000 in
theorem step_any {n0 B most b0 : Nat} {W : World} {E : List En} {c id tl k vc : Nat} {va : Option Addr} (hs : StAt n0 W B most E) (hwf : Wf E) (hE : E.length ≤ 1048576) (h : CuC W c B id tl k) (hid : id ≤ E.length) (hlen : (M.txt E id).length = tl) (hk : k ≤ tl) (hls : tl ≤ 1000000) (hB : Bys b0 W (.slice va tl vc) (M.txt E id)) (xk xn : Int) :
    Calls Try.prog 29 #[.pointer (some ⟨c, 0, none⟩), .agg #[.slice va tl vc, .int .i64 k], .agg #[.int .i64 xk, .int .i64 xn]] W (StepP va vc c B id tl W) := by
  have HF : ∀ f, Fence.wide.fn f := fun _ => trivial
  have hlb : tl ≤ 1152921504606846976 := by omega
  obtain ⟨W3, hW3⟩ : ∃ w, ((W.alloc (.cells #[.slice va tl vc, .int .i64 k] 68)).alloc (.cells #[.int .i64 xk, .int .i64 xn] 70)).alloc zeroC = w := ⟨_, rfl⟩
  have b3 : Below W.heap.size W W3 := by rw [← hW3]; exact (((Below.refl _ W).alloc (Nat.le_refl _) _).alloc (by simp) _).alloc (by simp only [World.size_alloc]; omega) _
  have k4 : RcC W3 (W.heap.size) (.slice va tl vc) k := by
    rw [← hW3]
    exact below_block ((Below.refl _ _).alloc (Nat.le_refl _) _) (below_block ((Below.refl _ _).alloc (Nat.le_refl _) _) (heap_new' W _))
  have k5 : AcC W3 (W.heap.size + 1) ⟨xk, xn⟩ := by
    rw [← hW3]
    have := heap_new' (W.alloc (.cells #[.slice va tl vc, .int .i64 k] 68)) (.cells #[.int .i64 xk, .int .i64 xn] 70)
    rw [World.size_alloc] at this
    exact below_block ((Below.refl _ _).alloc (Nat.le_refl _) _) this
  have kz : RcC W3 (W.heap.size + 2) (.slice none 0 0) 0 := by
    rw [← hW3]
    have := heap_new' ((W.alloc (.cells #[.slice va tl vc, .int .i64 k] 68)).alloc (.cells #[.int .i64 xk, .int .i64 xn] 70)) zeroC
    rw [World.size_alloc, World.size_alloc] at this
    exact this
  have hcl := (Array.getElem?_eq_some_iff.1 (show W.heap[c]? = _ from h)).1
  obtain ⟨q0, q1, -, -⟩ := k4.cells
  obtain ⟨x0, x1⟩ := k5.cells
  dsimp only at x0 x1
  have HK3 := Lib.hid (show CuC W3 c B id tl k from below_block b3 h)
  have HK4 := Lib.hid k4; have HK5 := Lib.hid k5; have HKZ := Lib.hid kz
  have HB3 := Lib.hid (BC.of (C := c) b3)
  have HS3 := Lib.hid (hs.below b3); have HWF := Lib.hid hwf; have HTL := Lib.hid hlen; have HKL := Lib.hid hk; have HLB := Lib.hid hlb; have HLS := Lib.hid hls
  have HBY3 := Lib.hid (hB.below b3)
  have BYS : Hid (∀ (c' : Nat) {w : World}, BC c W3 w → Bys b0 w (.slice va tl vc) (M.txt E id)) := Lib.hid (fun _ {w} hb => Bys.bc c HBY3.out HK3.out hb)
  have HCL : Hid (c ≠ W.heap.size ∧ c ≠ W.heap.size + 1 ∧ c ≠ W.heap.size + 2) := Lib.hid (by omega)
  have HFIN : Hid (∀ (w : World) (K : Nat), BC c W w → CuC w c B id tl K → RcC w (W.heap.size + 2) (.slice none 0 0) 0 → ∃ wf, (w.setCell ⟨W.heap.size + 2, 0, none⟩ (.slice va tl vc)).setCell ⟨W.heap.size + 2, 1, none⟩ (.int .i64 (K : Nat)) = wf ∧ RcC wf (W.heap.size + 2) (.slice va tl vc) (K : Nat) ∧ CuC wf c B id tl K ∧ BC c W wf ∧ (∀ y, y ≠ W.heap.size + 2 → wf.heap[y]? = w.heap[y]?)) := Lib.hid (fun w K hb hc hz =>
    ⟨_, rfl, hz.set _ _, set_other HCL.out.2.2 (set_other HCL.out.2.2 hc), (hb.set (p := ⟨W.heap.size + 2, 0, none⟩) (.inl (by simp)) _).set (p := ⟨W.heap.size + 2, 1, none⟩) (.inl (by simp)) _, fun y hy => (Below.heap_setCell _ _ _ _ hy).trans (Below.heap_setCell _ _ _ _ hy)⟩)
  have hsk : ∀ n : Int, ∃ k1 : Nat, (k : Int) + mv tl k n = k1 ∧ k1 ≤ tl := fun n => by
    have := mv_in hk n
    exact ⟨((k : Int) + mv tl k n).toNat, by omega, by omega⟩
  obtain ⟨q, hq⟩ : ∃ q, xk % ((9 : Nat) : Int) = q := ⟨_, rfl⟩
  have hqr : 0 ≤ q ∧ q < 9 := by omega
  have HP := Lib.hid (pick_any W3 xk 9 (by omega) (by omega))
  rw [hq] at HP
  obtain ⟨hq0, hq9⟩ := hqr
  have hcs : q = 0 ∨ q = 1 ∨ q = 2 ∨ q = 3 ∨ q = 4 ∨ q = 5 ∨ q = 6 ∨ q = 7 ∨ q = 8 := by omega
  clear hs hwf h hlen hk hB b3 k4 k5 kz hcl hq hq0 hq9 hlb hls
  rcases hcs with rfl | rfl | rfl | rfl | rfl | rfl | rfl | rfl | rfl
  · by_cases hv : 0 ≤ xn ∧ xn ≤ (tl : Int)
    · obtain ⟨a, rfl⟩ : ∃ a : Nat, xn = (a : Int) := ⟨xn.toNat, by omega⟩
      have HA : Hid (a ≤ tl) := Lib.hid (by omega)
      have A0 := Lib.hid (cseek_any HK3.out (a : Int))
      rw [if_pos hv, if_pos hv, Int.toNat_natCast] at A0
      have n1 : ¬ (a : Int) < 0 := by omega
      have n2 : ¬ (a : Int) > (tl : Int) := by omega
      have n3 : ¬ tl < a := by omega
      go_enter Try.func29, Try.ntmps29
      go_wp2_with fail
      refine HP.out.mono ?_; rintro e w ⟨rfl, h⟩; rw [h]; clear h w
      clear x0
      go_wp2_with fail
      clear x1 q0 q1
      refine A0.out.mono ?_
      rintro e w4 ⟨rfl, hc, hb⟩
      have K4h : Hid (RcC w4 (W.heap.size) (.slice va tl vc) k) := Lib.hid (hb.obj (Ne.symm HCL.out.1) HK4.out)
      have K5h : Hid (AcC w4 (W.heap.size + 1) ⟨xk, (a : Int)⟩) := Lib.hid (hb.obj (Ne.symm HCL.out.2.1) HK5.out)
      have KZ : Hid (RcC w4 (W.heap.size + 2) (.slice none 0 0) 0) := Lib.hid (hb.obj (Ne.symm HCL.out.2.2) HKZ.out)
      have KC := Lib.hid hc
      have KB := Lib.hid (HB3.out.trans hb)
      have KBW := Lib.hid (BYS.out c hb)
      clear hc hb
      obtain ⟨y0, y1, y2, y3⟩ := K4h.out.cells
      obtain ⟨-, x1⟩ := K5h.out.cells
      dsimp only at x1
      obtain ⟨w5, hw5⟩ : ∃ y, w4.setCell ⟨W.heap.size, 1, none⟩ (.int .i64 (a : Nat)) = y := ⟨_, rfl⟩
      have k45 : RcC w5 (W.heap.size) (.slice va tl vc) (a : Nat) := by rw [← hw5]; exact K4h.out.move _
      have k55 : AcC w5 (W.heap.size + 1) ⟨xk, (a : Int)⟩ := by rw [← hw5]; exact set_other (by omega) K5h.out
      have kz5 : RcC w5 (W.heap.size + 2) (.slice none 0 0) 0 := by rw [← hw5]; exact K4h.out.other' KZ.out (by omega)
      have kc5 : CuC w5 c B id tl a := by rw [← hw5]; exact set_other HCL.out.1 KC.out
      have kb5 : BC c W w5 := by rw [← hw5]; exact KB.out.set (p := ⟨W.heap.size, 1, none⟩) (.inl (Nat.le_refl _)) _
      have K4h := Lib.hid k45; have K5h := Lib.hid k55; have KZ := Lib.hid kz5; have KC := Lib.hid kc5; have KB := Lib.hid kb5
      clear k45 k55 kz5 kc5 kb5
      obtain ⟨wd, hwd⟩ : ∃ y, w5.drew = y := ⟨_, rfl⟩
      have DD : Below w5.heap.size w5 wd := by rw [← hwd]; exact (Below.refl _ _).drew
      have D4 : RcC wd (W.heap.size) (.slice va tl vc) ((a : Nat)) := below_block DD K4h.out
      have D5 : AcC wd (W.heap.size + 1) ⟨xk, (a : Int)⟩ := below_block DD K5h.out
      have DZ : RcC wd (W.heap.size + 2) (.slice none 0 0) 0 := below_block DD KZ.out
      have s0 : ∀ w, (RcC w (W.heap.size) (.slice va tl vc) ((a : Nat)) ∧ AcC w (W.heap.size + 1) ⟨xk, (a : Int)⟩) → w.cell? ⟨W.heap.size, 0, none⟩ = some (.slice va tl vc) := fun w hw => hw.1.cells.1
      have s1 : ∀ w, (RcC w (W.heap.size) (.slice va tl vc) ((a : Nat)) ∧ AcC w (W.heap.size + 1) ⟨xk, (a : Int)⟩) → w.cell? ⟨W.heap.size, 1, none⟩ = some (.int .i64 ((a : Nat))) := fun w hw => hw.1.cells.2.1
      have s2 : ∀ w, (RcC w (W.heap.size) (.slice va tl vc) ((a : Nat)) ∧ AcC w (W.heap.size + 1) ⟨xk, (a : Int)⟩) → w.cell? ⟨W.heap.size + 1, 1, none⟩ = some (.int .i64 (a : Int)) := fun w hw => hw.2.cells.2
      have DC := below_block DD KC.out
      have DB := KB.out.trans (BC.of (C := c) DD)
      obtain ⟨z0, z1, z2, z3⟩ := RcC.cells (DZ)
      obtain ⟨wf, hwf, kf, cf, bf, of⟩ := HFIN.out wd a (DB) (DC) (DZ)
      obtain ⟨h0, h1, -, -⟩ := kf.cells
      have HFC := Lib.hid cf; have HFB := Lib.hid bf
      have HOF := Lib.hid of
      clear kf cf bf of
      have SF : RcC wf (W.heap.size) (.slice va tl vc) ((a : Nat)) ∧ AcC wf (W.heap.size + 1) ⟨xk, (a : Int)⟩ := ⟨by have := HOF.out W.heap.size (by omega); unfold RcC at D4 ⊢; rw [this]; exact D4, by have := HOF.out (W.heap.size + 1) (by omega); unfold AcC at D5 ⊢; rw [this]; exact D5⟩
      have SD : RcC wd (W.heap.size) (.slice va tl vc) ((a : Nat)) ∧ AcC wd (W.heap.size + 1) ⟨xk, (a : Int)⟩ := ⟨D4, D5⟩
      go_wp2_with fail
      refine wp_region_anyH (fun w => RcC w (W.heap.size) (.slice va tl vc) ((a : Nat)) ∧ AcC w (W.heap.size + 1) ⟨xk, (a : Int)⟩) (by kernel_rfl) ?_
      rw [hwd]
      clear hwd
      try clear hg9 hw9 u0 u1
      refine AnyH.take (i := 0) (d := some 57) (v := ?_) (by kernel_rfl) rfl rfl HF (fun _ _ _ h => h) (.inl ⟨by rfl, ?_⟩) (by first | assumption | rfl) ?_
      rotate_left
      · intro w hS; try subst hS
        go_simp; try with_reducible rfl
      try simp only [Act.put, List.setIfInBounds_toArray, List.set_cons_zero, List.set_cons_succ]
      refine AnyH.take (i := 1) (d := some 58) (v := ?_) (by kernel_rfl) rfl rfl HF (fun _ _ _ h => h) (.inl ⟨by rfl, ?_⟩) (by first | assumption | rfl) ?_
      rotate_left
      · intro w hS; try subst hS
        go_simp; try with_reducible rfl
      try simp only [Act.put, List.setIfInBounds_toArray, List.set_cons_zero, List.set_cons_succ]
      refine AnyH.take (i := 2) (d := some 59) (v := ?_) (by kernel_rfl) rfl rfl HF (fun _ _ _ h => h) (.inl ⟨by rfl, ?_⟩) (by first | assumption | rfl) ?_
      rotate_left
      · intro w hS; try subst hS
        go_simp; try with_reducible rfl
      try simp only [Act.put, List.setIfInBounds_toArray, List.set_cons_zero, List.set_cons_succ]
      refine AnyH.one (i := 3) (by kernel_rfl) (by kernel_rfl) rfl HF (by rfl) (fun K hK => ?_)
      go_simp
      refine hK _ _ SF ?_
      clear hK K
      try simp only [Act.put, List.setIfInBounds_toArray, List.set_cons_zero, List.set_cons_succ]
      refine AnyH.take (i := 4) (d := some 7) (v := ?_) (by kernel_rfl) rfl rfl HF (fun _ _ _ h => h) (.inl ⟨by rfl, ?_⟩) (by first | assumption | rfl) ?_
      rotate_left
      · intro w hS; try subst hS
        go_simp; try with_reducible rfl
      try simp only [Act.put, List.setIfInBounds_toArray, List.set_cons_zero, List.set_cons_succ]
      refine AnyH.done (by kernel_rfl) ?_
      clear s0 s1 s2
      go_wp2_with fail
      exact bodyPost_ret (v := .tuple #[.agg #[.slice va tl vc, .int .i64 ((a : Nat) : Int)], .bool true]) (by simp [results, Try.results29, go_sem, h0, h1]) rfl ⟨a, HA.out, rfl, HFC.out, HFB.out⟩

    · have A0 := Lib.hid (cseek_any HK3.out xn)
      rw [if_neg hv, if_neg hv] at A0
      have hn : xn < 0 ∨ (¬ xn < 0 ∧ xn > (tl : Int)) := by omega
      have HIS := Lib.hid (fun w => is_err w 1 1 (by omega))
      rw [decide_eq_true rfl] at HIS
      unfold err at A0 HIS
      rcases hn with n1 | ⟨n1, n2⟩
      all_goals
        go_enter Try.func29, Try.ntmps29
        go_wp2_with fail
        refine HP.out.mono ?_; rintro e w ⟨rfl, h⟩; rw [h]; clear h w
        clear x0
        go_wp2_with fail
        clear x1 q0 q1
        refine A0.out.mono ?_
        rintro e w4 ⟨rfl, hc, hb⟩
        have K4h : Hid (RcC w4 (W.heap.size) (.slice va tl vc) k) := Lib.hid (hb.obj (Ne.symm HCL.out.1) HK4.out)
        have K5h : Hid (AcC w4 (W.heap.size + 1) ⟨xk, xn⟩) := Lib.hid (hb.obj (Ne.symm HCL.out.2.1) HK5.out)
        have KZ : Hid (RcC w4 (W.heap.size + 2) (.slice none 0 0) 0) := Lib.hid (hb.obj (Ne.symm HCL.out.2.2) HKZ.out)
        have KC := Lib.hid hc
        have KB := Lib.hid (HB3.out.trans hb)
        have KBW := Lib.hid (BYS.out c hb)
        clear hc hb
        obtain ⟨y0, y1, y2, y3⟩ := K4h.out.cells
        obtain ⟨-, x1⟩ := K5h.out.cells
        dsimp only at x1
        go_wp2_with fail
        clear y0 y1 y2 y3 x1
        obtain ⟨wd, hwd⟩ : ∃ y, w4.drew = y := ⟨_, rfl⟩
        have DD : Below w4.heap.size w4 wd := by rw [← hwd]; exact (Below.refl _ _).drew
        have D4 : RcC wd (W.heap.size) (.slice va tl vc) (k) := below_block DD K4h.out
        have D5 : AcC wd (W.heap.size + 1) ⟨xk, xn⟩ := below_block DD K5h.out
        have DZ : RcC wd (W.heap.size + 2) (.slice none 0 0) 0 := below_block DD KZ.out
        have s0 : ∀ w, (RcC w (W.heap.size) (.slice va tl vc) (k) ∧ AcC w (W.heap.size + 1) ⟨xk, xn⟩) → w.cell? ⟨W.heap.size, 0, none⟩ = some (.slice va tl vc) := fun w hw => hw.1.cells.1
        have s1 : ∀ w, (RcC w (W.heap.size) (.slice va tl vc) (k) ∧ AcC w (W.heap.size + 1) ⟨xk, xn⟩) → w.cell? ⟨W.heap.size, 1, none⟩ = some (.int .i64 (k)) := fun w hw => hw.1.cells.2.1
        have s2 : ∀ w, (RcC w (W.heap.size) (.slice va tl vc) (k) ∧ AcC w (W.heap.size + 1) ⟨xk, xn⟩) → w.cell? ⟨W.heap.size + 1, 1, none⟩ = some (.int .i64 xn) := fun w hw => hw.2.cells.2
        have HC6 := Lib.hid (HIS.out wd)
        have SD : RcC wd (W.heap.size) (.slice va tl vc) (k) ∧ AcC wd (W.heap.size + 1) ⟨xk, xn⟩ := ⟨D4, D5⟩
        go_wp2_with fail
        refine wp_region_anyH (fun w => RcC w (W.heap.size) (.slice va tl vc) (k) ∧ AcC w (W.heap.size + 1) ⟨xk, xn⟩) (by kernel_rfl) ?_
        rw [hwd]
        clear hwd
        try clear hg9 hw9 u0 u1
        refine AnyH.take (i := 0) (d := some 51) (v := ?_) (by kernel_rfl) rfl rfl HF (fun _ _ _ h => h) (.inl ⟨by rfl, ?_⟩) (by first | assumption | rfl) ?_
        rotate_left
        · intro w hS; try subst hS
          go_simp; try with_reducible rfl
        try simp only [Act.put, List.setIfInBounds_toArray, List.set_cons_zero, List.set_cons_succ]
        refine AnyH.take (i := 1) (d := some 52) (v := ?_) (by kernel_rfl) rfl rfl HF (fun _ _ _ h => h) (.inl ⟨by rfl, ?_⟩) (by first | assumption | rfl) ?_
        rotate_left
        · intro w hS; try subst hS
          go_simp; try with_reducible rfl
        try simp only [Act.put, List.setIfInBounds_toArray, List.set_cons_zero, List.set_cons_succ]
        refine AnyH.one (i := 2) (by kernel_rfl) (by kernel_rfl) rfl HF (by rfl) (fun K hK => ?_)
        go_simp
        first | ((with_reducible refine And.intro ?hdep ?_); (case hdep => first | rfl | (intro h; cases h))) | skip
        refine callsIn_wide.2 (HC6.out.mono ?_)
        rintro e w6 ⟨rfl, h6⟩; subst h6
        have c6 := below_block DD KC.out
        have b6 : BC c w6 w6 := BC.refl _ _
        have O4 : RcC w6 (W.heap.size) (.slice va tl vc) (k) := b6.obj (Ne.symm HCL.out.1) D4
        have O5 : AcC w6 (W.heap.size + 1) ⟨xk, xn⟩ := b6.obj (Ne.symm HCL.out.2.1) D5
        have OZ : RcC w6 (W.heap.size + 2) (.slice none 0 0) 0 := b6.obj (Ne.symm HCL.out.2.2) DZ
        have OB := (KB.out.trans (BC.of (C := c) DD)).trans b6
        obtain ⟨z0, z1, z2, z3⟩ := RcC.cells (OZ)
        obtain ⟨wf, hwf, kf, cf, bf, of⟩ := HFIN.out w6 k (OB) (c6) (OZ)
        obtain ⟨h0, h1, -, -⟩ := kf.cells
        have HFC := Lib.hid cf; have HFB := Lib.hid bf
        have HOF := Lib.hid of
        clear kf cf bf of
        have S6 : RcC w6 (W.heap.size) (.slice va tl vc) (k) ∧ AcC w6 (W.heap.size + 1) ⟨xk, xn⟩ := ⟨O4, O5⟩
        have SF : RcC wf (W.heap.size) (.slice va tl vc) (k) ∧ AcC wf (W.heap.size + 1) ⟨xk, xn⟩ := ⟨by have := HOF.out W.heap.size (by omega); unfold RcC at O4 ⊢; rw [this]; exact O4, by have := HOF.out (W.heap.size + 1) (by omega); unfold AcC at O5 ⊢; rw [this]; exact O5⟩
        refine hK _ _ S6 ?_
        clear hK K
        try simp only [Act.put, List.setIfInBounds_toArray, List.set_cons_zero, List.set_cons_succ]
        refine AnyH.one (i := 3) (by kernel_rfl) (by kernel_rfl) rfl HF (by rfl) (fun K hK => ?_)
        go_simp
        refine hK _ _ SF ?_
        clear hK K
        try simp only [Act.put, List.setIfInBounds_toArray, List.set_cons_zero, List.set_cons_succ]
        refine AnyH.take (i := 4) (d := some 7) (v := ?_) (by kernel_rfl) rfl rfl HF (fun _ _ _ h => h) (.inl ⟨by rfl, ?_⟩) (by first | assumption | rfl) ?_
        rotate_left
        · intro w hS; try subst hS
          go_simp; try with_reducible rfl
        try simp only [Act.put, List.setIfInBounds_toArray, List.set_cons_zero, List.set_cons_succ]
        refine AnyH.done (by kernel_rfl) ?_
        clear s0 s1 s2
        go_wp2_with fail
        exact bodyPost_ret (v := .tuple #[.agg #[.slice va tl vc, .int .i64 ((k : Nat) : Int)], .bool true]) (by simp [results, Try.results29, go_sem, h0, h1]) rfl ⟨k, HKL.out, rfl, HFC.out, HFB.out⟩
  · have HK1 := hsk xn
    obtain ⟨k1, hk1, hk1l⟩ := HK1
    have A1 := Lib.hid (fun (w : World) (hc : CuC w c B id tl k) => cskip_any hc HKL.out HLB.out xn hk1)
    have R1 := Lib.hid (rskip_any W3 (va := va) (vc := vc) HKL.out HLB.out xn)
    rw [hk1] at R1
    have hmw : IntKind.i64.wrap ((k1 : Int) - (k : Int)) = mv tl k xn := by rw [IntKind.wrap_i64]; have := HKL.out; have := HLB.out; omega
    obtain ⟨mm, hmm⟩ : ∃ y, mv tl k xn = y := ⟨_, rfl⟩
    rw [hmm] at hmw A1
    have HK1L := Lib.hid hk1l
    clear hmm hk1 hk1l

    go_enter Try.func29, Try.ntmps29
    go_wp2_with fail
    refine HP.out.mono ?_; rintro e w ⟨rfl, h⟩; rw [h]; clear h w
    clear x0

    go_wp2_with fail
    clear x1 q0 q1
    refine R1.out.mono ?_
    rintro e w4 ⟨rfl, b4⟩
    have K4h := HK4; have K5h := HK5; have KZ := HKZ; have KC := HK3; have KB := HB3
    have K4h := Lib.hid (show RcC w4 (W.heap.size) (.slice va tl vc) _ from below_block b4 K4h.out)
    have K5h := Lib.hid (show AcC w4 (W.heap.size + 1) ⟨xk, xn⟩ from below_block b4 K5h.out)
    have KZ := Lib.hid (show RcC w4 (W.heap.size + 2) (.slice none 0 0) 0 from below_block b4 KZ.out)
    have KC := Lib.hid (show CuC w4 c B id tl _ from below_block b4 KC.out)
    have KB := Lib.hid (KB.out.trans (BC.of (C := c) b4))
    clear b4
    obtain ⟨g9, hg9⟩ : ∃ g, w4.heap.size = g := ⟨_, rfl⟩
    obtain ⟨w5, hw9⟩ : ∃ y, w4.alloc (.cells #[.slice va tl vc, .int .i64 (k1 : Nat)] 68) = y := ⟨_, rfl⟩
    have k9 : RcC w5 g9 (.slice va tl vc) (k1 : Nat) := by rw [← hw9, ← hg9]; exact heap_new' _ _
    have b9 : Below w4.heap.size w4 w5 := by rw [← hw9]; exact (Below.refl _ _).alloc (Nat.le_refl _) _
    obtain ⟨u0, u1, -, -⟩ := k9.cells
    have K9h := Lib.hid k9
    have H9C : Hid (g9 ≠ c) := Lib.hid (by rw [← hg9]; have := (Array.getElem?_eq_some_iff.1 (show w4.heap[c]? = _ from KC.out)).1; omega)
    have H9G : Hid (g9 ≠ W.heap.size + 2) := Lib.hid (by rw [← hg9]; have := (Array.getElem?_eq_some_iff.1 (show w4.heap[W.heap.size + 2]? = _ from KZ.out)).1; omega)
    have K4h := Lib.hid (show RcC w5 (W.heap.size) (.slice va tl vc) _ from below_block b9 K4h.out)
    have K5h := Lib.hid (show AcC w5 (W.heap.size + 1) ⟨xk, xn⟩ from below_block b9 K5h.out)
    have KZ := Lib.hid (show RcC w5 (W.heap.size + 2) (.slice none 0 0) 0 from below_block b9 KZ.out)
    have KC := Lib.hid (show CuC w5 c B id tl _ from below_block b9 KC.out)
    have KB := Lib.hid (KB.out.trans (BC.of (C := c) b9))
    clear k9 b9
    obtain ⟨wd, hwd⟩ : ∃ y, w5.drew = y := ⟨_, rfl⟩
    have DD : Below w5.heap.size w5 wd := by rw [← hwd]; exact (Below.refl _ _).drew
    have D4 : RcC wd (W.heap.size) (.slice va tl vc) (k) := below_block DD K4h.out
    have D5 : AcC wd (W.heap.size + 1) ⟨xk, xn⟩ := below_block DD K5h.out
    have DZ : RcC wd (W.heap.size + 2) (.slice none 0 0) 0 := below_block DD KZ.out
    have D9 : RcC wd g9 (.slice va tl vc) ((k1 : Nat)) := below_block DD K9h.out
    have s0 : ∀ w, (RcC w (W.heap.size) (.slice va tl vc) (k) ∧ AcC w (W.heap.size + 1) ⟨xk, xn⟩ ∧ RcC w g9 (.slice va tl vc) ((k1 : Nat))) → w.cell? ⟨W.heap.size, 0, none⟩ = some (.slice va tl vc) := fun w hw => hw.1.cells.1
    have s1 : ∀ w, (RcC w (W.heap.size) (.slice va tl vc) (k) ∧ AcC w (W.heap.size + 1) ⟨xk, xn⟩ ∧ RcC w g9 (.slice va tl vc) ((k1 : Nat))) → w.cell? ⟨W.heap.size, 1, none⟩ = some (.int .i64 (k)) := fun w hw => hw.1.cells.2.1
    have s2 : ∀ w, (RcC w (W.heap.size) (.slice va tl vc) (k) ∧ AcC w (W.heap.size + 1) ⟨xk, xn⟩ ∧ RcC w g9 (.slice va tl vc) ((k1 : Nat))) → w.cell? ⟨W.heap.size + 1, 1, none⟩ = some (.int .i64 xn) := fun w hw => hw.2.1.cells.2
    have s3 : ∀ w, (RcC w (W.heap.size) (.slice va tl vc) (k) ∧ AcC w (W.heap.size + 1) ⟨xk, xn⟩ ∧ RcC w g9 (.slice va tl vc) ((k1 : Nat))) → w.cell? ⟨g9, 0, none⟩ = some (.slice va tl vc) := fun w hw => hw.2.2.cells.1
    have s4 : ∀ w, (RcC w (W.heap.size) (.slice va tl vc) (k) ∧ AcC w (W.heap.size + 1) ⟨xk, xn⟩ ∧ RcC w g9 (.slice va tl vc) ((k1 : Nat))) → w.cell? ⟨g9, 1, none⟩ = some (.int .i64 ((k1 : Nat))) := fun w hw => hw.2.2.cells.2.1
    have HC6 := Lib.hid (A1.out wd (below_block DD KC.out))
    have SD : RcC wd (W.heap.size) (.slice va tl vc) (k) ∧ AcC wd (W.heap.size + 1) ⟨xk, xn⟩ ∧ RcC wd g9 (.slice va tl vc) ((k1 : Nat)) := ⟨D4, D5, D9⟩
    go_wp2_with fail
    refine wp_region_anyH (fun w => RcC w (W.heap.size) (.slice va tl vc) (k) ∧ AcC w (W.heap.size + 1) ⟨xk, xn⟩ ∧ RcC w g9 (.slice va tl vc) ((k1 : Nat))) (by kernel_rfl) ?_
    rw [hwd]
    clear hwd
    try clear hg9 hw9 u0 u1
    refine AnyH.take (i := 0) (d := some 66) (v := ?_) (by kernel_rfl) rfl rfl HF (fun _ _ _ h => h) (.inl ⟨by rfl, ?_⟩) (by first | assumption | rfl) ?_
    rotate_left
    · intro w hS; try subst hS
      go_simp; try with_reducible rfl
    try simp only [Act.put, List.setIfInBounds_toArray, List.set_cons_zero, List.set_cons_succ]
    refine AnyH.take (i := 1) (d := some 67) (v := ?_) (by kernel_rfl) rfl rfl HF (fun _ _ _ h => h) (.inl ⟨by rfl, ?_⟩) (by first | assumption | rfl) ?_
    rotate_left
    · intro w hS; try subst hS
      go_simp; try with_reducible rfl
    try simp only [Act.put, List.setIfInBounds_toArray, List.set_cons_zero, List.set_cons_succ]
    refine AnyH.take (i := 2) (d := some 68) (v := ?_) (by kernel_rfl) rfl rfl HF (fun _ _ _ h => h) (.inl ⟨by rfl, ?_⟩) (by first | assumption | rfl) ?_
    rotate_left
    · intro w hS; try subst hS
      go_simp; try with_reducible rfl
    try simp only [Act.put, List.setIfInBounds_toArray, List.set_cons_zero, List.set_cons_succ]
    refine AnyH.take (i := 3) (d := some 69) (v := ?_) (by kernel_rfl) rfl rfl HF (fun _ _ _ h => h) (.inl ⟨by rfl, ?_⟩) (by first | assumption | rfl) ?_
    rotate_left
    · intro w hS; try subst hS
      go_simp; try with_reducible rfl
    try simp only [Act.put, List.setIfInBounds_toArray, List.set_cons_zero, List.set_cons_succ]
    refine AnyH.take (i := 5) (d := some 71) (v := ?_) (by kernel_rfl) rfl rfl HF (fun _ _ _ h => h) (.inl ⟨by rfl, ?_⟩) (by first | assumption | rfl) ?_
    rotate_left
    · intro w hS; try subst hS
      go_simp; try with_reducible rfl
    try simp only [Act.put, List.setIfInBounds_toArray, List.set_cons_zero, List.set_cons_succ]
    refine AnyH.take (i := 6) (d := some 72) (v := ?_) (by kernel_rfl) rfl rfl HF (fun _ _ _ h => h) (.inl ⟨by rfl, ?_⟩) (by first | assumption | rfl) ?_
    rotate_left
    · intro w hS; try subst hS
      go_simp; try with_reducible rfl
    try simp only [Act.put, List.setIfInBounds_toArray, List.set_cons_zero, List.set_cons_succ]
    refine AnyH.take (i := 7) (d := some 73) (v := ?_) (by kernel_rfl) rfl rfl HF (fun _ _ _ h => h) (.inl ⟨by rfl, ?_⟩) (by first | assumption | rfl) ?_
    rotate_left
    · intro w hS; try subst hS
      go_simp; try with_reducible rfl
    try simp only [Act.put, List.setIfInBounds_toArray, List.set_cons_zero, List.set_cons_succ]
    refine AnyH.take (i := 8) (d := some 74) (v := ?_) (by kernel_rfl) rfl rfl HF (fun _ _ _ h => h) (.inl ⟨by rfl, ?_⟩) (by first | assumption | rfl) ?_
    rotate_left
    · intro w hS; try subst hS
      go_simp; try with_reducible rfl
    try simp only [Act.put, List.setIfInBounds_toArray, List.set_cons_zero, List.set_cons_succ]
    refine AnyH.take (i := 9) (d := some 75) (v := ?_) (by kernel_rfl) rfl rfl HF (fun _ _ _ h => h) (.inl ⟨by rfl, ?_⟩) (by first | assumption | rfl) ?_
    rotate_left
    · intro w hS; try subst hS
      go_simp; try with_reducible rfl
    try simp only [Act.put, List.setIfInBounds_toArray, List.set_cons_zero, List.set_cons_succ]
    refine AnyH.one (i := 4) (by kernel_rfl) (by kernel_rfl) rfl HF (by rfl) (fun K hK => ?_)
    go_simp
    first | ((with_reducible refine And.intro ?hdep ?_); (case hdep => first | rfl | (intro h; cases h))) | skip
    refine callsIn_wide.2 (HC6.out.mono ?_)
    rintro e w6 ⟨rfl, c6, b6⟩
    have O4 : RcC w6 (W.heap.size) (.slice va tl vc) (k) := b6.obj (Ne.symm HCL.out.1) D4
    have O5 : AcC w6 (W.heap.size + 1) ⟨xk, xn⟩ := b6.obj (Ne.symm HCL.out.2.1) D5
    have OZ : RcC w6 (W.heap.size + 2) (.slice none 0 0) 0 := b6.obj (Ne.symm HCL.out.2.2) DZ
    have O9 : RcC w6 g9 (.slice va tl vc) ((k1 : Nat)) := b6.obj H9C.out D9
    have OB := (KB.out.trans (BC.of (C := c) DD)).trans b6
    obtain ⟨z0, z1, z2, z3⟩ := RcC.cells (OZ)
    obtain ⟨wf, hwf, kf, cf, bf, of⟩ := HFIN.out w6 k1 (OB) (c6) (OZ)
    obtain ⟨h0, h1, -, -⟩ := kf.cells
    have HFC := Lib.hid cf; have HFB := Lib.hid bf
    have HOF := Lib.hid of
    clear kf cf bf of
    have S6 : RcC w6 (W.heap.size) (.slice va tl vc) (k) ∧ AcC w6 (W.heap.size + 1) ⟨xk, xn⟩ ∧ RcC w6 g9 (.slice va tl vc) ((k1 : Nat)) := ⟨O4, O5, O9⟩
    have SF : RcC wf (W.heap.size) (.slice va tl vc) (k) ∧ AcC wf (W.heap.size + 1) ⟨xk, xn⟩ ∧ RcC wf g9 (.slice va tl vc) ((k1 : Nat)) := ⟨by have := HOF.out W.heap.size (by omega); unfold RcC at O4 ⊢; rw [this]; exact O4, by have := HOF.out (W.heap.size + 1) (by omega); unfold AcC at O5 ⊢; rw [this]; exact O5, by have := HOF.out g9 H9G.out; unfold RcC at O9 ⊢; rw [this]; exact O9⟩
    refine hK _ _ S6 ?_
    clear hK K
    try simp only [Act.put, List.setIfInBounds_toArray, List.set_cons_zero, List.set_cons_succ]
    refine AnyH.take (i := 10) (d := some 76) (v := ?_) (by kernel_rfl) rfl rfl HF (fun _ _ _ h => h) (.inl ⟨by rfl, ?_⟩) (by first | assumption | rfl) ?_
    rotate_left
    · intro w hS; try subst hS
      go_simp; try with_reducible rfl
    try simp only [Act.put, List.setIfInBounds_toArray, List.set_cons_zero, List.set_cons_succ]
    refine AnyH.one (i := 11) (by kernel_rfl) (by kernel_rfl) rfl HF (by rfl) (fun K hK => ?_)
    go_simp
    refine hK _ _ SF ?_
    clear hK K
    try simp only [Act.put, List.setIfInBounds_toArray, List.set_cons_zero, List.set_cons_succ]
    refine AnyH.take (i := 12) (d := some 7) (v := ?_) (by kernel_rfl) rfl rfl HF (fun _ _ _ h => h) (.inl ⟨by rfl, ?_⟩) (by first | assumption | rfl) ?_
    rotate_left
    · intro w hS; try subst hS
      go_simp; try with_reducible rfl
    try simp only [Act.put, List.setIfInBounds_toArray, List.set_cons_zero, List.set_cons_succ]
    refine AnyH.done (by kernel_rfl) ?_
    clear s0 s1 s2 s3 s4
    go_wp2_with fail
    exact bodyPost_ret (v := .tuple #[.agg #[.slice va tl vc, .int .i64 ((k1 : Nat) : Int)], .bool true]) (by simp [results, Try.results29, go_sem, h0, h1]) rfl ⟨k1, HK1L.out, rfl, HFC.out, HFB.out⟩
  · obtain ⟨k1, hk1, hk1l⟩ := hsk 1
    have A2 := Lib.hid (cnext_any HS3.out HWF.out hE HK3.out hid HTL.out HKL.out hk1)
    have R3 := Lib.hid (fun w => rskip_any w (va := va) (vc := vc) HKL.out HLB.out 1)
    simp only [hk1] at R3
    obtain ⟨bt, hbt⟩ : ∃ y, ((M.txt E id)[k]?).getD 0 = y := ⟨_, rfl⟩
    obtain ⟨dd, hdd⟩ : ∃ y, decide (k < tl) = y := ⟨_, rfl⟩
    have HBT := Lib.hid (And.intro hbt hdd)
    rw [hbt, hdd] at A2
    have HK1L := Lib.hid hk1l
    clear hbt hdd hk1 hk1l

    go_enter Try.func29, Try.ntmps29
    go_wp2_with fail
    refine HP.out.mono ?_; rintro e w ⟨rfl, h⟩; rw [h]; clear h w
    clear x0

    go_wp2_with fail
    clear x1 q0 q1
    refine A2.out.mono ?_
    rintro e w4 ⟨rfl, hc, hb⟩
    have K4h : Hid (RcC w4 (W.heap.size) (.slice va tl vc) k) := Lib.hid (hb.obj (Ne.symm HCL.out.1) HK4.out)
    have K5h : Hid (AcC w4 (W.heap.size + 1) ⟨xk, xn⟩) := Lib.hid (hb.obj (Ne.symm HCL.out.2.1) HK5.out)
    have KZ : Hid (RcC w4 (W.heap.size + 2) (.slice none 0 0) 0) := Lib.hid (hb.obj (Ne.symm HCL.out.2.2) HKZ.out)
    have KC := Lib.hid hc
    have KB := Lib.hid (HB3.out.trans hb)
    have KBW := Lib.hid (BYS.out c hb)
    clear hc hb
    have R2 := Lib.hid (rpeek_any KBW.out HTL.out HKL.out)
    rw [HBT.out.1, HBT.out.2] at R2
    obtain ⟨y0, y1, -, -⟩ := K4h.out.cells
    go_wp2_with fail
    clear y0 y1
    refine R2.out.mono ?_
    rintro e w5 ⟨rfl, b5⟩
    have K4h := Lib.hid (show RcC w5 (W.heap.size) (.slice va tl vc) _ from below_block b5 K4h.out)
    have K5h := Lib.hid (show AcC w5 (W.heap.size + 1) ⟨xk, xn⟩ from below_block b5 K5h.out)
    have KZ := Lib.hid (show RcC w5 (W.heap.size + 2) (.slice none 0 0) 0 from below_block b5 KZ.out)
    have KC := Lib.hid (show CuC w5 c B id tl _ from below_block b5 KC.out)
    have KB := Lib.hid (KB.out.trans (BC.of (C := c) b5))
    clear b5
    obtain ⟨y0, y1, -, -⟩ := K4h.out.cells

    go_wp2_with fail
    clear y0 y1
    refine (R3.out w5).mono ?_
    rintro e w6 ⟨rfl, b6⟩
    have K4h := Lib.hid (show RcC w6 (W.heap.size) (.slice va tl vc) _ from below_block b6 K4h.out)
    have K5h := Lib.hid (show AcC w6 (W.heap.size + 1) ⟨xk, xn⟩ from below_block b6 K5h.out)
    have KZ := Lib.hid (show RcC w6 (W.heap.size + 2) (.slice none 0 0) 0 from below_block b6 KZ.out)
    have KC := Lib.hid (show CuC w6 c B id tl _ from below_block b6 KC.out)
    have KB := Lib.hid (KB.out.trans (BC.of (C := c) b6))
    clear b6
    obtain ⟨z0, z1, z2, z3⟩ := RcC.cells (KZ.out)
    obtain ⟨wf, hwf, kf, cf, bf, of⟩ := HFIN.out w6 k1 (KB.out) (KC.out) (KZ.out)
    obtain ⟨h0, h1, -, -⟩ := kf.cells
    have HFC := Lib.hid cf; have HFB := Lib.hid bf
    have HOF := Lib.hid of
    clear kf cf bf of
    go_wp2_with fail
    exact bodyPost_ret (v := .tuple #[.agg #[.slice va tl vc, .int .i64 ((k1 : Nat) : Int)], .bool true]) (by simp [results, Try.results29, go_sem, h0, h1]) rfl ⟨k1, HK1L.out, rfl, HFC.out, HFB.out⟩
  · have A3 := Lib.hid (cprev_any HS3.out HWF.out hE HK3.out hid HTL.out HKL.out)
    have R3 := Lib.hid (fun w => rskip_any w (va := va) (vc := vc) HKL.out HLB.out (-1))
    rcases Nat.eq_zero_or_pos k with hk0 | hk0
    · have hmv : (k : Int) + mv tl k (-1) = (k : Int) := by unfold mv; rw [if_pos (by omega)]; omega
      simp only [hmv] at R3
      rw [if_pos hk0, decide_eq_false (show ¬ 0 < k by omega), show k - 1 = k by omega] at A3
      rw [show ((0 : Nat) : Int) = 0 from rfl] at A3
      clear hmv hk0
      go_enter Try.func29, Try.ntmps29
      go_wp2_with fail
      refine HP.out.mono ?_; rintro e w ⟨rfl, h⟩; rw [h]; clear h w
      clear x0
      go_wp2_with fail
      clear x1 q0 q1
      refine A3.out.mono ?_
      rintro e w4 ⟨rfl, hc, hb⟩
      have K4h : Hid (RcC w4 (W.heap.size) (.slice va tl vc) k) := Lib.hid (hb.obj (Ne.symm HCL.out.1) HK4.out)
      have K5h : Hid (AcC w4 (W.heap.size + 1) ⟨xk, xn⟩) := Lib.hid (hb.obj (Ne.symm HCL.out.2.1) HK5.out)
      have KZ : Hid (RcC w4 (W.heap.size + 2) (.slice none 0 0) 0) := Lib.hid (hb.obj (Ne.symm HCL.out.2.2) HKZ.out)
      have KC := Lib.hid hc
      have KB := Lib.hid (HB3.out.trans hb)
      have KBW := Lib.hid (BYS.out c hb)
      clear hc hb
      obtain ⟨y0, y1, -, -⟩ := K4h.out.cells
      go_wp2_with fail
      clear y0 y1
      refine (R3.out w4).mono ?_
      rintro e w5 ⟨rfl, b5⟩
      have K4h := Lib.hid (show RcC w5 (W.heap.size) (.slice va tl vc) _ from below_block b5 K4h.out)
      have K5h := Lib.hid (show AcC w5 (W.heap.size + 1) ⟨xk, xn⟩ from below_block b5 K5h.out)
      have KZ := Lib.hid (show RcC w5 (W.heap.size + 2) (.slice none 0 0) 0 from below_block b5 KZ.out)
      have KC := Lib.hid (show CuC w5 c B id tl _ from below_block b5 KC.out)
      have KB := Lib.hid (KB.out.trans (BC.of (C := c) b5))
      clear b5
      obtain ⟨g9, hg9⟩ : ∃ g, w5.heap.size = g := ⟨_, rfl⟩
      obtain ⟨w6, hw9⟩ : ∃ y, w5.alloc (.cells #[.slice va tl vc, .int .i64 (k : Nat)] 68) = y := ⟨_, rfl⟩
      have k9 : RcC w6 g9 (.slice va tl vc) (k : Nat) := by rw [← hw9, ← hg9]; exact heap_new' _ _
      have b9 : Below w5.heap.size w5 w6 := by rw [← hw9]; exact (Below.refl _ _).alloc (Nat.le_refl _) _
      obtain ⟨u0, u1, -, -⟩ := k9.cells
      have K9h := Lib.hid k9
      have H9C : Hid (g9 ≠ c) := Lib.hid (by rw [← hg9]; have := (Array.getElem?_eq_some_iff.1 (show w5.heap[c]? = _ from KC.out)).1; omega)
      have H9G : Hid (g9 ≠ W.heap.size + 2) := Lib.hid (by rw [← hg9]; have := (Array.getElem?_eq_some_iff.1 (show w5.heap[W.heap.size + 2]? = _ from KZ.out)).1; omega)
      have K4h := Lib.hid (show RcC w6 (W.heap.size) (.slice va tl vc) _ from below_block b9 K4h.out)
      have K5h := Lib.hid (show AcC w6 (W.heap.size + 1) ⟨xk, xn⟩ from below_block b9 K5h.out)
      have KZ := Lib.hid (show RcC w6 (W.heap.size + 2) (.slice none 0 0) 0 from below_block b9 KZ.out)
      have KC := Lib.hid (show CuC w6 c B id tl _ from below_block b9 KC.out)
      have KB := Lib.hid (KB.out.trans (BC.of (C := c) b9))
      clear k9 b9
      obtain ⟨y0, y1, -, -⟩ := K4h.out.cells
      obtain ⟨z0, z1, z2, z3⟩ := RcC.cells (KZ.out)
      obtain ⟨wf, hwf, kf, cf, bf, of⟩ := HFIN.out w6 k (KB.out) (KC.out) (KZ.out)
      obtain ⟨h0, h1, -, -⟩ := kf.cells
      have HFC := Lib.hid cf; have HFB := Lib.hid bf
      have HOF := Lib.hid of
      clear kf cf bf of
      go_wp2_with fail
      exact bodyPost_ret (v := .tuple #[.agg #[.slice va tl vc, .int .i64 ((k : Nat) : Int)], .bool true]) (by simp [results, Try.results29, go_sem, h0, h1]) rfl ⟨k, HKL.out, rfl, HFC.out, HFB.out⟩
    · obtain ⟨j, hj⟩ : ∃ j, k = j + 1 := ⟨k - 1, by omega⟩
      have hmv : (k : Int) + mv tl k (-1) = (j : Int) := by
        have := HKL.out
        unfold mv; rw [if_neg (by omega), if_neg (by omega)]; omega
      simp only [hmv] at R3
      have hjt : j < (M.txt E id).length := by rw [HTL.out]; have := HKL.out; omega
      rw [if_neg (by omega), decide_eq_true (show 0 < k by omega), show k - 1 = j by omega, List.getElem?_eq_getElem hjt, Option.getD_some] at A3
      obtain ⟨bt, hbt⟩ : ∃ y, (M.txt E id)[j] = y := ⟨_, rfl⟩
      rw [hbt] at A3
      have HBT := Lib.hid hbt
      have hjk : ((j : Int) == (k : Int)) = false := by simp; omega
      have hj2 : (j : Int) < (tl : Int) := by have := HKL.out; omega
      have hj0 : (0 : Int) ≤ (j : Int) := by omega
      have HJL : Hid (j ≤ tl) := Lib.hid (by have := HKL.out; omega)
      clear hmv hk0 hbt hj
      go_enter Try.func29, Try.ntmps29
      go_wp2_with fail
      refine HP.out.mono ?_; rintro e w ⟨rfl, h⟩; rw [h]; clear h w
      clear x0
      go_wp2_with fail
      clear x1 q0 q1
      refine A3.out.mono ?_
      rintro e w4 ⟨rfl, hc, hb⟩
      have K4h : Hid (RcC w4 (W.heap.size) (.slice va tl vc) k) := Lib.hid (hb.obj (Ne.symm HCL.out.1) HK4.out)
      have K5h : Hid (AcC w4 (W.heap.size + 1) ⟨xk, xn⟩) := Lib.hid (hb.obj (Ne.symm HCL.out.2.1) HK5.out)
      have KZ : Hid (RcC w4 (W.heap.size + 2) (.slice none 0 0) 0) := Lib.hid (hb.obj (Ne.symm HCL.out.2.2) HKZ.out)
      have KC := Lib.hid hc
      have KB := Lib.hid (HB3.out.trans hb)
      have KBW := Lib.hid (BYS.out c hb)
      clear hc hb
      obtain ⟨y0, y1, -, -⟩ := K4h.out.cells
      go_wp2_with fail
      clear y0 y1
      refine (R3.out w4).mono ?_
      rintro e w5 ⟨rfl, b5⟩
      have K4h := Lib.hid (show RcC w5 (W.heap.size) (.slice va tl vc) _ from below_block b5 K4h.out)
      have K5h := Lib.hid (show AcC w5 (W.heap.size + 1) ⟨xk, xn⟩ from below_block b5 K5h.out)
      have KZ := Lib.hid (show RcC w5 (W.heap.size + 2) (.slice none 0 0) 0 from below_block b5 KZ.out)
      have KC := Lib.hid (show CuC w5 c B id tl _ from below_block b5 KC.out)
      have KB := Lib.hid (KB.out.trans (BC.of (C := c) b5))
      have KBW := Lib.hid (KBW.out.below b5)
      clear b5
      obtain ⟨g9, hg9⟩ : ∃ g, w5.heap.size = g := ⟨_, rfl⟩
      obtain ⟨w6, hw9⟩ : ∃ y, w5.alloc (.cells #[.slice va tl vc, .int .i64 (j : Nat)] 68) = y := ⟨_, rfl⟩
      have k9 : RcC w6 g9 (.slice va tl vc) (j : Nat) := by rw [← hw9, ← hg9]; exact heap_new' _ _
      have b9 : Below w5.heap.size w5 w6 := by rw [← hw9]; exact (Below.refl _ _).alloc (Nat.le_refl _) _
      obtain ⟨u0, u1, -, -⟩ := k9.cells
      have K9h := Lib.hid k9
      have H9C : Hid (g9 ≠ c) := Lib.hid (by rw [← hg9]; have := (Array.getElem?_eq_some_iff.1 (show w5.heap[c]? = _ from KC.out)).1; omega)
      have H9G : Hid (g9 ≠ W.heap.size + 2) := Lib.hid (by rw [← hg9]; have := (Array.getElem?_eq_some_iff.1 (show w5.heap[W.heap.size + 2]? = _ from KZ.out)).1; omega)
      have K4h := Lib.hid (show RcC w6 (W.heap.size) (.slice va tl vc) _ from below_block b9 K4h.out)
      have K5h := Lib.hid (show AcC w6 (W.heap.size + 1) ⟨xk, xn⟩ from below_block b9 K5h.out)
      have KZ := Lib.hid (show RcC w6 (W.heap.size + 2) (.slice none 0 0) 0 from below_block b9 KZ.out)
      have KC := Lib.hid (show CuC w6 c B id tl _ from below_block b9 KC.out)
      have KB := Lib.hid (KB.out.trans (BC.of (C := c) b9))
      have B9 := Lib.hid b9
      clear k9 b9
      have KBW := Lib.hid (KBW.out.below B9.out)
      obtain ⟨y0, y1, -, -⟩ := K4h.out.cells
      go_wp2_with fail
      clear y0 y1 u0 u1 hw9 hg9
      obtain ⟨gb, cb, hvb, -, -, hcb⟩ := Bys.at KBW.out hjt
      simp only [Value.slice.injEq] at hvb
      obtain ⟨rfl, -, rfl⟩ := hvb
      have hcb2 := hcb _ (Below.refl _ _) j hjt
      rw [HBT.out] at hcb2
      have HCB := Lib.hid hcb2
      have HGB : Hid (gb ≠ W.heap.size + 2) := Lib.hid (by
        intro e
        have h1 := KZ.out
        unfold RcC at h1
        have h2 := HCB.out
        rw [e] at h2
        unfold World.cell? at h2
        rw [h1] at h2
        dsimp only at h2
        rcases j with _ | _ | j <;> simp at h2)
      clear hcb hcb2 HBT hjt
      obtain ⟨wd, hwd⟩ : ∃ y, w6.drew = y := ⟨_, rfl⟩
      have DD : Below w6.heap.size w6 wd := by rw [← hwd]; exact (Below.refl _ _).drew
      have D4 : RcC wd (W.heap.size) (.slice (some ⟨gb, 0, none⟩) tl vc) (k) := below_block DD K4h.out
      have D5 : AcC wd (W.heap.size + 1) ⟨xk, xn⟩ := below_block DD K5h.out
      have DZ : RcC wd (W.heap.size + 2) (.slice none 0 0) 0 := below_block DD KZ.out
      have D9 : RcC wd g9 (.slice (some ⟨gb, 0, none⟩) tl vc) ((j : Nat)) := below_block DD K9h.out
      have DL : wd.cell? ⟨gb, j, none⟩ = some (.int .u8 bt) := cell_on HCB.out DD
      have s0 : ∀ w, (RcC w (W.heap.size) (.slice (some ⟨gb, 0, none⟩) tl vc) (k) ∧ AcC w (W.heap.size + 1) ⟨xk, xn⟩ ∧ (RcC w g9 (.slice (some ⟨gb, 0, none⟩) tl vc) ((j : Nat)) ∧ w.cell? ⟨gb, j, none⟩ = some (.int .u8 bt))) → w.cell? ⟨W.heap.size, 0, none⟩ = some (.slice (some ⟨gb, 0, none⟩) tl vc) := fun w hw => hw.1.cells.1
      have s1 : ∀ w, (RcC w (W.heap.size) (.slice (some ⟨gb, 0, none⟩) tl vc) (k) ∧ AcC w (W.heap.size + 1) ⟨xk, xn⟩ ∧ (RcC w g9 (.slice (some ⟨gb, 0, none⟩) tl vc) ((j : Nat)) ∧ w.cell? ⟨gb, j, none⟩ = some (.int .u8 bt))) → w.cell? ⟨W.heap.size, 1, none⟩ = some (.int .i64 (k)) := fun w hw => hw.1.cells.2.1
      have s2 : ∀ w, (RcC w (W.heap.size) (.slice (some ⟨gb, 0, none⟩) tl vc) (k) ∧ AcC w (W.heap.size + 1) ⟨xk, xn⟩ ∧ (RcC w g9 (.slice (some ⟨gb, 0, none⟩) tl vc) ((j : Nat)) ∧ w.cell? ⟨gb, j, none⟩ = some (.int .u8 bt))) → w.cell? ⟨W.heap.size + 1, 1, none⟩ = some (.int .i64 xn) := fun w hw => hw.2.1.cells.2
      have s3 : ∀ w, (RcC w (W.heap.size) (.slice (some ⟨gb, 0, none⟩) tl vc) (k) ∧ AcC w (W.heap.size + 1) ⟨xk, xn⟩ ∧ (RcC w g9 (.slice (some ⟨gb, 0, none⟩) tl vc) ((j : Nat)) ∧ w.cell? ⟨gb, j, none⟩ = some (.int .u8 bt))) → w.cell? ⟨g9, 0, none⟩ = some (.slice (some ⟨gb, 0, none⟩) tl vc) := fun w hw => hw.2.2.1.cells.1
      have s4 : ∀ w, (RcC w (W.heap.size) (.slice (some ⟨gb, 0, none⟩) tl vc) (k) ∧ AcC w (W.heap.size + 1) ⟨xk, xn⟩ ∧ (RcC w g9 (.slice (some ⟨gb, 0, none⟩) tl vc) ((j : Nat)) ∧ w.cell? ⟨gb, j, none⟩ = some (.int .u8 bt))) → w.cell? ⟨g9, 1, none⟩ = some (.int .i64 ((j : Nat))) := fun w hw => hw.2.2.1.cells.2.1
      have DC := below_block DD KC.out
      have DB := KB.out.trans (BC.of (C := c) DD)
      obtain ⟨z0, z1, z2, z3⟩ := RcC.cells (DZ)
      obtain ⟨wf, hwf, kf, cf, bf, of⟩ := HFIN.out wd j (DB) (DC) (DZ)
      obtain ⟨h0, h1, -, -⟩ := kf.cells
      have HFC := Lib.hid cf; have HFB := Lib.hid bf
      have HOF := Lib.hid of
      clear kf cf bf of
      have SF : RcC wf (W.heap.size) (.slice (some ⟨gb, 0, none⟩) tl vc) (k) ∧ AcC wf (W.heap.size + 1) ⟨xk, xn⟩ ∧ (RcC wf g9 (.slice (some ⟨gb, 0, none⟩) tl vc) ((j : Nat)) ∧ wf.cell? ⟨gb, j, none⟩ = some (.int .u8 bt)) := ⟨by have := HOF.out W.heap.size (by omega); unfold RcC at D4 ⊢; rw [this]; exact D4, by have := HOF.out (W.heap.size + 1) (by omega); unfold AcC at D5 ⊢; rw [this]; exact D5, by have := HOF.out g9 H9G.out; unfold RcC at D9 ⊢; rw [this]; exact D9, by have := HOF.out gb HGB.out; unfold World.cell? at DL ⊢; rw [this]; exact DL⟩
      have SD : RcC wd (W.heap.size) (.slice (some ⟨gb, 0, none⟩) tl vc) (k) ∧ AcC wd (W.heap.size + 1) ⟨xk, xn⟩ ∧ (RcC wd g9 (.slice (some ⟨gb, 0, none⟩) tl vc) ((j : Nat)) ∧ wd.cell? ⟨gb, j, none⟩ = some (.int .u8 bt)) := ⟨D4, D5, D9, DL⟩
      have s5 : ∀ w, (RcC w (W.heap.size) (.slice (some ⟨gb, 0, none⟩) tl vc) (k) ∧ AcC w (W.heap.size + 1) ⟨xk, xn⟩ ∧ (RcC w g9 (.slice (some ⟨gb, 0, none⟩) tl vc) ((j : Nat)) ∧ w.cell? ⟨gb, j, none⟩ = some (.int .u8 bt))) → w.cell? ⟨gb, j, none⟩ = some (.int .u8 bt) := fun w hw => hw.2.2.2
      go_wp2_with fail
      refine wp_region_anyH (fun w => RcC w (W.heap.size) (.slice (some ⟨gb, 0, none⟩) tl vc) (k) ∧ AcC w (W.heap.size + 1) ⟨xk, xn⟩ ∧ (RcC w g9 (.slice (some ⟨gb, 0, none⟩) tl vc) ((j : Nat)) ∧ w.cell? ⟨gb, j, none⟩ = some (.int .u8 bt))) (by kernel_rfl) ?_
      rw [hwd]
      clear hwd
      try clear hg9 hw9 u0 u1
      refine AnyH.take (i := 0) (d := some 120) (v := ?_) (by kernel_rfl) rfl rfl HF (fun _ _ _ h => h) (.inl ⟨by rfl, ?_⟩) (by first | assumption | rfl) ?_
      rotate_left
      · intro w hS; try subst hS
        go_simp; try with_reducible rfl
      try simp only [Act.put, List.setIfInBounds_toArray, List.set_cons_zero, List.set_cons_succ]
      refine AnyH.take (i := 1) (d := some 121) (v := ?_) (by kernel_rfl) rfl rfl HF (fun _ _ _ h => h) (.inl ⟨by rfl, ?_⟩) (by first | assumption | rfl) ?_
      rotate_left
      · intro w hS; try subst hS
        go_simp; try with_reducible rfl
      try simp only [Act.put, List.setIfInBounds_toArray, List.set_cons_zero, List.set_cons_succ]
      refine AnyH.take (i := 2) (d := some 122) (v := ?_) (by kernel_rfl) rfl rfl HF (fun _ _ _ h => h) (.inl ⟨by rfl, ?_⟩) (by first | assumption | rfl) ?_
      rotate_left
      · intro w hS; try subst hS
        go_simp; try with_reducible rfl
      try simp only [Act.put, List.setIfInBounds_toArray, List.set_cons_zero, List.set_cons_succ]
      refine AnyH.take (i := 3) (d := some 123) (v := ?_) (by kernel_rfl) rfl rfl HF (fun _ _ _ h => h) (.inl ⟨by rfl, ?_⟩) (by first | assumption | rfl) ?_
      rotate_left
      · intro w hS; try subst hS
        go_simp; try with_reducible rfl
      try simp only [Act.put, List.setIfInBounds_toArray, List.set_cons_zero, List.set_cons_succ]
      refine AnyH.take (i := 4) (d := some 124) (v := ?_) (by kernel_rfl) rfl rfl HF (fun _ _ _ h => h) (.inl ⟨by rfl, ?_⟩) (by first | assumption | rfl) ?_
      rotate_left
      · intro w hS; try subst hS
        go_simp; try with_reducible rfl
      try simp only [Act.put, List.setIfInBounds_toArray, List.set_cons_zero, List.set_cons_succ]
      refine AnyH.take (i := 5) (d := some 125) (v := ?_) (by kernel_rfl) rfl rfl HF (fun _ _ _ h => h) (.inl ⟨by rfl, ?_⟩) (by first | assumption | rfl) ?_
      rotate_left
      · intro w hS; try subst hS
        go_simp; try with_reducible rfl
      try simp only [Act.put, List.setIfInBounds_toArray, List.set_cons_zero, List.set_cons_succ]
      refine AnyH.take (i := 6) (d := some 126) (v := ?_) (by kernel_rfl) rfl rfl HF (fun _ _ _ h => h) (.inl ⟨by rfl, ?_⟩) (by first | assumption | rfl) ?_
      rotate_left
      · intro w hS; try subst hS
        go_simp; try with_reducible rfl
      try simp only [Act.put, List.setIfInBounds_toArray, List.set_cons_zero, List.set_cons_succ]
      refine AnyH.take (i := 7) (d := some 127) (v := ?_) (by kernel_rfl) rfl rfl HF (fun _ _ _ h => h) (.inl ⟨by rfl, ?_⟩) (by first | assumption | rfl) ?_
      rotate_left
      · intro w hS; try subst hS
        go_simp; try with_reducible rfl
      try simp only [Act.put, List.setIfInBounds_toArray, List.set_cons_zero, List.set_cons_succ]
      refine AnyH.take (i := 8) (d := some 128) (v := ?_) (by kernel_rfl) rfl rfl HF (fun _ _ _ h => h) (.inl ⟨by rfl, ?_⟩) (by first | assumption | rfl) ?_
      rotate_left
      · intro w hS; try subst hS
        go_simp; try with_reducible rfl
      try simp only [Act.put, List.setIfInBounds_toArray, List.set_cons_zero, List.set_cons_succ]
      refine AnyH.take (i := 9) (d := some 129) (v := ?_) (by kernel_rfl) rfl rfl HF (fun _ _ _ h => h) (.inl ⟨by rfl, ?_⟩) (by first | assumption | rfl) ?_
      rotate_left
      · intro w hS; try subst hS
        go_simp; try with_reducible rfl
      try simp only [Act.put, List.setIfInBounds_toArray, List.set_cons_zero, List.set_cons_succ]
      refine AnyH.take (i := 10) (d := some 130) (v := ?_) (by kernel_rfl) rfl rfl HF (fun _ _ _ h => h) (.inl ⟨by rfl, ?_⟩) (by first | assumption | rfl) ?_
      rotate_left
      · intro w hS; try subst hS
        go_simp; try with_reducible rfl
      try simp only [Act.put, List.setIfInBounds_toArray, List.set_cons_zero, List.set_cons_succ]
      refine AnyH.take (i := 11) (d := some 131) (v := ?_) (by kernel_rfl) rfl rfl HF (fun _ _ _ h => h) (.inl ⟨by rfl, ?_⟩) (by first | assumption | rfl) ?_
      rotate_left
      · intro w hS; try subst hS
        go_simp; try with_reducible rfl
      try simp only [Act.put, List.setIfInBounds_toArray, List.set_cons_zero, List.set_cons_succ]
      refine AnyH.one (i := 12) (by kernel_rfl) (by kernel_rfl) rfl HF (by rfl) (fun K hK => ?_)
      go_simp
      refine hK _ _ SF ?_
      clear hK K
      try simp only [Act.put, List.setIfInBounds_toArray, List.set_cons_zero, List.set_cons_succ]
      refine AnyH.take (i := 13) (d := some 7) (v := ?_) (by kernel_rfl) rfl rfl HF (fun _ _ _ h => h) (.inl ⟨by rfl, ?_⟩) (by first | assumption | rfl) ?_
      rotate_left
      · intro w hS; try subst hS
        go_simp; try with_reducible rfl
      try simp only [Act.put, List.setIfInBounds_toArray, List.set_cons_zero, List.set_cons_succ]
      refine AnyH.done (by kernel_rfl) ?_
      clear s0 s1 s2 s3 s4 s5
      go_wp2_with fail
      exact bodyPost_ret (v := .tuple #[.agg #[.slice (some ⟨gb, 0, none⟩) tl vc, .int .i64 ((j : Nat) : Int)], .bool true]) (by simp [results, Try.results29, go_sem, h0, h1]) rfl ⟨j, HJL.out, rfl, HFC.out, HFB.out⟩
  · have A4 := Lib.hid (cpeek_any HS3.out HWF.out hE HK3.out hid HTL.out HKL.out)
    obtain ⟨bt, hbt⟩ : ∃ y, ((M.txt E id)[k]?).getD 0 = y := ⟨_, rfl⟩
    obtain ⟨dd, hdd⟩ : ∃ y, decide (k < tl) = y := ⟨_, rfl⟩
    have HBT := Lib.hid (And.intro hbt hdd)
    rw [hbt, hdd] at A4
    clear hbt hdd

    go_enter Try.func29, Try.ntmps29
    go_wp2_with fail
    refine HP.out.mono ?_; rintro e w ⟨rfl, h⟩; rw [h]; clear h w
    clear x0

    go_wp2_with fail
    clear x1 q0 q1
    refine A4.out.mono ?_
    rintro e w4 ⟨rfl, hc, hb⟩
    have K4h : Hid (RcC w4 (W.heap.size) (.slice va tl vc) k) := Lib.hid (hb.obj (Ne.symm HCL.out.1) HK4.out)
    have K5h : Hid (AcC w4 (W.heap.size + 1) ⟨xk, xn⟩) := Lib.hid (hb.obj (Ne.symm HCL.out.2.1) HK5.out)
    have KZ : Hid (RcC w4 (W.heap.size + 2) (.slice none 0 0) 0) := Lib.hid (hb.obj (Ne.symm HCL.out.2.2) HKZ.out)
    have KC := Lib.hid hc
    have KB := Lib.hid (HB3.out.trans hb)
    have KBW := Lib.hid (BYS.out c hb)
    clear hc hb
    have R2 := Lib.hid (rpeek_any KBW.out HTL.out HKL.out)
    rw [HBT.out.1, HBT.out.2] at R2
    obtain ⟨y0, y1, -, -⟩ := K4h.out.cells
    go_wp2_with fail
    clear y0 y1
    refine R2.out.mono ?_
    rintro e w5 ⟨rfl, b5⟩
    have K4h := Lib.hid (show RcC w5 (W.heap.size) (.slice va tl vc) _ from below_block b5 K4h.out)
    have K5h := Lib.hid (show AcC w5 (W.heap.size + 1) ⟨xk, xn⟩ from below_block b5 K5h.out)
    have KZ := Lib.hid (show RcC w5 (W.heap.size + 2) (.slice none 0 0) 0 from below_block b5 KZ.out)
    have KC := Lib.hid (show CuC w5 c B id tl _ from below_block b5 KC.out)
    have KB := Lib.hid (KB.out.trans (BC.of (C := c) b5))
    clear b5
    obtain ⟨y0, y1, -, -⟩ := K4h.out.cells
    obtain ⟨z0, z1, z2, z3⟩ := RcC.cells (KZ.out)
    obtain ⟨wf, hwf, kf, cf, bf, of⟩ := HFIN.out w5 k (KB.out) (KC.out) (KZ.out)
    obtain ⟨h0, h1, -, -⟩ := kf.cells
    have HFC := Lib.hid cf; have HFB := Lib.hid bf
    have HOF := Lib.hid of
    clear kf cf bf of
    go_wp2_with fail
    exact bodyPost_ret (v := .tuple #[.agg #[.slice va tl vc, .int .i64 ((k : Nat) : Int)], .bool true]) (by simp [results, Try.results29, go_sem, h0, h1]) rfl ⟨k, HKL.out, rfl, HFC.out, HFB.out⟩
  · have R5 := Lib.hid (rread_any HBY3.out HTL.out HKL.out HLS.out xn)
    have A5 := Lib.hid (fun (w : World) (hs : StAt n0 w B most E) (hc : CuC w c B id tl k) => read_any hs HWF.out hE hc hid HTL.out HKL.out xn)
    have hrd := rdN_le tl k xn
    obtain ⟨r, hr⟩ : ∃ y, rdN tl k xn = y := ⟨_, rfl⟩
    rw [hr] at R5 hrd
    simp only [hr] at A5
    obtain ⟨k1, hk1⟩ : ∃ y, k + r = y := ⟨_, rfl⟩
    rw [hk1] at R5
    simp only [hk1] at A5
    have HK1L : Hid (k1 ≤ tl) := Lib.hid (by have := HKL.out; omega)
    clear hrd hr hk1

    go_enter Try.func29, Try.ntmps29
    go_wp2_with fail
    refine HP.out.mono ?_; rintro e w ⟨rfl, h⟩; rw [h]; clear h w
    clear x0

    go_wp2_with fail
    clear x1 q0 q1
    refine R5.out.mono ?_
    rintro e w4 ⟨A', c', rfl, hrow, b4⟩
    have HROW := Lib.hid hrow
    have K4h := HK4; have K5h := HK5; have KZ := HKZ; have KC := HK3; have KB := HB3
    have K4h := Lib.hid (show RcC w4 (W.heap.size) (.slice va tl vc) _ from below_block b4 K4h.out)
    have K5h := Lib.hid (show AcC w4 (W.heap.size + 1) ⟨xk, xn⟩ from below_block b4 K5h.out)
    have KZ := Lib.hid (show RcC w4 (W.heap.size + 2) (.slice none 0 0) 0 from below_block b4 KZ.out)
    have KC := Lib.hid (show CuC w4 c B id tl _ from below_block b4 KC.out)
    have KB := Lib.hid (KB.out.trans (BC.of (C := c) b4))
    have HS4 := Lib.hid (HS3.out.below b4)
    clear b4 hrow
    obtain ⟨g9, hg9⟩ : ∃ g, w4.heap.size = g := ⟨_, rfl⟩
    obtain ⟨w5, hw9⟩ : ∃ y, w4.alloc (.cells #[.slice va tl vc, .int .i64 (k1 : Nat)] 68) = y := ⟨_, rfl⟩
    have k9 : RcC w5 g9 (.slice va tl vc) (k1 : Nat) := by rw [← hw9, ← hg9]; exact heap_new' _ _
    have b9 : Below w4.heap.size w4 w5 := by rw [← hw9]; exact (Below.refl _ _).alloc (Nat.le_refl _) _
    obtain ⟨u0, u1, -, -⟩ := k9.cells
    have K9h := Lib.hid k9
    have H9C : Hid (g9 ≠ c) := Lib.hid (by rw [← hg9]; have := (Array.getElem?_eq_some_iff.1 (show w4.heap[c]? = _ from KC.out)).1; omega)
    have H9G : Hid (g9 ≠ W.heap.size + 2) := Lib.hid (by rw [← hg9]; have := (Array.getElem?_eq_some_iff.1 (show w4.heap[W.heap.size + 2]? = _ from KZ.out)).1; omega)
    have K4h := Lib.hid (show RcC w5 (W.heap.size) (.slice va tl vc) _ from below_block b9 K4h.out)
    have K5h := Lib.hid (show AcC w5 (W.heap.size + 1) ⟨xk, xn⟩ from below_block b9 K5h.out)
    have KZ := Lib.hid (show RcC w5 (W.heap.size + 2) (.slice none 0 0) 0 from below_block b9 KZ.out)
    have KC := Lib.hid (show CuC w5 c B id tl _ from below_block b9 KC.out)
    have KB := Lib.hid (KB.out.trans (BC.of (C := c) b9))
    have B9 := Lib.hid b9
    clear k9 b9
    have HS5 := Lib.hid (HS4.out.below B9.out)
    have HROW5 := Lib.hid (row_below HROW.out B9.out)
    obtain ⟨wd, hwd⟩ : ∃ y, w5.drew = y := ⟨_, rfl⟩
    have DD : Below w5.heap.size w5 wd := by rw [← hwd]; exact (Below.refl _ _).drew
    have D4 : RcC wd (W.heap.size) (.slice va tl vc) (k) := below_block DD K4h.out
    have D5 : AcC wd (W.heap.size + 1) ⟨xk, xn⟩ := below_block DD K5h.out
    have DZ : RcC wd (W.heap.size + 2) (.slice none 0 0) 0 := below_block DD KZ.out
    have D9 : RcC wd g9 (.slice va tl vc) ((k1 : Nat)) := below_block DD K9h.out
    have s0 : ∀ w, (RcC w (W.heap.size) (.slice va tl vc) (k) ∧ AcC w (W.heap.size + 1) ⟨xk, xn⟩ ∧ RcC w g9 (.slice va tl vc) ((k1 : Nat))) → w.cell? ⟨W.heap.size, 0, none⟩ = some (.slice va tl vc) := fun w hw => hw.1.cells.1
    have s1 : ∀ w, (RcC w (W.heap.size) (.slice va tl vc) (k) ∧ AcC w (W.heap.size + 1) ⟨xk, xn⟩ ∧ RcC w g9 (.slice va tl vc) ((k1 : Nat))) → w.cell? ⟨W.heap.size, 1, none⟩ = some (.int .i64 (k)) := fun w hw => hw.1.cells.2.1
    have s2 : ∀ w, (RcC w (W.heap.size) (.slice va tl vc) (k) ∧ AcC w (W.heap.size + 1) ⟨xk, xn⟩ ∧ RcC w g9 (.slice va tl vc) ((k1 : Nat))) → w.cell? ⟨W.heap.size + 1, 1, none⟩ = some (.int .i64 xn) := fun w hw => hw.2.1.cells.2
    have s3 : ∀ w, (RcC w (W.heap.size) (.slice va tl vc) (k) ∧ AcC w (W.heap.size + 1) ⟨xk, xn⟩ ∧ RcC w g9 (.slice va tl vc) ((k1 : Nat))) → w.cell? ⟨g9, 0, none⟩ = some (.slice va tl vc) := fun w hw => hw.2.2.cells.1
    have s4 : ∀ w, (RcC w (W.heap.size) (.slice va tl vc) (k) ∧ AcC w (W.heap.size + 1) ⟨xk, xn⟩ ∧ RcC w g9 (.slice va tl vc) ((k1 : Nat))) → w.cell? ⟨g9, 1, none⟩ = some (.int .i64 ((k1 : Nat))) := fun w hw => hw.2.2.cells.2.1
    have HC6 := Lib.hid (A5.out wd (HS5.out.below DD) (below_block DD KC.out))
    have SD : RcC wd (W.heap.size) (.slice va tl vc) (k) ∧ AcC wd (W.heap.size + 1) ⟨xk, xn⟩ ∧ RcC wd g9 (.slice va tl vc) ((k1 : Nat)) := ⟨D4, D5, D9⟩
    go_wp2_with fail
    refine wp_region_anyH (fun w => RcC w (W.heap.size) (.slice va tl vc) (k) ∧ AcC w (W.heap.size + 1) ⟨xk, xn⟩ ∧ RcC w g9 (.slice va tl vc) ((k1 : Nat))) (by kernel_rfl) ?_
    rw [hwd]
    clear hwd
    try clear hg9 hw9 u0 u1
    refine AnyH.take (i := 0) (d := some 162) (v := ?_) (by kernel_rfl) rfl rfl HF (fun _ _ _ h => h) (.inl ⟨by rfl, ?_⟩) (by first | assumption | rfl) ?_
    rotate_left
    · intro w hS; try subst hS
      go_simp; try with_reducible rfl
    try simp only [Act.put, List.setIfInBounds_toArray, List.set_cons_zero, List.set_cons_succ]
    refine AnyH.take (i := 1) (d := some 163) (v := ?_) (by kernel_rfl) rfl rfl HF (fun _ _ _ h => h) (.inl ⟨by rfl, ?_⟩) (by first | assumption | rfl) ?_
    rotate_left
    · intro w hS; try subst hS
      go_simp; try with_reducible rfl
    try simp only [Act.put, List.setIfInBounds_toArray, List.set_cons_zero, List.set_cons_succ]
    refine AnyH.take (i := 2) (d := some 164) (v := ?_) (by kernel_rfl) rfl rfl HF (fun _ _ _ h => h) (.inl ⟨by rfl, ?_⟩) (by first | assumption | rfl) ?_
    rotate_left
    · intro w hS; try subst hS
      go_simp; try with_reducible rfl
    try simp only [Act.put, List.setIfInBounds_toArray, List.set_cons_zero, List.set_cons_succ]
    refine AnyH.take (i := 3) (d := some 165) (v := ?_) (by kernel_rfl) rfl rfl HF (fun _ _ _ h => h) (.inl ⟨by rfl, ?_⟩) (by first | assumption | rfl) ?_
    rotate_left
    · intro w hS; try subst hS
      go_simp; try with_reducible rfl
    try simp only [Act.put, List.setIfInBounds_toArray, List.set_cons_zero, List.set_cons_succ]
    refine AnyH.take (i := 5) (d := some 167) (v := ?_) (by kernel_rfl) rfl rfl HF (fun _ _ _ h => h) (.inl ⟨by rfl, ?_⟩) (by first | assumption | rfl) ?_
    rotate_left
    · intro w hS; try subst hS
      go_simp; try with_reducible rfl
    try simp only [Act.put, List.setIfInBounds_toArray, List.set_cons_zero, List.set_cons_succ]
    refine AnyH.one (i := 4) (by kernel_rfl) (by kernel_rfl) rfl HF (by rfl) (fun K hK => ?_)
    go_simp
    first | ((with_reducible refine And.intro ?hdep ?_); (case hdep => first | rfl | (intro h; cases h))) | skip
    refine callsIn_wide.2 (HC6.out.mono ?_)
    rintro e w6 ⟨v6, rfl, hy6, c6, b6⟩
    have HB6 := Lib.hid (bytes2_any hy6.row (row_bc c KC.out HROW5.out DD b6))
    have O4 : RcC w6 (W.heap.size) (.slice va tl vc) (k) := b6.obj (Ne.symm HCL.out.1) D4
    have O5 : AcC w6 (W.heap.size + 1) ⟨xk, xn⟩ := b6.obj (Ne.symm HCL.out.2.1) D5
    have OZ : RcC w6 (W.heap.size + 2) (.slice none 0 0) 0 := b6.obj (Ne.symm HCL.out.2.2) DZ
    have O9 : RcC w6 g9 (.slice va tl vc) ((k1 : Nat)) := b6.obj H9C.out D9
    have OB := (KB.out.trans (BC.of (C := c) DD)).trans b6
    obtain ⟨z0, z1, z2, z3⟩ := RcC.cells (OZ)
    obtain ⟨wf, hwf, kf, cf, bf, of⟩ := HFIN.out w6 k1 (OB) (c6) (OZ)
    obtain ⟨h0, h1, -, -⟩ := kf.cells
    have HFC := Lib.hid cf; have HFB := Lib.hid bf
    have HOF := Lib.hid of
    clear kf cf bf of
    have S6 : RcC w6 (W.heap.size) (.slice va tl vc) (k) ∧ AcC w6 (W.heap.size + 1) ⟨xk, xn⟩ ∧ RcC w6 g9 (.slice va tl vc) ((k1 : Nat)) := ⟨O4, O5, O9⟩
    have SF : RcC wf (W.heap.size) (.slice va tl vc) (k) ∧ AcC wf (W.heap.size + 1) ⟨xk, xn⟩ ∧ RcC wf g9 (.slice va tl vc) ((k1 : Nat)) := ⟨by have := HOF.out W.heap.size (by omega); unfold RcC at O4 ⊢; rw [this]; exact O4, by have := HOF.out (W.heap.size + 1) (by omega); unfold AcC at O5 ⊢; rw [this]; exact O5, by have := HOF.out g9 H9G.out; unfold RcC at O9 ⊢; rw [this]; exact O9⟩
    refine hK _ _ S6 ?_
    clear hK K
    try simp only [Act.put, List.setIfInBounds_toArray, List.set_cons_zero, List.set_cons_succ]
    refine AnyH.one (i := 6) (by kernel_rfl) (by kernel_rfl) rfl HF (by rfl) (fun K hK => ?_)
    go_simp
    first | ((with_reducible refine And.intro ?hdep ?_); (case hdep => first | rfl | (intro h; cases h))) | skip
    refine callsIn_wide.2 (HB6.out.mono ?_)
    rintro e w ⟨rfl, h⟩; rw [h]; clear h w
    refine hK _ _ S6 ?_
    clear hK K
    try simp only [Act.put, List.setIfInBounds_toArray, List.set_cons_zero, List.set_cons_succ]
    refine AnyH.one (i := 7) (by kernel_rfl) (by kernel_rfl) rfl HF (by rfl) (fun K hK => ?_)
    go_simp
    refine hK _ _ SF ?_
    clear hK K
    try simp only [Act.put, List.setIfInBounds_toArray, List.set_cons_zero, List.set_cons_succ]
    refine AnyH.take (i := 8) (d := some 7) (v := ?_) (by kernel_rfl) rfl rfl HF (fun _ _ _ h => h) (.inl ⟨by rfl, ?_⟩) (by first | assumption | rfl) ?_
    rotate_left
    · intro w hS; try subst hS
      go_simp; try with_reducible rfl
    try simp only [Act.put, List.setIfInBounds_toArray, List.set_cons_zero, List.set_cons_succ]
    refine AnyH.done (by kernel_rfl) ?_
    clear s0 s1 s2 s3 s4
    go_wp2_with fail
    exact bodyPost_ret (v := .tuple #[.agg #[.slice va tl vc, .int .i64 ((k1 : Nat) : Int)], .bool true]) (by simp [results, Try.results29, go_sem, h0, h1]) rfl ⟨k1, HK1L.out, rfl, HFC.out, HFB.out⟩
  · have A6 := Lib.hid (cline_any HS3.out HWF.out hE HK3.out hid HTL.out HKL.out)
    obtain ⟨l1, hl1⟩ : ∃ y, ((M.txt E id).take k).count 10 = y := ⟨_, rfl⟩
    obtain ⟨l2, hl2⟩ : ∃ y, tlT ((M.txt E id).take k) = y := ⟨_, rfl⟩
    have HBT := Lib.hid (And.intro hl1 hl2)
    rw [hl1, hl2] at A6
    clear hl1 hl2

    go_enter Try.func29, Try.ntmps29
    go_wp2_with fail
    refine HP.out.mono ?_; rintro e w ⟨rfl, h⟩; rw [h]; clear h w
    clear x0

    go_wp2_with fail
    clear x1 q0 q1
    refine A6.out.mono ?_
    rintro e w4 ⟨rfl, hc, hb⟩
    have K4h : Hid (RcC w4 (W.heap.size) (.slice va tl vc) k) := Lib.hid (hb.obj (Ne.symm HCL.out.1) HK4.out)
    have K5h : Hid (AcC w4 (W.heap.size + 1) ⟨xk, xn⟩) := Lib.hid (hb.obj (Ne.symm HCL.out.2.1) HK5.out)
    have KZ : Hid (RcC w4 (W.heap.size + 2) (.slice none 0 0) 0) := Lib.hid (hb.obj (Ne.symm HCL.out.2.2) HKZ.out)
    have KC := Lib.hid hc
    have KB := Lib.hid (HB3.out.trans hb)
    have KBW := Lib.hid (BYS.out c hb)
    clear hc hb
    have R2 := Lib.hid (rline_any KBW.out HTL.out HKL.out HLS.out)
    rw [HBT.out.1, HBT.out.2] at R2
    obtain ⟨y0, y1, -, -⟩ := K4h.out.cells
    go_wp2_with fail
    clear y0 y1
    refine R2.out.mono ?_
    rintro e w5 ⟨rfl, b5⟩
    have K4h := Lib.hid (show RcC w5 (W.heap.size) (.slice va tl vc) _ from below_block b5 K4h.out)
    have K5h := Lib.hid (show AcC w5 (W.heap.size + 1) ⟨xk, xn⟩ from below_block b5 K5h.out)
    have KZ := Lib.hid (show RcC w5 (W.heap.size + 2) (.slice none 0 0) 0 from below_block b5 KZ.out)
    have KC := Lib.hid (show CuC w5 c B id tl _ from below_block b5 KC.out)
    have KB := Lib.hid (KB.out.trans (BC.of (C := c) b5))
    clear b5
    obtain ⟨y0, y1, -, -⟩ := K4h.out.cells
    obtain ⟨z0, z1, z2, z3⟩ := RcC.cells (KZ.out)
    obtain ⟨wf, hwf, kf, cf, bf, of⟩ := HFIN.out w5 k (KB.out) (KC.out) (KZ.out)
    obtain ⟨h0, h1, -, -⟩ := kf.cells
    have HFC := Lib.hid cf; have HFB := Lib.hid bf
    have HOF := Lib.hid of
    clear kf cf bf of
    go_wp2_with fail
    exact bodyPost_ret (v := .tuple #[.agg #[.slice va tl vc, .int .i64 ((k : Nat) : Int)], .bool true]) (by simp [results, Try.results29, go_sem, h0, h1]) rfl ⟨k, HKL.out, rfl, HFC.out, HFB.out⟩
  · have A7 := Lib.hid (fun (w : World) (hs : StAt n0 w B most E) (hc : CuC w c B id tl k) => cnextl_any hs HWF.out hE hc hid HTL.out HKL.out)
    have R7 := Lib.hid (rnextl_any HBY3.out HTL.out HKL.out HLS.out)
    unfold RmP at R7
    have hk1l : (nxF (M.txt E id) k).getD k ≤ tl := nx_le HTL.out HKL.out
    obtain ⟨k1, hk1⟩ : ∃ y, (nxF (M.txt E id) k).getD k = y := ⟨_, rfl⟩
    obtain ⟨dd, hdd⟩ : ∃ y, (nxF (M.txt E id) k).isSome = y := ⟨_, rfl⟩
    rw [hk1, hdd] at R7
    rw [hk1] at hk1l
    simp only [hk1, hdd] at A7
    have HK1L := Lib.hid hk1l
    clear hk1 hdd hk1l

    go_enter Try.func29, Try.ntmps29
    go_wp2_with fail
    refine HP.out.mono ?_; rintro e w ⟨rfl, h⟩; rw [h]; clear h w
    clear x0

    go_wp2_with fail
    clear x1 q0 q1
    refine R7.out.mono ?_
    rintro e w4 ⟨rfl, b4⟩
    have K4h := HK4; have K5h := HK5; have KZ := HKZ; have KC := HK3; have KB := HB3
    have K4h := Lib.hid (show RcC w4 (W.heap.size) (.slice va tl vc) _ from below_block b4 K4h.out)
    have K5h := Lib.hid (show AcC w4 (W.heap.size + 1) ⟨xk, xn⟩ from below_block b4 K5h.out)
    have KZ := Lib.hid (show RcC w4 (W.heap.size + 2) (.slice none 0 0) 0 from below_block b4 KZ.out)
    have KC := Lib.hid (show CuC w4 c B id tl _ from below_block b4 KC.out)
    have KB := Lib.hid (KB.out.trans (BC.of (C := c) b4))
    have HS4 := Lib.hid (HS3.out.below b4)
    clear b4
    obtain ⟨g9, hg9⟩ : ∃ g, w4.heap.size = g := ⟨_, rfl⟩
    obtain ⟨w5, hw9⟩ : ∃ y, w4.alloc (.cells #[.slice va tl vc, .int .i64 (k1 : Nat)] 68) = y := ⟨_, rfl⟩
    have k9 : RcC w5 g9 (.slice va tl vc) (k1 : Nat) := by rw [← hw9, ← hg9]; exact heap_new' _ _
    have b9 : Below w4.heap.size w4 w5 := by rw [← hw9]; exact (Below.refl _ _).alloc (Nat.le_refl _) _
    obtain ⟨u0, u1, -, -⟩ := k9.cells
    have K9h := Lib.hid k9
    have H9C : Hid (g9 ≠ c) := Lib.hid (by rw [← hg9]; have := (Array.getElem?_eq_some_iff.1 (show w4.heap[c]? = _ from KC.out)).1; omega)
    have H9G : Hid (g9 ≠ W.heap.size + 2) := Lib.hid (by rw [← hg9]; have := (Array.getElem?_eq_some_iff.1 (show w4.heap[W.heap.size + 2]? = _ from KZ.out)).1; omega)
    have K4h := Lib.hid (show RcC w5 (W.heap.size) (.slice va tl vc) _ from below_block b9 K4h.out)
    have K5h := Lib.hid (show AcC w5 (W.heap.size + 1) ⟨xk, xn⟩ from below_block b9 K5h.out)
    have KZ := Lib.hid (show RcC w5 (W.heap.size + 2) (.slice none 0 0) 0 from below_block b9 KZ.out)
    have KC := Lib.hid (show CuC w5 c B id tl _ from below_block b9 KC.out)
    have KB := Lib.hid (KB.out.trans (BC.of (C := c) b9))
    have B9 := Lib.hid b9
    clear k9 b9
    have HS5 := Lib.hid (HS4.out.below B9.out)
    obtain ⟨wd, hwd⟩ : ∃ y, w5.drew = y := ⟨_, rfl⟩
    have DD : Below w5.heap.size w5 wd := by rw [← hwd]; exact (Below.refl _ _).drew
    have D4 : RcC wd (W.heap.size) (.slice va tl vc) (k) := below_block DD K4h.out
    have D5 : AcC wd (W.heap.size + 1) ⟨xk, xn⟩ := below_block DD K5h.out
    have DZ : RcC wd (W.heap.size + 2) (.slice none 0 0) 0 := below_block DD KZ.out
    have D9 : RcC wd g9 (.slice va tl vc) ((k1 : Nat)) := below_block DD K9h.out
    have s0 : ∀ w, (RcC w (W.heap.size) (.slice va tl vc) (k) ∧ AcC w (W.heap.size + 1) ⟨xk, xn⟩ ∧ RcC w g9 (.slice va tl vc) ((k1 : Nat))) → w.cell? ⟨W.heap.size, 0, none⟩ = some (.slice va tl vc) := fun w hw => hw.1.cells.1
    have s1 : ∀ w, (RcC w (W.heap.size) (.slice va tl vc) (k) ∧ AcC w (W.heap.size + 1) ⟨xk, xn⟩ ∧ RcC w g9 (.slice va tl vc) ((k1 : Nat))) → w.cell? ⟨W.heap.size, 1, none⟩ = some (.int .i64 (k)) := fun w hw => hw.1.cells.2.1
    have s2 : ∀ w, (RcC w (W.heap.size) (.slice va tl vc) (k) ∧ AcC w (W.heap.size + 1) ⟨xk, xn⟩ ∧ RcC w g9 (.slice va tl vc) ((k1 : Nat))) → w.cell? ⟨W.heap.size + 1, 1, none⟩ = some (.int .i64 xn) := fun w hw => hw.2.1.cells.2
    have s3 : ∀ w, (RcC w (W.heap.size) (.slice va tl vc) (k) ∧ AcC w (W.heap.size + 1) ⟨xk, xn⟩ ∧ RcC w g9 (.slice va tl vc) ((k1 : Nat))) → w.cell? ⟨g9, 0, none⟩ = some (.slice va tl vc) := fun w hw => hw.2.2.cells.1
    have s4 : ∀ w, (RcC w (W.heap.size) (.slice va tl vc) (k) ∧ AcC w (W.heap.size + 1) ⟨xk, xn⟩ ∧ RcC w g9 (.slice va tl vc) ((k1 : Nat))) → w.cell? ⟨g9, 1, none⟩ = some (.int .i64 ((k1 : Nat))) := fun w hw => hw.2.2.cells.2.1
    have HC6 := Lib.hid (A7.out wd (HS5.out.below DD) (below_block DD KC.out))
    have SD : RcC wd (W.heap.size) (.slice va tl vc) (k) ∧ AcC wd (W.heap.size + 1) ⟨xk, xn⟩ ∧ RcC wd g9 (.slice va tl vc) ((k1 : Nat)) := ⟨D4, D5, D9⟩
    go_wp2_with fail
    refine wp_region_anyH (fun w => RcC w (W.heap.size) (.slice va tl vc) (k) ∧ AcC w (W.heap.size + 1) ⟨xk, xn⟩ ∧ RcC w g9 (.slice va tl vc) ((k1 : Nat))) (by kernel_rfl) ?_
    rw [hwd]
    clear hwd
    try clear hg9 hw9 u0 u1
    refine AnyH.take (i := 0) (d := some 197) (v := ?_) (by kernel_rfl) rfl rfl HF (fun _ _ _ h => h) (.inl ⟨by rfl, ?_⟩) (by first | assumption | rfl) ?_
    rotate_left
    · intro w hS; try subst hS
      go_simp; try with_reducible rfl
    try simp only [Act.put, List.setIfInBounds_toArray, List.set_cons_zero, List.set_cons_succ]
    refine AnyH.take (i := 1) (d := some 198) (v := ?_) (by kernel_rfl) rfl rfl HF (fun _ _ _ h => h) (.inl ⟨by rfl, ?_⟩) (by first | assumption | rfl) ?_
    rotate_left
    · intro w hS; try subst hS
      go_simp; try with_reducible rfl
    try simp only [Act.put, List.setIfInBounds_toArray, List.set_cons_zero, List.set_cons_succ]
    refine AnyH.take (i := 3) (d := some 200) (v := ?_) (by kernel_rfl) rfl rfl HF (fun _ _ _ h => h) (.inl ⟨by rfl, ?_⟩) (by first | assumption | rfl) ?_
    rotate_left
    · intro w hS; try subst hS
      go_simp; try with_reducible rfl
    try simp only [Act.put, List.setIfInBounds_toArray, List.set_cons_zero, List.set_cons_succ]
    refine AnyH.one (i := 2) (by kernel_rfl) (by kernel_rfl) rfl HF (by rfl) (fun K hK => ?_)
    go_simp
    first | ((with_reducible refine And.intro ?hdep ?_); (case hdep => first | rfl | (intro h; cases h))) | skip
    refine callsIn_wide.2 (HC6.out.mono ?_)
    rintro e w6 ⟨rfl, c6, b6⟩
    have O4 : RcC w6 (W.heap.size) (.slice va tl vc) (k) := b6.obj (Ne.symm HCL.out.1) D4
    have O5 : AcC w6 (W.heap.size + 1) ⟨xk, xn⟩ := b6.obj (Ne.symm HCL.out.2.1) D5
    have OZ : RcC w6 (W.heap.size + 2) (.slice none 0 0) 0 := b6.obj (Ne.symm HCL.out.2.2) DZ
    have O9 : RcC w6 g9 (.slice va tl vc) ((k1 : Nat)) := b6.obj H9C.out D9
    have OB := (KB.out.trans (BC.of (C := c) DD)).trans b6
    obtain ⟨z0, z1, z2, z3⟩ := RcC.cells (OZ)
    obtain ⟨wf, hwf, kf, cf, bf, of⟩ := HFIN.out w6 k1 (OB) (c6) (OZ)
    obtain ⟨h0, h1, -, -⟩ := kf.cells
    have HFC := Lib.hid cf; have HFB := Lib.hid bf
    have HOF := Lib.hid of
    clear kf cf bf of
    have S6 : RcC w6 (W.heap.size) (.slice va tl vc) (k) ∧ AcC w6 (W.heap.size + 1) ⟨xk, xn⟩ ∧ RcC w6 g9 (.slice va tl vc) ((k1 : Nat)) := ⟨O4, O5, O9⟩
    have SF : RcC wf (W.heap.size) (.slice va tl vc) (k) ∧ AcC wf (W.heap.size + 1) ⟨xk, xn⟩ ∧ RcC wf g9 (.slice va tl vc) ((k1 : Nat)) := ⟨by have := HOF.out W.heap.size (by omega); unfold RcC at O4 ⊢; rw [this]; exact O4, by have := HOF.out (W.heap.size + 1) (by omega); unfold AcC at O5 ⊢; rw [this]; exact O5, by have := HOF.out g9 H9G.out; unfold RcC at O9 ⊢; rw [this]; exact O9⟩
    refine hK _ _ S6 ?_
    clear hK K
    try simp only [Act.put, List.setIfInBounds_toArray, List.set_cons_zero, List.set_cons_succ]
    refine AnyH.take (i := 4) (d := some 201) (v := ?_) (by kernel_rfl) rfl rfl HF (fun _ _ _ h => h) (.inl ⟨by rfl, ?_⟩) (by first | assumption | rfl) ?_
    rotate_left
    · intro w hS; try subst hS
      go_simp; try with_reducible rfl
    try simp only [Act.put, List.setIfInBounds_toArray, List.set_cons_zero, List.set_cons_succ]
    refine AnyH.one (i := 5) (by kernel_rfl) (by kernel_rfl) rfl HF (by rfl) (fun K hK => ?_)
    go_simp
    refine hK _ _ SF ?_
    clear hK K
    try simp only [Act.put, List.setIfInBounds_toArray, List.set_cons_zero, List.set_cons_succ]
    refine AnyH.take (i := 6) (d := some 7) (v := ?_) (by kernel_rfl) rfl rfl HF (fun _ _ _ h => h) (.inl ⟨by rfl, ?_⟩) (by first | assumption | rfl) ?_
    rotate_left
    · intro w hS; try subst hS
      go_simp; try with_reducible rfl
    try simp only [Act.put, List.setIfInBounds_toArray, List.set_cons_zero, List.set_cons_succ]
    refine AnyH.done (by kernel_rfl) ?_
    clear s0 s1 s2 s3 s4
    go_wp2_with fail
    exact bodyPost_ret (v := .tuple #[.agg #[.slice va tl vc, .int .i64 ((k1 : Nat) : Int)], .bool true]) (by simp [results, Try.results29, go_sem, h0, h1]) rfl ⟨k1, HK1L.out, rfl, HFC.out, HFB.out⟩
  · have A7 := Lib.hid (fun (w : World) (hs : StAt n0 w B most E) (hc : CuC w c B id tl k) => cprevl_any hs HWF.out hE hc hid HTL.out HKL.out)
    have R7 := Lib.hid (rprevl_any HBY3.out HTL.out HKL.out HLS.out)
    unfold RmP at R7
    have hk1l : (pvF (M.txt E id) k).getD k ≤ tl := pv_le HTL.out HKL.out
    obtain ⟨k1, hk1⟩ : ∃ y, (pvF (M.txt E id) k).getD k = y := ⟨_, rfl⟩
    obtain ⟨dd, hdd⟩ : ∃ y, (pvF (M.txt E id) k).isSome = y := ⟨_, rfl⟩
    rw [hk1, hdd] at R7
    rw [hk1] at hk1l
    simp only [hk1, hdd] at A7
    have HK1L := Lib.hid hk1l
    clear hk1 hdd hk1l

    go_enter Try.func29, Try.ntmps29
    go_wp2_with fail
    refine HP.out.mono ?_; rintro e w ⟨rfl, h⟩; rw [h]; clear h w
    clear x0

    go_wp2_with fail
    clear x1 q0 q1
    refine R7.out.mono ?_
    rintro e w4 ⟨rfl, b4⟩
    have K4h := HK4; have K5h := HK5; have KZ := HKZ; have KC := HK3; have KB := HB3
    have K4h := Lib.hid (show RcC w4 (W.heap.size) (.slice va tl vc) _ from below_block b4 K4h.out)
    have K5h := Lib.hid (show AcC w4 (W.heap.size + 1) ⟨xk, xn⟩ from below_block b4 K5h.out)
    have KZ := Lib.hid (show RcC w4 (W.heap.size + 2) (.slice none 0 0) 0 from below_block b4 KZ.out)
    have KC := Lib.hid (show CuC w4 c B id tl _ from below_block b4 KC.out)
    have KB := Lib.hid (KB.out.trans (BC.of (C := c) b4))
    have HS4 := Lib.hid (HS3.out.below b4)
    clear b4
    obtain ⟨g9, hg9⟩ : ∃ g, w4.heap.size = g := ⟨_, rfl⟩
    obtain ⟨w5, hw9⟩ : ∃ y, w4.alloc (.cells #[.slice va tl vc, .int .i64 (k1 : Nat)] 68) = y := ⟨_, rfl⟩
    have k9 : RcC w5 g9 (.slice va tl vc) (k1 : Nat) := by rw [← hw9, ← hg9]; exact heap_new' _ _
    have b9 : Below w4.heap.size w4 w5 := by rw [← hw9]; exact (Below.refl _ _).alloc (Nat.le_refl _) _
    obtain ⟨u0, u1, -, -⟩ := k9.cells
    have K9h := Lib.hid k9
    have H9C : Hid (g9 ≠ c) := Lib.hid (by rw [← hg9]; have := (Array.getElem?_eq_some_iff.1 (show w4.heap[c]? = _ from KC.out)).1; omega)
    have H9G : Hid (g9 ≠ W.heap.size + 2) := Lib.hid (by rw [← hg9]; have := (Array.getElem?_eq_some_iff.1 (show w4.heap[W.heap.size + 2]? = _ from KZ.out)).1; omega)
    have K4h := Lib.hid (show RcC w5 (W.heap.size) (.slice va tl vc) _ from below_block b9 K4h.out)
    have K5h := Lib.hid (show AcC w5 (W.heap.size + 1) ⟨xk, xn⟩ from below_block b9 K5h.out)
    have KZ := Lib.hid (show RcC w5 (W.heap.size + 2) (.slice none 0 0) 0 from below_block b9 KZ.out)
    have KC := Lib.hid (show CuC w5 c B id tl _ from below_block b9 KC.out)
    have KB := Lib.hid (KB.out.trans (BC.of (C := c) b9))
    have B9 := Lib.hid b9
    clear k9 b9
    have HS5 := Lib.hid (HS4.out.below B9.out)
    obtain ⟨wd, hwd⟩ : ∃ y, w5.drew = y := ⟨_, rfl⟩
    have DD : Below w5.heap.size w5 wd := by rw [← hwd]; exact (Below.refl _ _).drew
    have D4 : RcC wd (W.heap.size) (.slice va tl vc) (k) := below_block DD K4h.out
    have D5 : AcC wd (W.heap.size + 1) ⟨xk, xn⟩ := below_block DD K5h.out
    have DZ : RcC wd (W.heap.size + 2) (.slice none 0 0) 0 := below_block DD KZ.out
    have D9 : RcC wd g9 (.slice va tl vc) ((k1 : Nat)) := below_block DD K9h.out
    have s0 : ∀ w, (RcC w (W.heap.size) (.slice va tl vc) (k) ∧ AcC w (W.heap.size + 1) ⟨xk, xn⟩ ∧ RcC w g9 (.slice va tl vc) ((k1 : Nat))) → w.cell? ⟨W.heap.size, 0, none⟩ = some (.slice va tl vc) := fun w hw => hw.1.cells.1
    have s1 : ∀ w, (RcC w (W.heap.size) (.slice va tl vc) (k) ∧ AcC w (W.heap.size + 1) ⟨xk, xn⟩ ∧ RcC w g9 (.slice va tl vc) ((k1 : Nat))) → w.cell? ⟨W.heap.size, 1, none⟩ = some (.int .i64 (k)) := fun w hw => hw.1.cells.2.1
    have s2 : ∀ w, (RcC w (W.heap.size) (.slice va tl vc) (k) ∧ AcC w (W.heap.size + 1) ⟨xk, xn⟩ ∧ RcC w g9 (.slice va tl vc) ((k1 : Nat))) → w.cell? ⟨W.heap.size + 1, 1, none⟩ = some (.int .i64 xn) := fun w hw => hw.2.1.cells.2
    have s3 : ∀ w, (RcC w (W.heap.size) (.slice va tl vc) (k) ∧ AcC w (W.heap.size + 1) ⟨xk, xn⟩ ∧ RcC w g9 (.slice va tl vc) ((k1 : Nat))) → w.cell? ⟨g9, 0, none⟩ = some (.slice va tl vc) := fun w hw => hw.2.2.cells.1
    have s4 : ∀ w, (RcC w (W.heap.size) (.slice va tl vc) (k) ∧ AcC w (W.heap.size + 1) ⟨xk, xn⟩ ∧ RcC w g9 (.slice va tl vc) ((k1 : Nat))) → w.cell? ⟨g9, 1, none⟩ = some (.int .i64 ((k1 : Nat))) := fun w hw => hw.2.2.cells.2.1
    have HC6 := Lib.hid (A7.out wd (HS5.out.below DD) (below_block DD KC.out))
    have SD : RcC wd (W.heap.size) (.slice va tl vc) (k) ∧ AcC wd (W.heap.size + 1) ⟨xk, xn⟩ ∧ RcC wd g9 (.slice va tl vc) ((k1 : Nat)) := ⟨D4, D5, D9⟩
    go_wp2_with fail
    refine wp_region_anyH (fun w => RcC w (W.heap.size) (.slice va tl vc) (k) ∧ AcC w (W.heap.size + 1) ⟨xk, xn⟩ ∧ RcC w g9 (.slice va tl vc) ((k1 : Nat))) (by kernel_rfl) ?_
    rw [hwd]
    clear hwd
    try clear hg9 hw9 u0 u1
    refine AnyH.take (i := 0) (d := some 207) (v := ?_) (by kernel_rfl) rfl rfl HF (fun _ _ _ h => h) (.inl ⟨by rfl, ?_⟩) (by first | assumption | rfl) ?_
    rotate_left
    · intro w hS; try subst hS
      go_simp; try with_reducible rfl
    try simp only [Act.put, List.setIfInBounds_toArray, List.set_cons_zero, List.set_cons_succ]
    refine AnyH.take (i := 1) (d := some 208) (v := ?_) (by kernel_rfl) rfl rfl HF (fun _ _ _ h => h) (.inl ⟨by rfl, ?_⟩) (by first | assumption | rfl) ?_
    rotate_left
    · intro w hS; try subst hS
      go_simp; try with_reducible rfl
    try simp only [Act.put, List.setIfInBounds_toArray, List.set_cons_zero, List.set_cons_succ]
    refine AnyH.take (i := 3) (d := some 210) (v := ?_) (by kernel_rfl) rfl rfl HF (fun _ _ _ h => h) (.inl ⟨by rfl, ?_⟩) (by first | assumption | rfl) ?_
    rotate_left
    · intro w hS; try subst hS
      go_simp; try with_reducible rfl
    try simp only [Act.put, List.setIfInBounds_toArray, List.set_cons_zero, List.set_cons_succ]
    refine AnyH.one (i := 2) (by kernel_rfl) (by kernel_rfl) rfl HF (by rfl) (fun K hK => ?_)
    go_simp
    first | ((with_reducible refine And.intro ?hdep ?_); (case hdep => first | rfl | (intro h; cases h))) | skip
    refine callsIn_wide.2 (HC6.out.mono ?_)
    rintro e w6 ⟨rfl, c6, b6⟩
    have O4 : RcC w6 (W.heap.size) (.slice va tl vc) (k) := b6.obj (Ne.symm HCL.out.1) D4
    have O5 : AcC w6 (W.heap.size + 1) ⟨xk, xn⟩ := b6.obj (Ne.symm HCL.out.2.1) D5
    have OZ : RcC w6 (W.heap.size + 2) (.slice none 0 0) 0 := b6.obj (Ne.symm HCL.out.2.2) DZ
    have O9 : RcC w6 g9 (.slice va tl vc) ((k1 : Nat)) := b6.obj H9C.out D9
    have OB := (KB.out.trans (BC.of (C := c) DD)).trans b6
    obtain ⟨z0, z1, z2, z3⟩ := RcC.cells (OZ)
    obtain ⟨wf, hwf, kf, cf, bf, of⟩ := HFIN.out w6 k1 (OB) (c6) (OZ)
    obtain ⟨h0, h1, -, -⟩ := kf.cells
    have HFC := Lib.hid cf; have HFB := Lib.hid bf
    have HOF := Lib.hid of
    clear kf cf bf of
    have S6 : RcC w6 (W.heap.size) (.slice va tl vc) (k) ∧ AcC w6 (W.heap.size + 1) ⟨xk, xn⟩ ∧ RcC w6 g9 (.slice va tl vc) ((k1 : Nat)) := ⟨O4, O5, O9⟩
    have SF : RcC wf (W.heap.size) (.slice va tl vc) (k) ∧ AcC wf (W.heap.size + 1) ⟨xk, xn⟩ ∧ RcC wf g9 (.slice va tl vc) ((k1 : Nat)) := ⟨by have := HOF.out W.heap.size (by omega); unfold RcC at O4 ⊢; rw [this]; exact O4, by have := HOF.out (W.heap.size + 1) (by omega); unfold AcC at O5 ⊢; rw [this]; exact O5, by have := HOF.out g9 H9G.out; unfold RcC at O9 ⊢; rw [this]; exact O9⟩
    refine hK _ _ S6 ?_
    clear hK K
    try simp only [Act.put, List.setIfInBounds_toArray, List.set_cons_zero, List.set_cons_succ]
    refine AnyH.take (i := 4) (d := some 211) (v := ?_) (by kernel_rfl) rfl rfl HF (fun _ _ _ h => h) (.inl ⟨by rfl, ?_⟩) (by first | assumption | rfl) ?_
    rotate_left
    · intro w hS; try subst hS
      go_simp; try with_reducible rfl
    try simp only [Act.put, List.setIfInBounds_toArray, List.set_cons_zero, List.set_cons_succ]
    refine AnyH.one (i := 5) (by kernel_rfl) (by kernel_rfl) rfl HF (by rfl) (fun K hK => ?_)
    go_simp
    refine hK _ _ SF ?_
    clear hK K
    try simp only [Act.put, List.setIfInBounds_toArray, List.set_cons_zero, List.set_cons_succ]
    refine AnyH.take (i := 6) (d := some 7) (v := ?_) (by kernel_rfl) rfl rfl HF (fun _ _ _ h => h) (.inl ⟨by rfl, ?_⟩) (by first | assumption | rfl) ?_
    rotate_left
    · intro w hS; try subst hS
      go_simp; try with_reducible rfl
    try simp only [Act.put, List.setIfInBounds_toArray, List.set_cons_zero, List.set_cons_succ]
    refine AnyH.done (by kernel_rfl) ?_
    clear s0 s1 s2 s3 s4
    go_wp2_with fail
    exact bodyPost_ret (v := .tuple #[.agg #[.slice va tl vc, .int .i64 ((k1 : Nat) : Int)], .bool true]) (by simp [results, Try.results29, go_sem, h0, h1]) rfl ⟨k1, HK1L.out, rfl, HFC.out, HFB.out⟩
end M
end Go.Proofs.Ytjbllcakaljpgaa
