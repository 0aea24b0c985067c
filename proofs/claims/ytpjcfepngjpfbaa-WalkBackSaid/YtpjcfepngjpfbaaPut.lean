/- intern's put: a rule of a grammar, put into a store. -/
import Derived.Test.YtpjcfepngjpfbaaL11
import Derived.Test.YtpjcfepngjpfbaaPla
import Derived.Test.YtpjcfepngjpfbaaSop
import Derived.Test.YtpjcfepngjpfbaaCom
set_option linter.unusedVariables false
set_option linter.unusedSimpArgs false
namespace Go.Proofs.Ytpjcfepngjpfbaa
open Go.RowKit Go.Lib
namespace M
attribute [local go_sem] Oper.semAt_some
theorem pow_txt {E : List En} (h : WfD E) {l k : Nat} {t : List Nat} (hl0 : 0 < l) (hl : l ≤ E.length) (ht : txt E l = t) (hk : 2 ≤ k) (hs : k * t.length ≤ 1152921504606846976) :
    ∃ E2 i, powF E l k = (E2, i, 0) ∧ WfD E2 ∧ Ext E E2 ∧ E2.length ≤ E.length + 1 ∧ 0 < i ∧ i ≤ E2.length ∧ txt E2 i = rep k t := by
  rw [Nat.mul_comm] at hs
  have e1 : (entAt E l).w.len = t.length := by rw [(h.wf.get l hl0 hl).1, ht]; rfl
  have hde : DeOk E (powE E l k) := by
    refine ⟨fun h => ?_, fun h => ?_, fun _ => rfl⟩
    · have h' : (3 : Nat) = 1 := h
      omega
    · have h' : (3 : Nat) = 2 := h
      omega
  obtain ⟨a1, a2, a3, a4, a5, a6⟩ := addF_at h (powE_ok h.wf hl0 hl hk (by rw [e1]; exact hs)) hde
  have hk3 : (entAt (addF E (powE E l k)).1 (addF E (powE E l k)).2).ru = ⟨3, 0, l, 0, k⟩ := a6
  refine ⟨_, _, ?_, a1, a2, a3, a4, a5, ?_⟩
  · unfold powF
    rw [if_neg (by omega), if_neg (by omega), if_pos (by rw [e1]; exact hs)]
  · rcases (a1.wf.rule _ a4 a5).cases with ⟨g, -⟩ | ⟨g, -⟩ | ⟨-, -, -, -, -, -, -, g⟩
    · rw [hk3] at g; cases g
    · rw [hk3] at g; cases g
    · rw [g, hk3, a2.txt hl, ht]
theorem pair_txt {E : List En} (h : WfD E) {l r : Nat} {s t : List Nat} (hl0 : 0 < l) (hl : l ≤ E.length) (hr0 : 0 < r) (hr : r ≤ E.length) (hs : txt E l = s) (ht : txt E r = t) (hlen : s.length + t.length ≤ 1152921504606846976) :
    ∃ E2 i, pairF E l r = (E2, i, 0) ∧ WfD E2 ∧ Ext E E2 ∧ E2.length ≤ E.length + 1 ∧ 0 < i ∧ i ≤ E2.length ∧ txt E2 i = s ++ t := by
  have e1 : (entAt E l).w.len = s.length := by rw [(h.wf.get l hl0 hl).1, hs]; rfl
  have e2 : (entAt E r).w.len = t.length := by rw [(h.wf.get r hr0 hr).1, ht]; rfl
  obtain ⟨a1, a2, a3, a4, a5, a6⟩ := addF_at h (pairE_ok h.wf hl0 hr0 hl hr (by rw [e1, e2]; exact hlen)) (pairE_de E l r)
  have hk : (entAt (addF E (pairE E l r)).1 (addF E (pairE E l r)).2).ru = ⟨2, 0, l, r, 0⟩ := a6
  refine ⟨_, _, ?_, a1, a2, a3, a4, a5, ?_⟩
  · unfold pairF
    rw [if_neg (by omega), if_neg (by omega), if_pos (by rw [e1, e2]; exact hlen)]
  · rcases (a1.wf.rule _ a4 a5).cases with ⟨g, -⟩ | ⟨-, -, -, -, -, -, -, g⟩ | ⟨g, -⟩
    · rw [hk] at g; cases g
    · rw [g, hk, a2.txt hl, a2.txt hr, hs, ht]
    · rw [hk] at g; cases g
/-- The numbers of the rules that have been put. -/
abbrev ToW (W : World) (g m i : Nat) (F : Nat → Nat) : Prop := Arr (fun n : Nat => Value.int .i64 n) 31 W g m (fun j => j ≤ i) F
set_option maxRecDepth 100000 in
set_option maxHeartbeats 4000000 in
theorem put_any {n0 B most : Nat} {W : World} {E : List En} (h : StAt n0 W B most E) (hwd : WfD E) (hroom : E.length < most) (hE : E.length ≤ 1048575) {r : RuI} (hrw : r.Wd) {i : Nat} (hok : OkI r (i + 1)) {gt m : Nat} {F : Nat → Nat} (hA : ToW W gt m i F) (him : i < m) {T : List (List Nat)}
    (hF : ∀ j, 1 ≤ j → j ≤ i → 0 < F j ∧ F j ≤ E.length ∧ txt E (F j) = tx T j) (hT : (txOf T (gR r)).length ≤ 1152921504606846976) :
    Calls Try.prog 67 #[.pointer (some ⟨B, 0, none⟩), ruIV r, .slice (some ⟨gt, 0, none⟩) m m] W fun e w' => ∃ (id : Nat) (E' : List En), e = .returned (.tuple #[.int .i64 id, .nilIface]) ∧ StAt n0 w' B most E' ∧ WfD E' ∧ Ext E E' ∧ E'.length ≤ E.length + 1 ∧ 0 < id ∧ id ≤ E'.length ∧ txt E' id = txOf T (gR r) ∧ Below n0 W w' ∧ Kt W w' := by
  have HF : ∀ f, Fence.wide.fn f := fun _ => trivial
  obtain ⟨w1, hw1, b1, c0, c1, c2, c3, c4⟩ := newRuI W r
  have hn0 : n0 ≤ W.heap.size := h.lt
  have h1 := h.below b1
  have HB1 := Lib.hid (b1.mono hn0); have HK1 := Lib.hid (Kt.of b1)
  have hA1 := hA.below b1
  unfold ruIV
  rcases hok with ⟨k1, a1, a2, a3⟩ | ⟨k1, -, -, ⟨l1, l2⟩, r1, r2⟩ | ⟨k1, -, -, t2, l1, l2⟩
  · have kb1 : (r.kind == 1) = true := by simp [k1]
    have htx : txOf T (gR r) = [r.letter] := by unfold txOf gR; rw [if_pos (by simp [k1])]
    rw [htx]
    have HLT := Lib.hid (letter_any h1 r.letter hrw.letter hroom hE)
    obtain ⟨x1, x2, x3, x4⟩ := let_bal hwd hrw.letter
    have HX := Lib.hid (And.intro x1 (And.intro x2 (And.intro x3 x4)))
    generalize (addF E (letE r.letter)).1 = E' at *
    generalize (addF E (letE r.letter)).2 = id at *
    clear x1 x2 x3 x4 htx k1 a1 a2 a3 h h1 hA hA1 hF hT hn0 b1 hrw hwd
    refine (callsIn_wide (n := 9)).1 ?_
    refine callsIn_of_wp Try.func67 rfl trivial ?_ rfl
    simp only [Try.ntmps67, List.size_toArray, List.length_cons, List.length_nil, Nat.reduceAdd, Nat.reduceSub, Array.replicate_succ, Array.replicate_zero, List.push_toArray, List.append_toArray, List.nil_append, List.cons_append]
    gi_wp2_with fail
    first | refine callsIn_wide.2 (HLT.out.mono ?_) | refine ⟨(fun h => by cases h), callsIn_wide.2 (HLT.out.mono ?_)⟩ | refine ⟨trivial, (fun h => by cases h), callsIn_wide.2 (HLT.out.mono ?_)⟩
    rintro e w2 ⟨rfl, s2, b2, k2⟩
    have HE := Lib.hid (And.intro s2 (And.intro (HB1.out.trans b2) (HK1.out.trans k2)))
    clear s2 b2 k2
    gi_wp2_with fail
    refine bodyPost_ret (v := .tuple #[.int .i64 id, .nilIface]) (by simp [results, Try.results67, go_sem]) rfl ?_
    exact ⟨id, E', rfl, HE.out.1, HX.out.1, HX.out.2.1, HX.out.2.2.1, HX.out.2.2.2.pos, HX.out.2.2.2.le, HX.out.2.2.2.txt, HE.out.2.1, HE.out.2.2⟩
  · have kb1 : (r.kind == 1) = false := by simp [k1]
    have kb2 : (r.kind == 2) = true := by simp [k1]
    obtain ⟨l, hl⟩ : ∃ l : Nat, r.left = l := ⟨r.left.toNat, by omega⟩
    obtain ⟨rr, hrr⟩ : ∃ l : Nat, r.right = l := ⟨r.right.toNat, by omega⟩
    obtain ⟨f1, f2, f3⟩ := hF l (by omega) (by omega)
    obtain ⟨f4, f5, f6⟩ := hF rr (by omega) (by omega)
    have htx : txOf T (gR r) = tx T l ++ tx T rr := by
      unfold txOf gR
      rw [if_neg (by simp [k1]), if_pos (by simp [k1])]
      dsimp only
      rw [hl, hrr, Int.toNat_natCast, Int.toNat_natCast]
    rw [htx, List.length_append] at hT
    rw [htx]
    obtain ⟨E', id, hp, x1, x2, x3, x4, x5, x6⟩ := pair_txt hwd f1 f2 f4 f5 f3 f6 hT
    have HPR : Hid (∀ w, Below w1.heap.size w1 w → Calls Try.prog 42 #[.pointer (some ⟨B, 0, none⟩), .int .i64 (F l), .int .i64 (F rr)] w fun x w' => x = .returned (.tuple #[.int .i64 id, .nilIface]) ∧ StAt n0 w' B most E' ∧ Below n0 w w' ∧ Kt w w') := Lib.hid (fun w hw => by
      have hp0 := pair_any (h1.below hw) hwd.wf (l := F l) (r := F rr) f2 f5 hroom hE
      rw [hp] at hp0
      exact hp0)
    have HN1 : Hid (n0 ≤ w1.heap.size) := Lib.hid (Nat.le_trans hn0 b1.size)
    have HX := Lib.hid (And.intro x1 (And.intro x2 (And.intro x3 (And.intro x4 (And.intro x5 x6)))))
    have q1 := hA1.cell (i := l) (by omega) (by omega)
    have q2 := hA1.cell (i := rr) (by omega) (by omega)
    have y1 : ∀ w, Below w1.heap.size w1 w → w.cell? ⟨gt, l, none⟩ = some (.int .i64 (F l)) := fun w hw => cell_on3 q1 hw
    have y2 : ∀ w, Below w1.heap.size w1 w → w.cell? ⟨gt, rr, none⟩ = some (.int .i64 (F rr)) := fun w hw => cell_on3 q2 hw
    rw [hl] at c2
    rw [hrr] at c3
    have y3 : ∀ w, Below w1.heap.size w1 w → w.cell? ⟨W.heap.size, 2, none⟩ = some (.int .i64 l) := fun w hw => cell_on3 c2 hw
    have y4 : ∀ w, Below w1.heap.size w1 w → w.cell? ⟨W.heap.size, 3, none⟩ = some (.int .i64 rr) := fun w hw => cell_on3 c3 hw
    have i1 : (l : Int) < (m : Int) := by omega
    have i2 : (rr : Int) < (m : Int) := by omega
    have i3 : l < m := by omega
    have i4 : rr < m := by omega
    rw [hl, hrr] at hw1
    clear x1 x2 x3 x4 x5 x6 hp htx k1 l1 l2 r1 r2 f1 f2 f3 f4 f5 f6 q1 q2 h h1 hA hA1 hF hT hn0 b1 hrw hwd
    rw [hl, hrr]
    refine (callsIn_wide (n := 9)).1 ?_
    refine callsIn_of_wp Try.func67 rfl trivial ?_ rfl
    simp only [Try.ntmps67, List.size_toArray, List.length_cons, List.length_nil, Nat.reduceAdd, Nat.reduceSub, Array.replicate_succ, Array.replicate_zero, List.push_toArray, List.append_toArray, List.nil_append, List.cons_append]
    clear hl hrr
    gi_wp2_with fail
    refine wpIn_region_anyNP (Below w1.heap.size w1) (by kernel_rfl) ?_
    obtain ⟨wd, hwd⟩ : ∃ y, w1.drew = y := ⟨_, rfl⟩
    have S0 : Below w1.heap.size w1 wd := by rw [← hwd]; exact (Below.refl _ _).drew
    rw [hwd]
    clear hwd
    refine AnyH.take (i := 0) (d := some 20) (v := ?_) (by kernel_rfl) rfl rfl HF (fun _ _ _ h => h) (.inl ⟨by rfl, ?_⟩) (by first | assumption | rfl) ?_
    rotate_left
    · intro w hS; try subst hS
      go_simp; try with_reducible rfl
    try simp only [Act.put, List.setIfInBounds_toArray, List.set_cons_zero, List.set_cons_succ]
    refine AnyH.take (i := 1) (d := some 21) (v := ?_) (by kernel_rfl) rfl rfl HF (fun _ _ _ h => h) (.inl ⟨by rfl, ?_⟩) (by first | assumption | rfl) ?_
    rotate_left
    · intro w hS; try subst hS
      go_simp; try with_reducible rfl
    try simp only [Act.put, List.setIfInBounds_toArray, List.set_cons_zero, List.set_cons_succ]
    refine AnyH.take (i := 2) (d := some 22) (v := ?_) (by kernel_rfl) rfl rfl HF (fun _ _ _ h => h) (.inl ⟨by rfl, ?_⟩) (by first | assumption | rfl) ?_
    rotate_left
    · intro w hS; try subst hS
      go_simp; try with_reducible rfl
    try simp only [Act.put, List.setIfInBounds_toArray, List.set_cons_zero, List.set_cons_succ]
    refine AnyH.take (i := 3) (d := some 23) (v := ?_) (by kernel_rfl) rfl rfl HF (fun _ _ _ h => h) (.inl ⟨by rfl, ?_⟩) (by first | assumption | rfl) ?_
    rotate_left
    · intro w hS; try subst hS
      go_simp; try with_reducible rfl
    try simp only [Act.put, List.setIfInBounds_toArray, List.set_cons_zero, List.set_cons_succ]
    refine AnyH.take (i := 4) (d := some 24) (v := ?_) (by kernel_rfl) rfl rfl HF (fun _ _ _ h => h) (.inl ⟨by rfl, ?_⟩) (by first | assumption | rfl) ?_
    rotate_left
    · intro w hS; try subst hS
      go_simp; try with_reducible rfl
    try simp only [Act.put, List.setIfInBounds_toArray, List.set_cons_zero, List.set_cons_succ]
    refine AnyH.take (i := 5) (d := some 25) (v := ?_) (by kernel_rfl) rfl rfl HF (fun _ _ _ h => h) (.inl ⟨by rfl, ?_⟩) (by first | assumption | rfl) ?_
    rotate_left
    · intro w hS; try subst hS
      go_simp; try with_reducible rfl
    try simp only [Act.put, List.setIfInBounds_toArray, List.set_cons_zero, List.set_cons_succ]
    refine AnyH.take (i := 6) (d := some 26) (v := ?_) (by kernel_rfl) rfl rfl HF (fun _ _ _ h => h) (.inl ⟨by rfl, ?_⟩) (by first | assumption | rfl) ?_
    rotate_left
    · intro w hS; try subst hS
      go_simp; try with_reducible rfl
    try simp only [Act.put, List.setIfInBounds_toArray, List.set_cons_zero, List.set_cons_succ]
    refine AnyH.take (i := 7) (d := some 27) (v := ?_) (by kernel_rfl) rfl rfl HF (fun _ _ _ h => h) (.inl ⟨by rfl, ?_⟩) (by first | assumption | rfl) ?_
    rotate_left
    · intro w hS; try subst hS
      go_simp; try with_reducible rfl
    try simp only [Act.put, List.setIfInBounds_toArray, List.set_cons_zero, List.set_cons_succ]
    refine AnyH.take (i := 8) (d := some 28) (v := ?_) (by kernel_rfl) rfl rfl HF (fun _ _ _ h => h) (.inl ⟨by rfl, ?_⟩) (by first | assumption | rfl) ?_
    rotate_left
    · intro w hS; try subst hS
      go_simp; try with_reducible rfl
    try simp only [Act.put, List.setIfInBounds_toArray, List.set_cons_zero, List.set_cons_succ]
    refine AnyH.take (i := 9) (d := some 29) (v := ?_) (by kernel_rfl) rfl rfl HF (fun _ _ _ h => h) (.inl ⟨by rfl, ?_⟩) (by first | assumption | rfl) ?_
    rotate_left
    · intro w hS; try subst hS
      go_simp; try with_reducible rfl
    try simp only [Act.put, List.setIfInBounds_toArray, List.set_cons_zero, List.set_cons_succ]
    refine AnyH.take (i := 10) (d := some 30) (v := ?_) (by kernel_rfl) rfl rfl HF (fun _ _ _ h => h) (.inl ⟨by rfl, ?_⟩) (by first | assumption | rfl) ?_
    rotate_left
    · intro w hS; try subst hS
      go_simp; try with_reducible rfl
    try simp only [Act.put, List.setIfInBounds_toArray, List.set_cons_zero, List.set_cons_succ]
    clear y1 y2 y3 y4
    refine AnyH.wall (i := 11) (by kernel_rfl) rfl HF (by rfl) (fun K hK => ?_)
    go_simp
    first | refine callsIn_wide.2 ((HPR.out wd S0).mono ?_) | refine ⟨(fun h => by cases h), callsIn_wide.2 ((HPR.out wd S0).mono ?_)⟩ | refine ⟨trivial, (fun h => by cases h), callsIn_wide.2 ((HPR.out wd S0).mono ?_)⟩
    rintro e w2 ⟨rfl, s2, b2, k2⟩
    have HE := Lib.hid (And.intro s2 (And.intro ((HB1.out.trans (S0.mono HN1.out)).trans b2) ((HK1.out.trans (Kt.of S0)).trans k2)))
    refine hK (fun _ => True) _ _ ?_
    clear hK K s2 b2 k2 S0
    try simp only [Act.put, List.setIfInBounds_toArray, List.set_cons_zero, List.set_cons_succ]
    have hS : (fun _ : World => True) w2 := trivial
    refine AnyH.take (i := 12) (d := some 32) (v := ?_) (by kernel_rfl) rfl rfl HF (fun _ _ _ h => h) (.inl ⟨by rfl, ?_⟩) (by first | assumption | rfl) ?_
    rotate_left
    · intro w hS; try subst hS
      go_simp; try with_reducible rfl
    try simp only [Act.put, List.setIfInBounds_toArray, List.set_cons_zero, List.set_cons_succ]
    refine AnyH.take (i := 13) (d := some 33) (v := ?_) (by kernel_rfl) rfl rfl HF (fun _ _ _ h => h) (.inl ⟨by rfl, ?_⟩) (by first | assumption | rfl) ?_
    rotate_left
    · intro w hS; try subst hS
      go_simp; try with_reducible rfl
    try simp only [Act.put, List.setIfInBounds_toArray, List.set_cons_zero, List.set_cons_succ]
    refine AnyH.take (i := 14) (d := some 6) (v := ?_) (by kernel_rfl) rfl rfl HF (fun _ _ _ h => h) (.inl ⟨by rfl, ?_⟩) (by first | assumption | rfl) ?_
    rotate_left
    · intro w hS; try subst hS
      go_simp; try with_reducible rfl
    try simp only [Act.put, List.setIfInBounds_toArray, List.set_cons_zero, List.set_cons_succ]
    refine AnyH.take (i := 15) (d := some 7) (v := ?_) (by kernel_rfl) rfl rfl HF (fun _ _ _ h => h) (.inl ⟨by rfl, ?_⟩) (by first | assumption | rfl) ?_
    rotate_left
    · intro w hS; try subst hS
      go_simp; try with_reducible rfl
    try simp only [Act.put, List.setIfInBounds_toArray, List.set_cons_zero, List.set_cons_succ]
    refine AnyH.done (by kernel_rfl) ?_
    refine NP.normal ?_
    gi_wp2_with fail
    refine bodyPost_ret (v := .tuple #[.int .i64 id, .nilIface]) (by simp [results, Try.results67, go_sem]) rfl ?_
    exact ⟨id, rfl, E', HE.out.1, HX.out.1, HX.out.2.1, HX.out.2.2.1, HX.out.2.2.2.1, HX.out.2.2.2.2.1, HX.out.2.2.2.2.2, HE.out.2.1, HE.out.2.2⟩
  · have kb1 : (r.kind == 1) = false := by simp [k1]
    have kb2 : (r.kind == 2) = false := by simp [k1]
    obtain ⟨l, hl⟩ : ∃ l : Nat, r.left = l := ⟨r.left.toNat, by omega⟩
    obtain ⟨tm, htm⟩ : ∃ l : Nat, r.times = l := ⟨r.times.toNat, by omega⟩
    have htmb : tm ≤ 9223372036854775807 := by have := hrw.times; omega
    obtain ⟨f1, f2, f3⟩ := hF l (by omega) (by omega)
    have htx : txOf T (gR r) = rep tm (tx T l) := by
      unfold txOf gR
      rw [if_neg (by simp [k1]), if_neg (by simp [k1])]
      dsimp only
      rw [hl, htm, Int.toNat_natCast, Int.toNat_natCast]
    rw [htx, rep_length] at hT
    rw [htx]
    obtain ⟨E', id, hp, x1, x2, x3, x4, x5, x6⟩ := pow_txt hwd f1 f2 f3 (k := tm) (by omega) hT
    have HPR : Hid (∀ w, Below w1.heap.size w1 w → Calls Try.prog 34 #[.pointer (some ⟨B, 0, none⟩), .int .i64 (F l), .int .i64 tm] w fun x w' => x = .returned (.tuple #[.int .i64 id, .nilIface]) ∧ StAt n0 w' B most E' ∧ Below n0 w w' ∧ Kt w w') := Lib.hid (fun w hw => by
      have hp0 := power_any (h1.below hw) hwd.wf (l := F l) (k := tm) f2 htmb hroom hE
      rw [hp] at hp0
      exact hp0)
    have HN1 : Hid (n0 ≤ w1.heap.size) := Lib.hid (Nat.le_trans hn0 b1.size)
    have HX := Lib.hid (And.intro x1 (And.intro x2 (And.intro x3 (And.intro x4 (And.intro x5 x6)))))
    have q1 := hA1.cell (i := l) (by omega) (by omega)
    have y1 : ∀ w, Below w1.heap.size w1 w → w.cell? ⟨gt, l, none⟩ = some (.int .i64 (F l)) := fun w hw => cell_on3 q1 hw
    rw [hl] at c2
    rw [htm] at c4
    have y3 : ∀ w, Below w1.heap.size w1 w → w.cell? ⟨W.heap.size, 2, none⟩ = some (.int .i64 l) := fun w hw => cell_on3 c2 hw
    have y4 : ∀ w, Below w1.heap.size w1 w → w.cell? ⟨W.heap.size, 4, none⟩ = some (.int .i64 tm) := fun w hw => cell_on3 c4 hw
    have i1 : (l : Int) < (m : Int) := by omega
    have i3 : l < m := by omega
    rw [hl, htm] at hw1
    clear x1 x2 x3 x4 x5 x6 hp htx k1 l1 l2 t2 f1 f2 f3 q1 h h1 hA hA1 hF hT hn0 b1 hrw hwd htmb
    rw [hl, htm]
    refine (callsIn_wide (n := 9)).1 ?_
    refine callsIn_of_wp Try.func67 rfl trivial ?_ rfl
    simp only [Try.ntmps67, List.size_toArray, List.length_cons, List.length_nil, Nat.reduceAdd, Nat.reduceSub, Array.replicate_succ, Array.replicate_zero, List.push_toArray, List.append_toArray, List.nil_append, List.cons_append]
    clear hl htm
    gi_wp2_with fail
    refine wpIn_region_anyNP (Below w1.heap.size w1) (by kernel_rfl) ?_
    obtain ⟨wd, hwd⟩ : ∃ y, w1.drew = y := ⟨_, rfl⟩
    have S0 : Below w1.heap.size w1 wd := by rw [← hwd]; exact (Below.refl _ _).drew
    rw [hwd]
    clear hwd
    refine AnyH.take (i := 0) (d := some 34) (v := ?_) (by kernel_rfl) rfl rfl HF (fun _ _ _ h => h) (.inl ⟨by rfl, ?_⟩) (by first | assumption | rfl) ?_
    rotate_left
    · intro w hS; try subst hS
      go_simp; try with_reducible rfl
    try simp only [Act.put, List.setIfInBounds_toArray, List.set_cons_zero, List.set_cons_succ]
    refine AnyH.take (i := 1) (d := some 35) (v := ?_) (by kernel_rfl) rfl rfl HF (fun _ _ _ h => h) (.inl ⟨by rfl, ?_⟩) (by first | assumption | rfl) ?_
    rotate_left
    · intro w hS; try subst hS
      go_simp; try with_reducible rfl
    try simp only [Act.put, List.setIfInBounds_toArray, List.set_cons_zero, List.set_cons_succ]
    refine AnyH.take (i := 2) (d := some 36) (v := ?_) (by kernel_rfl) rfl rfl HF (fun _ _ _ h => h) (.inl ⟨by rfl, ?_⟩) (by first | assumption | rfl) ?_
    rotate_left
    · intro w hS; try subst hS
      go_simp; try with_reducible rfl
    try simp only [Act.put, List.setIfInBounds_toArray, List.set_cons_zero, List.set_cons_succ]
    refine AnyH.take (i := 3) (d := some 37) (v := ?_) (by kernel_rfl) rfl rfl HF (fun _ _ _ h => h) (.inl ⟨by rfl, ?_⟩) (by first | assumption | rfl) ?_
    rotate_left
    · intro w hS; try subst hS
      go_simp; try with_reducible rfl
    try simp only [Act.put, List.setIfInBounds_toArray, List.set_cons_zero, List.set_cons_succ]
    refine AnyH.take (i := 4) (d := some 38) (v := ?_) (by kernel_rfl) rfl rfl HF (fun _ _ _ h => h) (.inl ⟨by rfl, ?_⟩) (by first | assumption | rfl) ?_
    rotate_left
    · intro w hS; try subst hS
      go_simp; try with_reducible rfl
    try simp only [Act.put, List.setIfInBounds_toArray, List.set_cons_zero, List.set_cons_succ]
    refine AnyH.take (i := 5) (d := some 39) (v := ?_) (by kernel_rfl) rfl rfl HF (fun _ _ _ h => h) (.inl ⟨by rfl, ?_⟩) (by first | assumption | rfl) ?_
    rotate_left
    · intro w hS; try subst hS
      go_simp; try with_reducible rfl
    try simp only [Act.put, List.setIfInBounds_toArray, List.set_cons_zero, List.set_cons_succ]
    refine AnyH.take (i := 6) (d := some 40) (v := ?_) (by kernel_rfl) rfl rfl HF (fun _ _ _ h => h) (.inl ⟨by rfl, ?_⟩) (by first | assumption | rfl) ?_
    rotate_left
    · intro w hS; try subst hS
      go_simp; try with_reducible rfl
    try simp only [Act.put, List.setIfInBounds_toArray, List.set_cons_zero, List.set_cons_succ]
    refine AnyH.take (i := 7) (d := some 41) (v := ?_) (by kernel_rfl) rfl rfl HF (fun _ _ _ h => h) (.inl ⟨by rfl, ?_⟩) (by first | assumption | rfl) ?_
    rotate_left
    · intro w hS; try subst hS
      go_simp; try with_reducible rfl
    try simp only [Act.put, List.setIfInBounds_toArray, List.set_cons_zero, List.set_cons_succ]
    clear y1 y3 y4
    refine AnyH.wall (i := 8) (by kernel_rfl) rfl HF (by rfl) (fun K hK => ?_)
    go_simp
    first | refine callsIn_wide.2 ((HPR.out wd S0).mono ?_) | refine ⟨(fun h => by cases h), callsIn_wide.2 ((HPR.out wd S0).mono ?_)⟩ | refine ⟨trivial, (fun h => by cases h), callsIn_wide.2 ((HPR.out wd S0).mono ?_)⟩
    rintro e w2 ⟨rfl, s2, b2, k2⟩
    have HE := Lib.hid (And.intro s2 (And.intro ((HB1.out.trans (S0.mono HN1.out)).trans b2) ((HK1.out.trans (Kt.of S0)).trans k2)))
    refine hK (fun _ => True) _ _ ?_
    clear hK K s2 b2 k2 S0
    try simp only [Act.put, List.setIfInBounds_toArray, List.set_cons_zero, List.set_cons_succ]
    have hS : (fun _ : World => True) w2 := trivial
    refine AnyH.take (i := 9) (d := some 43) (v := ?_) (by kernel_rfl) rfl rfl HF (fun _ _ _ h => h) (.inl ⟨by rfl, ?_⟩) (by first | assumption | rfl) ?_
    rotate_left
    · intro w hS; try subst hS
      go_simp; try with_reducible rfl
    try simp only [Act.put, List.setIfInBounds_toArray, List.set_cons_zero, List.set_cons_succ]
    refine AnyH.take (i := 10) (d := some 44) (v := ?_) (by kernel_rfl) rfl rfl HF (fun _ _ _ h => h) (.inl ⟨by rfl, ?_⟩) (by first | assumption | rfl) ?_
    rotate_left
    · intro w hS; try subst hS
      go_simp; try with_reducible rfl
    try simp only [Act.put, List.setIfInBounds_toArray, List.set_cons_zero, List.set_cons_succ]
    refine AnyH.take (i := 11) (d := some 6) (v := ?_) (by kernel_rfl) rfl rfl HF (fun _ _ _ h => h) (.inl ⟨by rfl, ?_⟩) (by first | assumption | rfl) ?_
    rotate_left
    · intro w hS; try subst hS
      go_simp; try with_reducible rfl
    try simp only [Act.put, List.setIfInBounds_toArray, List.set_cons_zero, List.set_cons_succ]
    refine AnyH.take (i := 12) (d := some 7) (v := ?_) (by kernel_rfl) rfl rfl HF (fun _ _ _ h => h) (.inl ⟨by rfl, ?_⟩) (by first | assumption | rfl) ?_
    rotate_left
    · intro w hS; try subst hS
      go_simp; try with_reducible rfl
    try simp only [Act.put, List.setIfInBounds_toArray, List.set_cons_zero, List.set_cons_succ]
    refine AnyH.done (by kernel_rfl) ?_
    refine NP.normal ?_
    gi_wp2_with fail
    refine bodyPost_ret (v := .tuple #[.int .i64 id, .nilIface]) (by simp [results, Try.results67, go_sem]) rfl ?_
    exact ⟨id, rfl, E', HE.out.1, HX.out.1, HX.out.2.1, HX.out.2.2.1, HX.out.2.2.2.1, HX.out.2.2.2.2.1, HX.out.2.2.2.2.2, HE.out.2.1, HE.out.2.2⟩
end M
end Go.Proofs.Ytpjcfepngjpfbaa
