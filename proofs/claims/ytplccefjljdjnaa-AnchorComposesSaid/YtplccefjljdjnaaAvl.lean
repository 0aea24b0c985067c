/- avl: parts, two, four, level, join, Join: a balanced ID of two balanced texts, one after the other. -/
import Derived.Test.YtplccefjljdjnaaDep0
import Derived.Test.YtplccefjljdjnaaPla
import Derived.Test.YtplccefjljdjnaaCom
set_option linter.unusedVariables false
set_option linter.unusedSimpArgs false
namespace Go.Proofs.Ytplccefjljdjnaa
open Go.RowKit Go.Lib
namespace M
attribute [local go_sem] Oper.semAt_some
/-- What a joining call leaves: a balanced ID, and so many new rules at most. -/
def JoP (n0 B most k lo hi : Nat) (E : List En) (W : World) (t : List Nat) (e : Ending) (w' : World) : Prop := ∃ (E' : List En) (id d : Nat), e = .returned (.tuple #[.int .i64 (id : Nat), .nilIface]) ∧ StAt n0 w' B most E' ∧ WfD E' ∧ Ext E E' ∧ E'.length ≤ E.length + k ∧ Bal E' id t d ∧ (lo ≤ d ∧ d ≤ hi) ∧ Below n0 W w' ∧ Kt W w'
theorem JoP.ret {n0 B most k lo hi : Nat} {E : List En} {W w' : World} {t : List Nat} {e : Ending} (h : JoP n0 B most k lo hi E W t e w') : ∃ id : Nat, e = .returned (.tuple #[.int .i64 id, .nilIface]) := by
  obtain ⟨E', id, d, rfl, -⟩ := h
  exact ⟨id, rfl⟩
theorem JoP.after {n0 B most k k1 k2 lo hi lo2 hi2 : Nat} {E E1 : List En} {W w1 w' : World} {t t2 : List Nat} {e : Ending} (h : JoP n0 B most k2 lo2 hi2 E1 w1 t2 e w') (ht : t2 = t) (hx : Ext E E1) (hn : E1.length ≤ E.length + k1) (hk : k1 + k2 ≤ k) (hl : lo ≤ lo2) (hh : hi2 ≤ hi) (hb : Below n0 W w1) (hkt : Kt W w1) : JoP n0 B most k lo hi E W t e w' := by
  obtain ⟨E', id, d, he, s, f, x, n, bl, dd, b, kt⟩ := h
  subst ht
  exact ⟨E', id, d, he, s, f, hx.trans x, by omega, bl, ⟨by omega, by omega⟩, hb.trans b, hkt.trans kt⟩
theorem JoP.read {n0 B most k k2 lo hi lo2 hi2 : Nat} {E : List En} {W w1 w' : World} {t t2 : List Nat} {e : Ending} (h : JoP n0 B most k2 lo2 hi2 E w1 t2 e w') (ht : t2 = t) (hk : k2 ≤ k) (hl : lo ≤ lo2) (hh : hi2 ≤ hi) (hb : Below W.heap.size W w1) (hn : n0 ≤ W.heap.size) : JoP n0 B most k lo hi E W t e w' :=
  h.after (k1 := 0) ht (Ext.refl _) (by omega) (by omega) hl hh (hb.mono hn) (Kt.of hb)
section
variable {n0 B most : Nat} {W : World} {E : List En}
/-- Pair of two balanced texts of nearly equal depth. -/
theorem pairB_any (hs : StAt n0 W B most E) (hwf : WfD E) {l r dl dr : Nat} {s t : List Nat} (hl : Bal E l s dl) (hr : Bal E r t dr) (hd : dl ≤ dr + 1 ∧ dr ≤ dl + 1) (hlen : s.length + t.length ≤ 1152921504606846976) (hroom : E.length + 1 ≤ most) (hE : E.length + 1 ≤ 1048576) :
    Calls Try.prog 75 #[.pointer (some ⟨B, 0, none⟩), .int .i64 l, .int .i64 r] W (JoP n0 B most 1 (1 + max dl dr) (1 + max dl dr) E W (s ++ t)) := by
  obtain ⟨a1, a2, a3, a4, a5⟩ := pair_bal hwf hl hr hd hlen
  refine (pair_any hs hwf.wf hl.le hr.le (by omega) (by omega)).mono ?_
  rintro e w' ⟨rfl, s', b', k'⟩
  rw [a1]
  exact ⟨_, _, _, rfl, s', a2, a3, a4, a5, ⟨Nat.le_refl _, Nat.le_refl _⟩, b', k'⟩
set_option maxRecDepth 100000 in
set_option maxHeartbeats 1000000 in
theorem two_any (hs : StAt n0 W B most E) (hwf : WfD E) {a b c da db dc : Nat} {s t u : List Nat} (ha : Bal E a s da) (hb : Bal E b t db) (hc : Bal E c u dc) (hd : (db ≤ dc + 1 ∧ dc ≤ db + 1) ∧ da ≤ 1 + max db dc + 1 ∧ 1 + max db dc ≤ da + 1) (hlen : s.length + (t.length + u.length) ≤ 1152921504606846976) (hroom : E.length + 2 ≤ most) (hE : E.length + 2 ≤ 1048576) :
    Calls Try.prog 101 #[.pointer (some ⟨B, 0, none⟩), .int .i64 a, .int .i64 b, .int .i64 c] W (JoP n0 B most 2 (1 + max da (1 + max db dc)) (1 + max da (1 + max db dc)) E W (s ++ (t ++ u))) := by
  have H1 := Lib.hid (pairB_any hs hwf hb hc hd.1 (by omega) (by omega) (by omega))
  have HA := Lib.hid ha
  have HD := Lib.hid (And.intro hd.2 (And.intro hlen (And.intro hroom hE)))
  clear hs hwf ha hb hc hd hlen hroom hE
  go_enter Try.func101, Try.ntmps101
  go_wp2_with fail
  refine H1.out.mono ?_
  rintro e w1 ⟨E1, i1, d1, rfl, s1, f1, x1, n1, bl1, dd1, b1, k1⟩
  have H2 := Lib.hid (pairB_any s1 f1 (HA.out.ext x1) bl1 (by have := HD.out; omega) (by rw [List.length_append]; have := HD.out; omega) (by have := HD.out; omega) (by have := HD.out; omega))
  have HX := Lib.hid x1; have HN := Lib.hid n1; have HB := Lib.hid b1; have HK := Lib.hid k1; have HDD := Lib.hid dd1
  clear s1 f1 x1 n1 bl1 dd1 b1 k1 H1
  go_wp2_with fail
  refine H2.out.mono ?_
  intro e w2 hj
  obtain ⟨i2, rfl⟩ := hj.ret
  have HZ : Hid (JoP n0 B most 2 (1 + max da (1 + max db dc)) (1 + max da (1 + max db dc)) E W (s ++ (t ++ u)) (.returned (.tuple #[.int .i64 (i2 : Nat), .nilIface])) w2) := Lib.hid (hj.after rfl HX.out HN.out (by omega) (by have := HDD.out; omega) (by have := HDD.out; omega) HB.out HK.out)
  clear hj H2
  go_wp2_with fail
  go_ret2
  exact HZ.out
set_option maxRecDepth 100000 in
set_option maxHeartbeats 1000000 in
theorem four_any (hs : StAt n0 W B most E) (hwf : WfD E) {a b c d da db dc dd : Nat} {s t u v : List Nat} (ha : Bal E a s da) (hb : Bal E b t db) (hc : Bal E c u dc) (hd : Bal E d v dd) (hh : ((da ≤ db + 1 ∧ db ≤ da + 1) ∧ (dc ≤ dd + 1 ∧ dd ≤ dc + 1)) ∧ 1 + max da db ≤ 1 + max dc dd + 1 ∧ 1 + max dc dd ≤ 1 + max da db + 1) (hlen : s.length + t.length + (u.length + v.length) ≤ 1152921504606846976) (hroom : E.length + 3 ≤ most) (hE : E.length + 3 ≤ 1048576) :
    Calls Try.prog 102 #[.pointer (some ⟨B, 0, none⟩), .int .i64 a, .int .i64 b, .int .i64 c, .int .i64 d] W (JoP n0 B most 3 (1 + max (1 + max da db) (1 + max dc dd)) (1 + max (1 + max da db) (1 + max dc dd)) E W ((s ++ t) ++ (u ++ v))) := by
  have H1 := Lib.hid (pairB_any hs hwf ha hb hh.1.1 (by omega) (by omega) (by omega))
  have HC := Lib.hid (And.intro hc hd)
  have HD := Lib.hid (And.intro hh (And.intro hlen (And.intro hroom hE)))
  clear hs hwf ha hb hc hd hh hlen hroom hE
  go_enter Try.func102, Try.ntmps102
  go_wp2_with fail
  refine H1.out.mono ?_
  rintro e w1 ⟨E1, i1, d1, rfl, s1, f1, x1, n1, bl1, dd1, b1, k1⟩
  have H2 := Lib.hid (two_any s1 f1 bl1 (HC.out.1.ext x1) (HC.out.2.ext x1) (by have := HD.out; omega) (by rw [List.length_append]; have := HD.out; omega) (by have := HD.out; omega) (by have := HD.out; omega))
  have HX := Lib.hid x1; have HN := Lib.hid n1; have HB := Lib.hid b1; have HK := Lib.hid k1; have HDD := Lib.hid dd1
  clear s1 f1 x1 n1 bl1 dd1 b1 k1 H1
  go_wp2_with fail
  refine H2.out.mono ?_
  intro e w2 hj
  obtain ⟨i2, rfl⟩ := hj.ret
  have HZ : Hid (JoP n0 B most 3 (1 + max (1 + max da db) (1 + max dc dd)) (1 + max (1 + max da db) (1 + max dc dd)) E W ((s ++ t) ++ (u ++ v)) (.returned (.tuple #[.int .i64 (i2 : Nat), .nilIface])) w2) := Lib.hid (hj.after rfl HX.out HN.out (by omega) (by have := HDD.out; omega) (by have := HDD.out; omega) HB.out HK.out)
  clear hj H2
  go_wp2_with fail
  go_ret2
  exact HZ.out
set_option maxRecDepth 100000 in
set_option maxHeartbeats 2000000 in
theorem parts2_any (hs : StAt n0 W B most E) (hE : E.length ≤ 1048576) {i dl dr : Nat} {r : Ru} (h0 : 0 < i) (hi : i ≤ E.length) (hr : (entAt E i).ru = r) (hl : r.left ≤ E.length ∧ (entAt E r.left).depth = dl) (hrr : r.right ≤ E.length ∧ (entAt E r.right).depth = dr) :
    Calls Try.prog 98 #[.pointer (some ⟨B, 0, none⟩), .int .i64 i] W fun e w' => e = .returned (.tuple #[.int .i64 r.left, .int .i64 r.right, .int .i64 dl, .int .i64 dr, .nilIface]) ∧ Below W.heap.size W w' := by
  have HF : ∀ f, Fence.wide.fn f := fun _ => trivial
  have HR := Lib.hid (rule_any hs h0 hi hE)
  rw [hr] at HR
  have HDL : Hid (∀ w, Below W.heap.size W w → Calls Try.prog 92 #[.pointer (some ⟨B, 0, none⟩), .int .i64 r.left] w fun e w' => e = .returned (.tuple #[.int .i64 dl, .nilIface]) ∧ Below w.heap.size w w') := Lib.hid (fun w hw => by have := depth_any (hs.below hw) hl.1 hE; rwa [hl.2] at this)
  have HDR : Hid (∀ w, Below W.heap.size W w → Calls Try.prog 92 #[.pointer (some ⟨B, 0, none⟩), .int .i64 r.right] w fun e w' => e = .returned (.tuple #[.int .i64 dr, .nilIface]) ∧ Below w.heap.size w w') := Lib.hid (fun w hw => by have := depth_any (hs.below hw) hrr.1 hE; rwa [hrr.2] at this)
  clear hs hr hl hrr h0 hi
  unfold ruV at HR
  go_enter Try.func98, Try.ntmps98
  go_wp2_with fail
  refine HR.out.mono ?_; rintro e w1 ⟨rfl, b1⟩
  obtain ⟨wz, w2, hz, hs1, kr, br, ⟨r0, r1, r2, r3, r4⟩, e0, e1, e2, e3, e4⟩ := newRu w1 r
  obtain ⟨gc, hgc⟩ : ∃ g, w1.heap.size = g := ⟨_, rfl⟩
  rw [hgc] at hs1 kr r0 r1 r2 r3 r4 e0 e1 e2 e3 e4
  obtain ⟨y0, y1, y2, y3, y4⟩ := kr.cells
  have HB2 := Lib.hid (Below.after b1 br); have KR := Lib.hid kr
  clear b1 kr br
  go_wp2_with fail
  clear hz hs1 r0 r1 r2 r3 r4 e0 e1 e2 e3 e4 y0 y1 y2 y3 y4 hgc
  refine (HDL.out w2 HB2.out).mono ?_; rintro e w3 ⟨rfl, b3⟩
  have HB3 := Lib.hid (Below.after HB2.out b3)
  have KR3 := Lib.hid (show RuC w3 gc r from below_block b3 KR.out)
  obtain ⟨y0, y1, y2, y3, y4⟩ := KR3.out.cells
  clear b3
  go_wp2_with fail
  clear y0 y1 y2 y3 y4
  refine (HDR.out w3 HB3.out).mono ?_; rintro e w4 ⟨rfl, b4⟩
  have HB4 := Lib.hid (Below.after HB3.out b4)
  have KR4 := Lib.hid (show RuC w4 gc r from below_block b4 KR3.out)
  have m2 : ∀ w, Below w4.heap.size w4 w → w.cell? ⟨gc, 2, none⟩ = some (.int .i64 r.left) := fun w hw => (RuC.cells (below_block hw KR4.out)).2.2.1
  have m3 : ∀ w, Below w4.heap.size w4 w → w.cell? ⟨gc, 3, none⟩ = some (.int .i64 r.right) := fun w hw => (RuC.cells (below_block hw KR4.out)).2.2.2.1
  clear b4
  go_wp2_with fail
  refine wp_region_anyH (Below w4.heap.size w4) (by kernel_rfl) ?_
  have S0 : Below w4.heap.size w4 w4.drew := (Below.refl _ _).drew
  refine AnyH.take (i := 0) (d := some 39) (v := ?_) (by kernel_rfl) rfl rfl HF (fun _ _ _ h => h) (.inl ⟨by rfl, ?_⟩) (by first | assumption | rfl) ?_
  rotate_left
  · intro w hS; try subst hS
    go_simp; try with_reducible rfl
  try simp only [Act.put, List.setIfInBounds_toArray, List.set_cons_zero, List.set_cons_succ]
  refine AnyH.take (i := 1) (d := some 40) (v := ?_) (by kernel_rfl) rfl rfl HF (fun _ _ _ h => h) (.inl ⟨by rfl, ?_⟩) (by first | assumption | rfl) ?_
  rotate_left
  · intro w hS; try subst hS
    go_simp; try with_reducible rfl
  try simp only [Act.put, List.setIfInBounds_toArray, List.set_cons_zero, List.set_cons_succ]
  refine AnyH.take (i := 2) (d := some 41) (v := ?_) (by kernel_rfl) rfl rfl HF (fun _ _ _ h => h) (.inl ⟨by rfl, ?_⟩) (by first | assumption | rfl) ?_
  rotate_left
  · intro w hS; try subst hS
    go_simp; try with_reducible rfl
  try simp only [Act.put, List.setIfInBounds_toArray, List.set_cons_zero, List.set_cons_succ]
  refine AnyH.take (i := 3) (d := some 42) (v := ?_) (by kernel_rfl) rfl rfl HF (fun _ _ _ h => h) (.inl ⟨by rfl, ?_⟩) (by first | assumption | rfl) ?_
  rotate_left
  · intro w hS; try subst hS
    go_simp; try with_reducible rfl
  try simp only [Act.put, List.setIfInBounds_toArray, List.set_cons_zero, List.set_cons_succ]
  refine AnyH.take (i := 4) (d := some 43) (v := ?_) (by kernel_rfl) rfl rfl HF (fun _ _ _ h => h) (.inl ⟨by rfl, ?_⟩) (by first | assumption | rfl) ?_
  rotate_left
  · intro w hS; try subst hS
    go_simp; try with_reducible rfl
  try simp only [Act.put, List.setIfInBounds_toArray, List.set_cons_zero, List.set_cons_succ]
  refine AnyH.take (i := 5) (d := some 44) (v := ?_) (by kernel_rfl) rfl rfl HF (fun _ _ _ h => h) (.inl ⟨by rfl, ?_⟩) (by first | assumption | rfl) ?_
  rotate_left
  · intro w hS; try subst hS
    go_simp; try with_reducible rfl
  try simp only [Act.put, List.setIfInBounds_toArray, List.set_cons_zero, List.set_cons_succ]
  refine AnyH.take (i := 6) (d := some 4) (v := ?_) (by kernel_rfl) rfl rfl HF (fun _ _ _ h => h) (.inl ⟨by rfl, ?_⟩) (by first | assumption | rfl) ?_
  rotate_left
  · intro w hS; try subst hS
    go_simp; try with_reducible rfl
  try simp only [Act.put, List.setIfInBounds_toArray, List.set_cons_zero, List.set_cons_succ]
  refine AnyH.take (i := 7) (d := some 5) (v := ?_) (by kernel_rfl) rfl rfl HF (fun _ _ _ h => h) (.inl ⟨by rfl, ?_⟩) (by first | assumption | rfl) ?_
  rotate_left
  · intro w hS; try subst hS
    go_simp; try with_reducible rfl
  try simp only [Act.put, List.setIfInBounds_toArray, List.set_cons_zero, List.set_cons_succ]
  refine AnyH.take (i := 8) (d := some 6) (v := ?_) (by kernel_rfl) rfl rfl HF (fun _ _ _ h => h) (.inl ⟨by rfl, ?_⟩) (by first | assumption | rfl) ?_
  rotate_left
  · intro w hS; try subst hS
    go_simp; try with_reducible rfl
  try simp only [Act.put, List.setIfInBounds_toArray, List.set_cons_zero, List.set_cons_succ]
  refine AnyH.take (i := 9) (d := some 7) (v := ?_) (by kernel_rfl) rfl rfl HF (fun _ _ _ h => h) (.inl ⟨by rfl, ?_⟩) (by first | assumption | rfl) ?_
  rotate_left
  · intro w hS; try subst hS
    go_simp; try with_reducible rfl
  try simp only [Act.put, List.setIfInBounds_toArray, List.set_cons_zero, List.set_cons_succ]
  refine AnyH.take (i := 10) (d := some 8) (v := ?_) (by kernel_rfl) rfl rfl HF (fun _ _ _ h => h) (.inl ⟨by rfl, ?_⟩) (by first | assumption | rfl) ?_
  rotate_left
  · intro w hS; try subst hS
    go_simp; try with_reducible rfl
  try simp only [Act.put, List.setIfInBounds_toArray, List.set_cons_zero, List.set_cons_succ]
  refine AnyH.done (by kernel_rfl) ?_
  clear m2 m3
  go_wp2_with fail
  exact bodyPost_ret (v := .tuple #[.int .i64 r.left, .int .i64 r.right, .int .i64 dl, .int .i64 dr, .nilIface]) (by simp [results, Try.results98, go_sem]) rfl ⟨rfl, Below.after HB4.out S0⟩
theorem parts_bal (hs : StAt n0 W B most E) (hwf : WfD E) (hE : E.length ≤ 1048576) {i d : Nat} {t : List Nat} (h : Bal E i t d) (hd : 0 < d) :
    ∃ l r s1 t1 d1 d2, Bal E l s1 d1 ∧ Bal E r t1 d2 ∧ t = s1 ++ t1 ∧ (d = 1 + max d1 d2 ∧ d1 ≤ d2 + 1 ∧ d2 ≤ d1 + 1) ∧ ∀ w, StAt n0 w B most E →
    Calls Try.prog 98 #[.pointer (some ⟨B, 0, none⟩), .int .i64 i] w fun e w' => e = .returned (.tuple #[.int .i64 l, .int .i64 r, .int .i64 d1, .int .i64 d2, .nilIface]) ∧ Below w.heap.size w w' := by
  obtain ⟨l, r, s1, t1, d1, d2, e, hl, hr, ht, hdd⟩ := h.split hwf hd
  exact ⟨l, r, s1, t1, d1, d2, hl, hr, ht, hdd, fun w hw => parts2_any hw hE h.pos h.le e ⟨hl.le, hl.depth⟩ ⟨hr.le, hr.depth⟩⟩
theorem depthB_any (hs : StAt n0 W B most E) (hE : E.length ≤ 1048576) {i d : Nat} {t : List Nat} (h : Bal E i t d) : Calls Try.prog 92 #[.pointer (some ⟨B, 0, none⟩), .int .i64 i] W fun e w' => e = .returned (.tuple #[.int .i64 d, .nilIface]) ∧ Below W.heap.size W w' := by
  have := depth_any hs h.le hE
  rwa [h.depth] at this
/-- The depth of two texts that are joined. -/
def loJ (da db : Nat) : Nat := if da ≤ db + 1 ∧ db ≤ da + 1 then 1 + max da db else max da db
set_option maxRecDepth 100000 in
set_option maxHeartbeats 4000000 in
theorem level_any (hs : StAt n0 W B most E) (hwf : WfD E) {a b da db : Nat} {s t : List Nat} (ha : Bal E a s da) (hb : Bal E b t db) (hd : da ≤ db + 2 ∧ db ≤ da + 2) (hlen : s.length + t.length ≤ 1152921504606846976) (hroom : E.length + 3 ≤ most) (hE : E.length + 3 ≤ 1048576) :
    Calls Try.prog 99 #[.pointer (some ⟨B, 0, none⟩), .int .i64 a, .int .i64 b] W (JoP n0 B most 3 (loJ da db) (1 + max da db) E W (s ++ t)) := by
  have h86a := ha.deep hwf
  have h86b := hb.deep hwf
  have hn0 := hs.lt
  have HDA := Lib.hid (depthB_any hs (by omega) ha)
  have HDB : Hid (∀ w, Below W.heap.size W w → Calls Try.prog 92 #[.pointer (some ⟨B, 0, none⟩), .int .i64 b] w fun e w' => e = .returned (.tuple #[.int .i64 db, .nilIface]) ∧ Below w.heap.size w w') := Lib.hid (fun w hw => depthB_any (hs.below hw) (by omega) hb)
  have w1 : IntKind.i64.wrap ((db : Int) + 1) = (db : Int) + 1 := by rw [IntKind.wrap_i64]; omega
  have w2 : IntKind.i64.wrap ((da : Int) + 1) = (da : Int) + 1 := by rw [IntKind.wrap_i64]; omega
  have HWF := Lib.hid hwf; have HS := Lib.hid hs; have HN0 := Lib.hid hn0
  have HNN : Hid (s.length + t.length ≤ 1152921504606846976 ∧ E.length + 3 ≤ most ∧ E.length + 3 ≤ 1048576) := Lib.hid ⟨hlen, hroom, hE⟩
  have HA := Lib.hid ha; have HB' := Lib.hid hb
  by_cases hab : db + 1 < da
  · obtain ⟨l, r, s1, t1, d1, d2, hl, hr, rfl, hdd, HP⟩ := parts_bal hs hwf (by omega) ha (by omega)
    have HP := Lib.hid HP
    have HL := Lib.hid hl; have HR := Lib.hid hr
    have g1 : (da : Int) > (db : Int) + 1 := by omega
    have HHD : Hid (da = db + 2 ∧ (da = 1 + max d1 d2 ∧ d1 ≤ d2 + 1 ∧ d2 ≤ d1 + 1)) := Lib.hid ⟨by omega, hdd⟩
    have HLO : Hid (loJ da db = da) := Lib.hid (by unfold loJ; rw [if_neg (by omega)]; omega)
    by_cases hge : d2 ≤ d1
    · have g2 : (d1 : Int) ≥ (d2 : Int) := by omega
      have HG := Lib.hid hge
      clear hs hwf ha hb hd hlen hroom hE h86a h86b hn0 hl hr hdd hge
      go_enter Try.func99, Try.ntmps99
      go_wp2_with fail
      refine HDA.out.mono ?_; rintro e v1 ⟨rfl, b1⟩
      have HB1 := Lib.hid b1; clear b1
      go_wp2_with fail
      refine (HDB.out v1 HB1.out).mono ?_; rintro e v2 ⟨rfl, b2⟩
      have HB2 := Lib.hid (Below.after HB1.out b2); clear b2
      go_wp2_with fail
      refine (HP.out v2 (HS.out.below HB2.out)).mono ?_; rintro e v3 ⟨rfl, b3⟩
      have HB3 := Lib.hid (Below.after HB2.out b3); clear b3
      go_wp2_with fail
      have hnn := HNN.out; have hhd := HHD.out; have hg := HG.out
      rw [List.length_append] at hnn
      refine (two_any (HS.out.below HB3.out) HWF.out HL.out HR.out HB'.out (by omega) (by omega) (by omega) (by omega)).mono ?_
      intro e v4 hj
      obtain ⟨i2, rfl⟩ := hj.ret
      have HZ : Hid (JoP n0 B most 3 (loJ da db) (1 + max da db) E W ((s1 ++ t1) ++ t) (.returned (.tuple #[.int .i64 (i2 : Nat), .nilIface])) v4) := Lib.hid (hj.read (by rw [List.append_assoc]) (by omega) (by rw [HLO.out]; omega) (by omega) HB3.out HN0.out)
      clear hj hnn hhd hg
      go_wp2_with fail
      go_ret2
      exact HZ.out
    · have g2 : ¬ (d1 : Int) ≥ (d2 : Int) := by omega
      have g3 : (d1 : Int) < (d2 : Int) := by omega
      have HG := Lib.hid hge
      obtain ⟨x, y, s2, t2, d3, d4, hx, hy, rfl, hdd2, HP2⟩ := parts_bal hs hwf (by omega) hr (by omega)
      have HP2 := Lib.hid HP2
      have HX := Lib.hid hx; have HY := Lib.hid hy; have HDD2 := Lib.hid hdd2
      clear hs hwf ha hb hd hlen hroom hE h86a h86b hn0 hl hr hdd hge hx hy hdd2
      go_enter Try.func99, Try.ntmps99
      go_wp2_with fail
      refine HDA.out.mono ?_; rintro e v1 ⟨rfl, b1⟩
      have HB1 := Lib.hid b1; clear b1
      go_wp2_with fail
      refine (HDB.out v1 HB1.out).mono ?_; rintro e v2 ⟨rfl, b2⟩
      have HB2 := Lib.hid (Below.after HB1.out b2); clear b2
      go_wp2_with fail
      refine (HP.out v2 (HS.out.below HB2.out)).mono ?_; rintro e v3 ⟨rfl, b3⟩
      have HB3 := Lib.hid (Below.after HB2.out b3); clear b3
      go_wp2_with fail
      refine (HP2.out v3 (HS.out.below HB3.out)).mono ?_; rintro e v4 ⟨rfl, b4⟩
      have HB4 := Lib.hid (Below.after HB3.out b4); clear b4
      go_wp2_with fail
      have hnn := HNN.out; have hhd := HHD.out; have hg := HG.out; have hh2 := HDD2.out
      rw [List.length_append, List.length_append] at hnn
      refine (four_any (HS.out.below HB4.out) HWF.out HL.out HX.out HY.out HB'.out (by omega) (by omega) (by omega) (by omega)).mono ?_
      intro e v5 hj
      obtain ⟨i2, rfl⟩ := hj.ret
      have HZ : Hid (JoP n0 B most 3 (loJ da db) (1 + max da db) E W ((s1 ++ (s2 ++ t2)) ++ t) (.returned (.tuple #[.int .i64 (i2 : Nat), .nilIface])) v5) := Lib.hid (hj.read (by simp) (by omega) (by rw [HLO.out]; omega) (by omega) HB4.out HN0.out)
      clear hj hnn hhd hg hh2
      go_wp2_with fail
      go_ret2
      exact HZ.out
  · have g1 : ¬ (da : Int) > (db : Int) + 1 := by omega
    have g1' : ¬ (db : Int) + 1 < (da : Int) := by omega
    by_cases hba : da + 1 < db
    · obtain ⟨l, r, s1, t1, d1, d2, hl, hr, rfl, hdd, HP⟩ := parts_bal hs hwf (by omega) hb (by omega)
      have HP := Lib.hid HP
      have HL := Lib.hid hl; have HR := Lib.hid hr
      have g2 : (db : Int) > (da : Int) + 1 := by omega
      have HHD : Hid (db = da + 2 ∧ (db = 1 + max d1 d2 ∧ d1 ≤ d2 + 1 ∧ d2 ≤ d1 + 1)) := Lib.hid ⟨by omega, hdd⟩
      have HLO : Hid (loJ da db = db) := Lib.hid (by unfold loJ; rw [if_neg (by omega)]; omega)
      by_cases hge : d2 < d1
      · have g3 : (d2 : Int) < (d1 : Int) := by omega
        have HG := Lib.hid hge
        obtain ⟨x, y, s2, t2, d3, d4, hx, hy, rfl, hdd2, HP2⟩ := parts_bal hs hwf (by omega) hl (by omega)
        have HP2 := Lib.hid HP2
        have HX := Lib.hid hx; have HY := Lib.hid hy; have HDD2 := Lib.hid hdd2
        clear hs hwf ha hb hd hlen hroom hE h86a h86b hn0 hl hr hdd hge hx hy hdd2 hab hba
        go_enter Try.func99, Try.ntmps99
        go_wp2_with fail
        refine HDA.out.mono ?_; rintro e v1 ⟨rfl, b1⟩
        have HB1 := Lib.hid b1; clear b1
        go_wp2_with fail
        refine (HDB.out v1 HB1.out).mono ?_; rintro e v2 ⟨rfl, b2⟩
        have HB2 := Lib.hid (Below.after HB1.out b2); clear b2
        go_wp2_with fail
        refine (HP.out v2 (HS.out.below HB2.out)).mono ?_; rintro e v3 ⟨rfl, b3⟩
        have HB3 := Lib.hid (Below.after HB2.out b3); clear b3
        go_wp2_with fail
        refine (HP2.out v3 (HS.out.below HB3.out)).mono ?_; rintro e v4 ⟨rfl, b4⟩
        have HB4 := Lib.hid (Below.after HB3.out b4); clear b4
        go_wp2_with fail
        have hnn := HNN.out; have hhd := HHD.out; have hg := HG.out; have hh2 := HDD2.out
        rw [List.length_append, List.length_append] at hnn
        refine (four_any (HS.out.below HB4.out) HWF.out HA.out HX.out HY.out HR.out (by omega) (by omega) (by omega) (by omega)).mono ?_
        intro e v5 hj
        obtain ⟨i2, rfl⟩ := hj.ret
        have HZ : Hid (JoP n0 B most 3 (loJ da db) (1 + max da db) E W (s ++ ((s2 ++ t2) ++ t1)) (.returned (.tuple #[.int .i64 (i2 : Nat), .nilIface])) v5) := Lib.hid (hj.read (by simp) (by omega) (by rw [HLO.out]; omega) (by omega) HB4.out HN0.out)
        clear hj hnn hhd hg hh2
        go_wp2_with fail
        go_ret2
        exact HZ.out
      · have g3 : ¬ (d2 : Int) < (d1 : Int) := by omega
        have HG := Lib.hid hge
        clear hs hwf ha hb hd hlen hroom hE h86a h86b hn0 hl hr hdd hge hab hba
        go_enter Try.func99, Try.ntmps99
        go_wp2_with fail
        refine HDA.out.mono ?_; rintro e v1 ⟨rfl, b1⟩
        have HB1 := Lib.hid b1; clear b1
        go_wp2_with fail
        refine (HDB.out v1 HB1.out).mono ?_; rintro e v2 ⟨rfl, b2⟩
        have HB2 := Lib.hid (Below.after HB1.out b2); clear b2
        go_wp2_with fail
        refine (HP.out v2 (HS.out.below HB2.out)).mono ?_; rintro e v3 ⟨rfl, b3⟩
        have HB3 := Lib.hid (Below.after HB2.out b3); clear b3
        have hnn := HNN.out; have hhd := HHD.out; have hg := HG.out
        rw [List.length_append] at hnn
        have HQ := Lib.hid (pairB_any (HS.out.below HB3.out) HWF.out HA.out HL.out (by omega) (by omega) (by omega) (by omega))
        clear hnn hhd hg
        go_wp2_with fail
        refine HQ.out.mono ?_
        rintro e v4 ⟨E1, i1, d5, rfl, s4, f4, x4, n4, bl4, dd4, b4, k4⟩
        have hnn := HNN.out; have hhd := HHD.out; have hg := HG.out
        rw [List.length_append] at hnn
        have HQ2 := Lib.hid (pairB_any s4 f4 bl4 (HR.out.ext x4) (by omega) (by rw [List.length_append]; omega) (by omega) (by omega))
        have HX := Lib.hid x4; have HN := Lib.hid n4; have HB4 := Lib.hid b4; have HK := Lib.hid k4; have HDD := Lib.hid dd4
        clear hnn hhd hg s4 f4 x4 n4 bl4 dd4 b4 k4 HQ
        go_wp2_with fail
        refine HQ2.out.mono ?_
        intro e v5 hj
        obtain ⟨i2, rfl⟩ := hj.ret
        have HZ : Hid (JoP n0 B most 3 (loJ da db) (1 + max da db) E W (s ++ (s1 ++ t1)) (.returned (.tuple #[.int .i64 (i2 : Nat), .nilIface])) v5) := Lib.hid (by
          have hhd := HHD.out; have hg := HG.out; have h5 := HDD.out
          exact hj.after (by simp) HX.out HN.out (by omega) (by rw [HLO.out]; omega) (by omega) ((HB3.out.mono HN0.out).trans HB4.out) ((Kt.of HB3.out).trans HK.out))
        clear hj
        go_wp2_with fail
        go_ret2
        exact HZ.out
    · have g2 : ¬ (db : Int) > (da : Int) + 1 := by omega
      have g2' : ¬ (da : Int) + 1 < (db : Int) := by omega
      have HLO : Hid (loJ da db = 1 + max da db) := Lib.hid (by unfold loJ; rw [if_pos (by omega)])
      have HAB : Hid (da ≤ db + 1 ∧ db ≤ da + 1) := Lib.hid (by omega)
      clear hs hwf ha hb hd hlen hroom hE h86a h86b hn0 hab hba
      go_enter Try.func99, Try.ntmps99
      go_wp2_with fail
      refine HDA.out.mono ?_; rintro e v1 ⟨rfl, b1⟩
      have HB1 := Lib.hid b1; clear b1
      go_wp2_with fail
      refine (HDB.out v1 HB1.out).mono ?_; rintro e v2 ⟨rfl, b2⟩
      have HB2 := Lib.hid (Below.after HB1.out b2); clear b2
      have hnn := HNN.out
      have HQ := Lib.hid (pairB_any (HS.out.below HB2.out) HWF.out HA.out HB'.out HAB.out (by omega) (by omega) (by omega))
      clear hnn
      go_wp2_with fail
      refine HQ.out.mono ?_
      intro e v5 hj
      obtain ⟨i2, rfl⟩ := hj.ret
      have HZ : Hid (JoP n0 B most 3 (loJ da db) (1 + max da db) E W (s ++ t) (.returned (.tuple #[.int .i64 (i2 : Nat), .nilIface])) v5) := Lib.hid (hj.read rfl (by omega) (by rw [HLO.out]; omega) (by omega) HB2.out HN0.out)
      clear hj
      go_wp2_with fail
      go_ret2
      exact HZ.out
end
/-- How many rules a join makes at most. -/
def joK (da db : Nat) : Nat := 3 * ((da - db) + (db - da)) + 1
set_option maxRecDepth 100000 in
set_option maxHeartbeats 4000000 in
theorem avlj_any : ∀ (m : Nat) {n0 B most : Nat} {W : World} {E : List En} {a b da db : Nat} {s t : List Nat}, da + db = m → StAt n0 W B most E → WfD E → Bal E a s da → Bal E b t db → s.length + t.length ≤ 1152921504606846976 → E.length + joK da db ≤ most → E.length + joK da db ≤ 1048576 →
    Calls Try.prog 94 #[.pointer (some ⟨B, 0, none⟩), .int .i64 a, .int .i64 b] W (JoP n0 B most (joK da db) (max da db) (1 + max da db) E W (s ++ t)) := by
  intro m
  induction m using Nat.strongRecOn with
  | _ m ih =>
  intro n0 B most W E a b da db s t hm hs hwf ha hb hlen hroom hE
  have h86a := ha.deep hwf
  have h86b := hb.deep hwf
  have hn0 := hs.lt
  have hE' : E.length ≤ 1048576 := by omega
  have HDA := Lib.hid (depthB_any hs hE' ha)
  have HDB : Hid (∀ w, Below W.heap.size W w → Calls Try.prog 92 #[.pointer (some ⟨B, 0, none⟩), .int .i64 b] w fun e w' => e = .returned (.tuple #[.int .i64 db, .nilIface]) ∧ Below w.heap.size w w') := Lib.hid (fun w hw => depthB_any (hs.below hw) hE' hb)
  have w1 : IntKind.i64.wrap ((db : Int) + 1) = (db : Int) + 1 := by rw [IntKind.wrap_i64]; omega
  have w2 : IntKind.i64.wrap ((da : Int) + 1) = (da : Int) + 1 := by rw [IntKind.wrap_i64]; omega
  have HWF := Lib.hid hwf; have HS := Lib.hid hs; have HN0 := Lib.hid hn0
  have HNN : Hid (s.length + t.length ≤ 1152921504606846976 ∧ E.length + (3 * ((da - db) + (db - da)) + 1) ≤ most ∧ E.length + (3 * ((da - db) + (db - da)) + 1) ≤ 1048576) := Lib.hid ⟨hlen, hroom, hE⟩
  have HA := Lib.hid ha; have HB' := Lib.hid hb; have HM := Lib.hid hm
  have IH := Lib.hid ih
  by_cases hab : db + 1 < da
  · obtain ⟨l, r, s1, t1, d1, d2, hl, hr, rfl, hdd, HP⟩ := parts_bal hs hwf hE' ha (by omega)
    have HP := Lib.hid HP
    have HL := Lib.hid hl; have HR := Lib.hid hr
    have g1 : (da : Int) > (db : Int) + 1 := by omega
    have HHD : Hid (db + 1 < da ∧ (da = 1 + max d1 d2 ∧ d1 ≤ d2 + 1 ∧ d2 ≤ d1 + 1)) := Lib.hid ⟨by omega, hdd⟩
    clear hs hwf ha hb hlen hroom hE h86a h86b hn0 hl hr hdd hm ih
    go_enter Try.func94, Try.ntmps94
    go_wp2_with fail
    refine HDA.out.mono ?_; rintro e v1 ⟨rfl, b1⟩
    have HB1 := Lib.hid b1; clear b1
    go_wp2_with fail
    refine (HDB.out v1 HB1.out).mono ?_; rintro e v2 ⟨rfl, b2⟩
    have HB2 := Lib.hid (Below.after HB1.out b2); clear b2
    go_wp2_with fail
    refine (HP.out v2 (HS.out.below HB2.out)).mono ?_; rintro e v3 ⟨rfl, b3⟩
    have HB3 := Lib.hid (Below.after HB2.out b3); clear b3
    have HQ : Hid (Calls Try.prog 94 #[.pointer (some ⟨B, 0, none⟩), .int .i64 r, .int .i64 b] v3 (JoP n0 B most (joK d2 db) (max d2 db) (1 + max d2 db) E v3 (t1 ++ t))) := Lib.hid (by
      have hnn := HNN.out; have hhd := HHD.out; have hm := HM.out
      rw [List.length_append] at hnn
      exact IH.out (d2 + db) (by omega) rfl (HS.out.below HB3.out) HWF.out HR.out HB'.out (by omega) (by unfold joK; omega) (by unfold joK; omega))
    go_wp2_with fail
    refine HQ.out.mono ?_
    rintro e v4 ⟨E1, i1, d5, rfl, s4, f4, x4, n4, bl4, dd4, b4, k4⟩
    have HQ2 : Hid (Calls Try.prog 99 #[.pointer (some ⟨B, 0, none⟩), .int .i64 l, .int .i64 i1] v4 (JoP n0 B most 3 (loJ d1 d5) (1 + max d1 d5) E1 v4 (s1 ++ (t1 ++ t)))) := Lib.hid (by
      have hnn := HNN.out; have hhd := HHD.out
      rw [List.length_append] at hnn
      unfold joK at n4
      exact level_any s4 f4 (HL.out.ext x4) bl4 (by omega) (by rw [List.length_append]; omega) (by omega) (by omega))
    have HX := Lib.hid x4; have HN := Lib.hid n4; have HB4 := Lib.hid b4; have HK := Lib.hid k4; have HDD := Lib.hid dd4
    clear s4 f4 x4 n4 bl4 dd4 b4 k4 HQ
    go_wp2_with fail
    refine HQ2.out.mono ?_
    intro e v5 hj
    obtain ⟨i2, rfl⟩ := hj.ret
    have HZ : Hid (JoP n0 B most (joK da db) (max da db) (1 + max da db) E W ((s1 ++ t1) ++ t) (.returned (.tuple #[.int .i64 (i2 : Nat), .nilIface])) v5) := Lib.hid (by
      have hhd := HHD.out; have h5 := HDD.out
      exact hj.after (by simp) HX.out HN.out (by unfold joK; omega) (by unfold loJ; split <;> omega) (by omega) ((HB3.out.mono HN0.out).trans HB4.out) ((Kt.of HB3.out).trans HK.out))
    clear hj
    go_wp2_with fail
    go_ret2
    exact HZ.out
  · have g1 : ¬ (da : Int) > (db : Int) + 1 := by omega
    have g1' : ¬ (db : Int) + 1 < (da : Int) := by omega
    by_cases hba : da + 1 < db
    · obtain ⟨l, r, s1, t1, d1, d2, hl, hr, rfl, hdd, HP⟩ := parts_bal hs hwf hE' hb (by omega)
      have HP := Lib.hid HP
      have HL := Lib.hid hl; have HR := Lib.hid hr
      have g2 : (db : Int) > (da : Int) + 1 := by omega
      have HHD : Hid (da + 1 < db ∧ (db = 1 + max d1 d2 ∧ d1 ≤ d2 + 1 ∧ d2 ≤ d1 + 1)) := Lib.hid ⟨by omega, hdd⟩
      clear hs hwf ha hb hlen hroom hE h86a h86b hn0 hl hr hdd hm ih hab
      go_enter Try.func94, Try.ntmps94
      go_wp2_with fail
      refine HDA.out.mono ?_; rintro e v1 ⟨rfl, b1⟩
      have HB1 := Lib.hid b1; clear b1
      go_wp2_with fail
      refine (HDB.out v1 HB1.out).mono ?_; rintro e v2 ⟨rfl, b2⟩
      have HB2 := Lib.hid (Below.after HB1.out b2); clear b2
      go_wp2_with fail
      refine (HP.out v2 (HS.out.below HB2.out)).mono ?_; rintro e v3 ⟨rfl, b3⟩
      have HB3 := Lib.hid (Below.after HB2.out b3); clear b3
      have HQ : Hid (Calls Try.prog 94 #[.pointer (some ⟨B, 0, none⟩), .int .i64 a, .int .i64 l] v3 (JoP n0 B most (joK da d1) (max da d1) (1 + max da d1) E v3 (s ++ s1))) := Lib.hid (by
        have hnn := HNN.out; have hhd := HHD.out; have hm := HM.out
        rw [List.length_append] at hnn
        exact IH.out (da + d1) (by omega) rfl (HS.out.below HB3.out) HWF.out HA.out HL.out (by omega) (by unfold joK; omega) (by unfold joK; omega))
      go_wp2_with fail
      refine HQ.out.mono ?_
      rintro e v4 ⟨E1, i1, d5, rfl, s4, f4, x4, n4, bl4, dd4, b4, k4⟩
      have HQ2 : Hid (Calls Try.prog 99 #[.pointer (some ⟨B, 0, none⟩), .int .i64 i1, .int .i64 r] v4 (JoP n0 B most 3 (loJ d5 d2) (1 + max d5 d2) E1 v4 ((s ++ s1) ++ t1))) := Lib.hid (by
        have hnn := HNN.out; have hhd := HHD.out
        rw [List.length_append] at hnn
        unfold joK at n4
        exact level_any s4 f4 bl4 (HR.out.ext x4) (by omega) (by rw [List.length_append]; omega) (by omega) (by omega))
      have HX := Lib.hid x4; have HN := Lib.hid n4; have HB4 := Lib.hid b4; have HK := Lib.hid k4; have HDD := Lib.hid dd4
      clear s4 f4 x4 n4 bl4 dd4 b4 k4 HQ
      go_wp2_with fail
      refine HQ2.out.mono ?_
      intro e v5 hj
      obtain ⟨i2, rfl⟩ := hj.ret
      have HZ : Hid (JoP n0 B most (joK da db) (max da db) (1 + max da db) E W (s ++ (s1 ++ t1)) (.returned (.tuple #[.int .i64 (i2 : Nat), .nilIface])) v5) := Lib.hid (by
        have hhd := HHD.out; have h5 := HDD.out
        exact hj.after (by simp) HX.out HN.out (by unfold joK; omega) (by unfold loJ; split <;> omega) (by omega) ((HB3.out.mono HN0.out).trans HB4.out) ((Kt.of HB3.out).trans HK.out))
      clear hj
      go_wp2_with fail
      go_ret2
      exact HZ.out
    · have g2 : ¬ (db : Int) > (da : Int) + 1 := by omega
      have g2' : ¬ (da : Int) + 1 < (db : Int) := by omega
      have HAB : Hid (da ≤ db + 1 ∧ db ≤ da + 1) := Lib.hid (by omega)
      clear hs hwf ha hb hlen hroom hE h86a h86b hn0 hm ih hab hba
      go_enter Try.func94, Try.ntmps94
      go_wp2_with fail
      refine HDA.out.mono ?_; rintro e v1 ⟨rfl, b1⟩
      have HB1 := Lib.hid b1; clear b1
      go_wp2_with fail
      refine (HDB.out v1 HB1.out).mono ?_; rintro e v2 ⟨rfl, b2⟩
      have HB2 := Lib.hid (Below.after HB1.out b2); clear b2
      have hnn := HNN.out
      have HQ := Lib.hid (pairB_any (HS.out.below HB2.out) HWF.out HA.out HB'.out HAB.out (by omega) (by omega) (by omega))
      clear hnn
      go_wp2_with fail
      refine HQ.out.mono ?_
      intro e v5 hj
      obtain ⟨i2, rfl⟩ := hj.ret
      have HZ : Hid (JoP n0 B most (joK da db) (max da db) (1 + max da db) E W (s ++ t) (.returned (.tuple #[.int .i64 (i2 : Nat), .nilIface])) v5) := Lib.hid (hj.read rfl (by unfold joK; omega) (by omega) (by omega) HB2.out HN0.out)
      clear hj
      go_wp2_with fail
      go_ret2
      exact HZ.out
end M
end Go.Proofs.Ytplccefjljdjnaa
