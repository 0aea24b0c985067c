/- access.At. -/
import Derived.Test.YtplccefjljdjnaaSop
set_option linter.unusedVariables false
set_option linter.unusedSimpArgs false
namespace Go.Proofs.Ytplccefjljdjnaa
open Go.RowKit Go.Lib
namespace M
attribute [local go_sem] Oper.semAt_some
/-- A box into which a rule is laid. -/
theorem newRu (w : World) (r : Ru) : ∃ wz w2, w.alloc (.cells #[.int .i64 0, .int .u8 0, .int .i64 0, .int .i64 0, .int .i64 0] 111) = wz ∧
    ((((wz.setCell ⟨w.heap.size, 0, none⟩ (.int .i64 r.kind)).setCell ⟨w.heap.size, 1, none⟩ (.int .u8 r.letter)).setCell ⟨w.heap.size, 2, none⟩ (.int .i64 r.left)).setCell ⟨w.heap.size, 3, none⟩ (.int .i64 r.right)).setCell ⟨w.heap.size, 4, none⟩ (.int .i64 r.times) = w2 ∧
    RuC w2 w.heap.size r ∧ Below w.heap.size w w2 ∧ (wz.cell? ⟨w.heap.size, 0, none⟩ = some (.int .i64 0) ∧ wz.cell? ⟨w.heap.size, 1, none⟩ = some (.int .u8 0) ∧ wz.cell? ⟨w.heap.size, 2, none⟩ = some (.int .i64 0) ∧ wz.cell? ⟨w.heap.size, 3, none⟩ = some (.int .i64 0) ∧ wz.cell? ⟨w.heap.size, 4, none⟩ = some (.int .i64 0)) ∧
    (wz.frozen? ⟨w.heap.size, 0, none⟩ = false ∧ wz.frozen? ⟨w.heap.size, 1, none⟩ = false ∧ wz.frozen? ⟨w.heap.size, 2, none⟩ = false ∧ wz.frozen? ⟨w.heap.size, 3, none⟩ = false ∧ wz.frozen? ⟨w.heap.size, 4, none⟩ = false) := by
  have k0 : RuC (w.alloc (.cells #[.int .i64 0, .int .u8 0, .int .i64 0, .int .i64 0, .int .i64 0] 111)) w.heap.size ⟨0, 0, 0, 0, 0⟩ := heap_new' _ _
  have b0 : Below w.heap.size w (w.alloc (.cells #[.int .i64 0, .int .u8 0, .int .i64 0, .int .i64 0, .int .i64 0] 111)) := (Below.refl _ _).alloc (Nat.le_refl _) _
  exact ⟨_, _, rfl, rfl, k0.set r, ((((b0.setCell (p := ⟨w.heap.size, 0, none⟩) (Nat.le_refl _) _).setCell (p := ⟨w.heap.size, 1, none⟩) (Nat.le_refl _) _).setCell (p := ⟨w.heap.size, 2, none⟩) (Nat.le_refl _) _).setCell (p := ⟨w.heap.size, 3, none⟩) (Nat.le_refl _) _).setCell (p := ⟨w.heap.size, 4, none⟩) (Nat.le_refl _) _, k0.cells, k0.free 0, k0.free 1, k0.free 2, k0.free 3, k0.free 4⟩
/-- A box into which a weight is laid. -/
theorem newWt (w : World) (u : Wt) : ∃ wz w2, w.alloc (.cells #[.int .i64 0, .int .i64 0, .int .i64 0, .int .i64 0, .int .u64 0, .int .u64 0] 118) = wz ∧
    (((((wz.setCell ⟨w.heap.size, 0, none⟩ (.int .i64 u.len)).setCell ⟨w.heap.size, 1, none⟩ (.int .i64 u.lines)).setCell ⟨w.heap.size, 2, none⟩ (.int .i64 u.head)).setCell ⟨w.heap.size, 3, none⟩ (.int .i64 u.tail)).setCell ⟨w.heap.size, 4, none⟩ (.int .u64 u.d.v)).setCell ⟨w.heap.size, 5, none⟩ (.int .u64 u.d.s) = w2 ∧
    WtC w2 w.heap.size u ∧ Below w.heap.size w w2 ∧ (wz.cell? ⟨w.heap.size, 0, none⟩ = some (.int .i64 0) ∧ wz.cell? ⟨w.heap.size, 1, none⟩ = some (.int .i64 0) ∧ wz.cell? ⟨w.heap.size, 2, none⟩ = some (.int .i64 0) ∧ wz.cell? ⟨w.heap.size, 3, none⟩ = some (.int .i64 0) ∧ wz.cell? ⟨w.heap.size, 4, none⟩ = some (.int .u64 0) ∧ wz.cell? ⟨w.heap.size, 5, none⟩ = some (.int .u64 0)) ∧
    (wz.frozen? ⟨w.heap.size, 0, none⟩ = false ∧ wz.frozen? ⟨w.heap.size, 1, none⟩ = false ∧ wz.frozen? ⟨w.heap.size, 2, none⟩ = false ∧ wz.frozen? ⟨w.heap.size, 3, none⟩ = false ∧ wz.frozen? ⟨w.heap.size, 4, none⟩ = false ∧ wz.frozen? ⟨w.heap.size, 5, none⟩ = false) := by
  have k0 : WtC (w.alloc (.cells #[.int .i64 0, .int .i64 0, .int .i64 0, .int .i64 0, .int .u64 0, .int .u64 0] 118)) w.heap.size w0 := heap_new' _ _
  have b0 : Below w.heap.size w (w.alloc (.cells #[.int .i64 0, .int .i64 0, .int .i64 0, .int .i64 0, .int .u64 0, .int .u64 0] 118)) := (Below.refl _ _).alloc (Nat.le_refl _) _
  exact ⟨_, _, rfl, rfl, k0.set u, setW_below b0 (Nat.le_refl _) u, k0.cells, k0.free 0, k0.free 1, k0.free 2, k0.free 3, k0.free 4, k0.free 5⟩
set_option maxRecDepth 100000 in
set_option maxHeartbeats 1000000 in
theorem below_any (W : World) (r : Ru) {n a : Nat} (hn : 0 < n) (hnb : n ≤ 1152921504606846976) (hab : a ≤ 1152921504606846976) :
    Calls Try.prog 64 #[ruV r, .int .i64 n, .int .i64 a] W fun e w' => e = .returned (.tuple #[.int .i64 (belF r n a).1, .int .i64 (belF r n a).2]) ∧ Below W.heap.size W w' := by
  have HF : ∀ f, Fence.wide.fn f := fun _ => trivial
  unfold ruV
  obtain ⟨W1, hW1⟩ : ∃ w, W.alloc (.cells #[.int .i64 r.kind, .int .u8 r.letter, .int .i64 r.left, .int .i64 r.right, .int .i64 r.times] 111) = w := ⟨_, rfl⟩
  have k1 : RuC W1 W.heap.size r := by rw [← hW1]; exact RuC.new _ _
  have b1 : Below W.heap.size W W1 := by rw [← hW1]; exact (Below.refl _ _).alloc (Nat.le_refl _) _
  obtain ⟨c0, c1, c2, c3, c4⟩ := k1.cells
  have K1 := Lib.hid k1; have B1 := Lib.hid b1
  clear k1 b1
  by_cases h3 : r.kind = 3
  · have e : belF r n a = (r.left, a % n) := by unfold belF; rw [if_pos h3]
    rw [e]
    have h3i : ((r.kind : Int) == 3) = true := by simp; omega
    have hn0 : ((n : Int) == 0) = false := by simp; omega
    have hnz : ¬ n = 0 := by omega
    have hm : Int.tmod (a : Int) (n : Int) = ((a % n : Nat) : Int) := rfl
    obtain ⟨q, hq⟩ : ∃ q, a % n = q := ⟨_, rfl⟩
    have hqn : q < n := by rw [← hq]; exact Nat.mod_lt _ hn
    have hqw : IntKind.i64.wrap (q : Int) = (q : Int) := by rw [IntKind.wrap_i64]; omega
    rw [hq] at hm ⊢
    have m2 : ∀ w, Below W1.heap.size W1 w → w.cell? ⟨W.heap.size, 2, none⟩ = some (.int .i64 r.left) := fun w hw => (RuC.cells (below_block hw K1.out)).2.2.1
    clear h3 e hq
    go_enter Try.func64, Try.ntmps64
    go_wp2_with fail
    refine wp_region_anyH (Below W1.heap.size W1) (by kernel_rfl) ?_
    have S0 : Below W1.heap.size W1 W1.drew := (Below.refl _ _).drew
    refine AnyH.take (i := 0) (d := some 12) (v := ?_) (by kernel_rfl) rfl rfl HF (fun _ _ _ h => h) (.inl ⟨by rfl, ?_⟩) (by first | assumption | rfl) ?_
    rotate_left
    · intro w hS; try subst hS
      go_simp; try with_reducible rfl
    try simp only [Act.put, List.setIfInBounds_toArray, List.set_cons_zero, List.set_cons_succ]
    refine AnyH.take (i := 1) (d := some 13) (v := ?_) (by kernel_rfl) rfl rfl HF (fun _ _ _ h => h) (.inl ⟨by rfl, ?_⟩) (by first | assumption | rfl) ?_
    rotate_left
    · intro w hS; try subst hS
      go_simp; try with_reducible rfl
    try simp only [Act.put, List.setIfInBounds_toArray, List.set_cons_zero, List.set_cons_succ]
    refine AnyH.take (i := 2) (d := some 14) (v := ?_) (by kernel_rfl) rfl rfl HF (fun _ _ _ h => h) (.inl ⟨by rfl, ?_⟩) (by first | assumption | rfl) ?_
    rotate_left
    · intro w hS; try subst hS
      go_simp; try with_reducible rfl
    try simp only [Act.put, List.setIfInBounds_toArray, List.set_cons_zero, List.set_cons_succ]
    refine AnyH.take (i := 3) (d := some 15) (v := ?_) (by kernel_rfl) rfl rfl HF (fun _ _ _ h => h) (.inl ⟨by rfl, ?_⟩) (by first | assumption | rfl) ?_
    rotate_left
    · intro w hS; try subst hS
      go_simp; try with_reducible rfl
    try simp only [Act.put, List.setIfInBounds_toArray, List.set_cons_zero, List.set_cons_succ]
    refine AnyH.take (i := 4) (d := some 16) (v := ?_) (by kernel_rfl) rfl rfl HF (fun _ _ _ h => h) (.inl ⟨by rfl, ?_⟩) (by first | assumption | rfl) ?_
    rotate_left
    · intro w hS; try subst hS
      go_simp; try with_reducible rfl
    try simp only [Act.put, List.setIfInBounds_toArray, List.set_cons_zero, List.set_cons_succ]
    refine AnyH.take (i := 5) (d := some 6) (v := ?_) (by kernel_rfl) rfl rfl HF (fun _ _ _ h => h) (.inl ⟨by rfl, ?_⟩) (by first | assumption | rfl) ?_
    rotate_left
    · intro w hS; try subst hS
      go_simp; try with_reducible rfl
    try simp only [Act.put, List.setIfInBounds_toArray, List.set_cons_zero, List.set_cons_succ]
    refine AnyH.take (i := 6) (d := some 7) (v := ?_) (by kernel_rfl) rfl rfl HF (fun _ _ _ h => h) (.inl ⟨by rfl, ?_⟩) (by first | assumption | rfl) ?_
    rotate_left
    · intro w hS; try subst hS
      go_simp; try with_reducible rfl
    try simp only [Act.put, List.setIfInBounds_toArray, List.set_cons_zero, List.set_cons_succ]
    refine AnyH.done (by kernel_rfl) ?_
    have HB := Lib.hid (Below.after B1.out S0)
    clear m2 S0
    go_wp2_with fail
    go_ret2
    exact ⟨rfl, HB.out⟩
  · have h3i : ((r.kind : Int) == 3) = false := by simp; omega
    by_cases hlt : a < n
    · have e : belF r n a = (r.left, a) := by unfold belF; rw [if_neg h3, if_pos hlt]
      rw [e]
      have hlt2 : (a : Int) < (n : Int) := by omega
      clear h3 e
      go_enter Try.func64, Try.ntmps64
      go_wp2_with fail
      go_ret2
      exact ⟨rfl, B1.out⟩
    · have e : belF r n a = (r.right, a - n) := by unfold belF; rw [if_neg h3, if_neg hlt]
      rw [e]
      have hlt2 : ¬ (a : Int) < (n : Int) := by omega
      have hw : IntKind.i64.wrap ((a : Int) - (n : Int)) = ((a - n : Nat) : Int) := by rw [IntKind.wrap_i64]; omega
      clear h3 e
      go_enter Try.func64, Try.ntmps64
      go_wp2_with fail
      go_ret2
      exact ⟨rfl, B1.out⟩
set_option maxRecDepth 100000 in
set_option maxHeartbeats 4000000 in
theorem at_some {n0 B most : Nat} {W : World} {E : List En} (h : StAt n0 W B most E) (hwf : Wf E) (hE : E.length ≤ 1048576) {id k b : Nat} (hid : id ≤ E.length) (hb : (txt E id)[k]? = some b) :
    Calls Try.prog 38 #[.pointer (some ⟨B, 0, none⟩), .int .i64 id, .int .i64 k] W fun e w' => e = .returned (.tuple #[.int .u8 b, .nilIface]) ∧ Below W.heap.size W w' := by
  have HF : ∀ f, Fence.wide.fn f := fun _ => trivial
  have H := Lib.hid h; have HWF := Lib.hid hwf
  have hkl := (List.getElem?_eq_some_iff.1 hb).1
  have hid0 : 0 < id := by
    rcases Nat.eq_zero_or_pos id with h0 | h0
    · subst h0; rw [txt_zero] at hkl; simp at hkl
    · exact h0
  obtain ⟨hw, hlen⟩ := hwf.len hid
  have HW := Lib.hid (weight_any h hid hE)
  rw [hw] at HW
  obtain ⟨u, hu⟩ : ∃ u, wt (txt E id) = u := ⟨_, rfl⟩
  have hul : u.len = (txt E id).length := by rw [← hu]; rfl
  rw [hu] at HW
  unfold wtV at HW
  have HB := Lib.hid hb; have HUL := Lib.hid hul; have HLEN := Lib.hid hlen; have HKL := Lib.hid hkl
  have hk1 : ¬ (k : Int) < 0 := by omega
  have hk2 : ¬ (k : Int) ≥ (u.len : Int) := by omega
  have hk3 : ¬ u.len ≤ k := by omega
  clear h hwf hb hul hlen hkl hu hw
  go_enter Try.func38, Try.ntmps38
  go_wp2_with fail
  refine HW.out.mono ?_; rintro e w1 ⟨rfl, b1⟩
  obtain ⟨wz, w2, hz, hs, kw, bw, ⟨p0, p1, p2, p3, p4, p5⟩, q0, q1, q2, q3, q4, q5⟩ := newWt w1 u
  obtain ⟨x0, x1, x2, x3, x4, x5⟩ := kw.cells
  have B2 := Lib.hid (Below.after b1 bw)
  clear b1 kw bw
  go_wp2_with fail
  clear hz hs p0 p1 p2 p3 p4 p5 q0 q1 q2 q3 q4 q5 x0 x1 x2 x3 x4 x5
  go_loopw [1, 2] (fun iv av wr => ∃ i j : Nat, 0 < i ∧ i ≤ E.length ∧ iv = .int .i64 i ∧ av = .int .i64 j ∧ (txt E i)[j]? = some b ∧ Below W.heap.size W wr) (fun iv _ _ => (intOf iv).toNat)
  case atStart => exact ⟨id, k, hid0, hid, rfl, rfl, HB.out, B2.out⟩
  case round =>
    obtain ⟨i, j, hi0, hi, rfl, rfl, hbj, hB⟩ := hrel
    have HBJ := Lib.hid hbj; have HBW := Lib.hid hB
    have HRU := Lib.hid (rule_any (H.out.below hB) hi0 hi hE)
    have hjb : j ≤ 1152921504606846976 := by have h1 := (HWF.out.len hi).2; have h2 := (List.getElem?_eq_some_iff.1 hbj).1; omega
    obtain ⟨r, hr⟩ : ∃ r, (entAt E i).ru = r := ⟨_, rfl⟩
    have HR := Lib.hid hr
    rw [hr] at HRU
    unfold ruV at HRU
    have HC := Lib.hid (HWF.out.rule i hi0 hi).cases
    rw [hr] at HC
    clear hr hbj hB
    by_cases h1 : r.kind = 1
    · have h1i : ((r.kind : Int) == 1) = true := by simp; omega
      have HL : Hid (r.letter = b) := Lib.hid (by
        rcases HC.out with ⟨-, -, -, -, -, g⟩ | ⟨a, -⟩ | ⟨a, -⟩
        · have h := HBJ.out
          rw [g] at h
          cases j with
          | zero => simpa using h
          | succ j => simp at h
        · omega
        · omega)
      clear h1
      go_wp2_with fail
      refine HRU.out.mono ?_; rintro e w3 ⟨rfl, b3⟩
      obtain ⟨wz3, w4, hz3, hs3, kr, br, ⟨p0, p1, p2, p3, p4⟩, q0, q1, q2, q3, q4⟩ := newRu w3 r
      obtain ⟨x0, x1, x2, x3, x4⟩ := kr.cells
      have B4 := Lib.hid (Below.after HBW.out (Below.after b3 br))
      clear b3 kr br
      go_wp2_with fail
      go_ret2
      exact ⟨by rw [HL.out]; rfl, B4.out⟩
    · have h1i : ((r.kind : Int) == 1) = false := by simp; omega
      have HBS : Hid (0 < (belF r (txt E r.left).length j).1 ∧ (belF r (txt E r.left).length j).1 < i ∧ (txt E (belF r (txt E r.left).length j).1)[(belF r (txt E r.left).length j).2]? = some b) := Lib.hid (by
        have := belF_step HWF.out hi0 hi (by rw [HR.out]; exact h1) HBJ.out
        rw [HR.out] at this; exact this)
      have hll : 0 < r.left ∧ r.left < i := by
        rcases HC.out with ⟨a, -⟩ | ⟨-, -, c, d, -⟩ | ⟨-, -, c, d, -⟩
        · exact absurd a h1
        · exact ⟨c, d⟩
        · exact ⟨c, d⟩
      obtain ⟨hw2, hlen2⟩ := HWF.out.len (show r.left ≤ E.length by omega)
      have hpos : 0 < (txt E r.left).length := (HWF.out.get r.left hll.1 (by omega)).2.2.1
      have HWL : Hid (∀ w, Below wr.heap.size wr w → Calls Try.prog 62 #[.pointer (some ⟨B, 0, none⟩), .int .i64 r.left] w fun e w' => e = .returned (.tuple #[wtV (wt (txt E r.left)), .nilIface]) ∧ Below w.heap.size w w') := Lib.hid (fun w hw => by
        have := weight_any (H.out.below (Below.after HBW.out hw)) (i := r.left) (by omega) hE
        rwa [hw2] at this)
      obtain ⟨ul, hul⟩ : ∃ u, wt (txt E r.left) = u := ⟨_, rfl⟩
      have hull : ul.len = (txt E r.left).length := by rw [← hul]; rfl
      rw [hul] at HWL
      unfold wtV at HWL
      rw [← hull] at HBS hpos hlen2
      have HLL := Lib.hid hll; have HHI := Lib.hid hi
      clear h1 hw2 hul hull hll
      go_wp2_with fail
      refine HRU.out.mono ?_; rintro e w3 ⟨rfl, b3⟩
      obtain ⟨wz3, w4, hz3, hs3, kr, br, ⟨p0, p1, p2, p3, p4⟩, q0, q1, q2, q3, q4⟩ := newRu w3 r
      obtain ⟨x0, x1, x2, x3, x4⟩ := kr.cells
      have KR := Lib.hid kr
      have B4 := Lib.hid (Below.after b3 br)
      clear b3 kr br
      go_wp2_with fail
      refine (HWL.out _ B4.out).mono ?_; rintro e w5 ⟨rfl, b5⟩
      clear hz3 hs3 p0 p1 p2 p3 p4 q0 q1 q2 q3 q4 x0 x1 x2 x3 x4
      obtain ⟨wz5, w6, hz5, hs5, kw, bw, ⟨p0, p1, p2, p3, p4, p5⟩, q0, q1, q2, q3, q4, q5⟩ := newWt w5 ul
      obtain ⟨y0, y1, y2, y3, y4, y5⟩ := kw.cells
      obtain ⟨x0, x1, x2, x3, x4⟩ := RuC.cells (below_block (Below.after b5 bw) KR.out)
      have B6 := Lib.hid (Below.after HBW.out (Below.after B4.out (Below.after b5 bw)))
      clear b5 kw bw
      go_wp2_with fail
      refine (below_any w6 r hpos hlen2 hjb).mono ?_; rintro e w7 ⟨rfl, b7⟩
      have B7 := Lib.hid (Below.after B6.out b7)
      clear b7
      generalize belF r ul.len j = p at *
      obtain ⟨i', j'⟩ := p
      dsimp only at HBS ⊢
      clear hz5 hs5 p0 p1 p2 p3 p4 p5 q0 q1 q2 q3 q4 q5 x0 x1 x2 x3 x4 y0 y1 y2 y3 y4 y5
      go_wp2_with fail
      go_roundw
      case rel => exact ⟨i', j', HBS.out.1, by have h1 := HBS.out.2.1; have h2 := HHI.out; omega, rfl, rfl, HBS.out.2.2, B7.out⟩
      case measure => have := HBS.out.2.1; simp [intOf]; omega
/-- An offset that the text does not have. -/
theorem at_none {n0 B most : Nat} {W : World} {E : List En} (h : StAt n0 W B most E) (hwf : Wf E) (hE : E.length ≤ 1048576) {id : Nat} {k : Int} (hid : id ≤ E.length) (hk : k < 0 ∨ ((txt E id).length : Int) ≤ k) :
    Calls Try.prog 38 #[.pointer (some ⟨B, 0, none⟩), .int .i64 id, .int .i64 k] W fun e w' => e = .returned (.tuple #[.int .u8 0, err 1]) ∧ Below W.heap.size W w' := by
  obtain ⟨hw, hlen⟩ := hwf.len hid
  have HW := Lib.hid (weight_any h hid hE)
  rw [hw] at HW
  obtain ⟨u, hu⟩ : ∃ u, wt (txt E id) = u := ⟨_, rfl⟩
  have hul : u.len = (txt E id).length := by rw [← hu]; rfl
  rw [hu] at HW
  rw [← hul] at hk
  unfold wtV at HW
  clear h hwf hul hlen hu hw
  by_cases h0 : k < 0
  · go_enter Try.func38, Try.ntmps38
    go_wp2_with fail
    refine HW.out.mono ?_; rintro e w1 ⟨rfl, b1⟩
    obtain ⟨wz, w2, hz, hs, kw, bw, ⟨p0, p1, p2, p3, p4, p5⟩, q0, q1, q2, q3, q4, q5⟩ := newWt w1 u
    obtain ⟨x0, x1, x2, x3, x4, x5⟩ := kw.cells
    have B2 := Lib.hid (Below.after b1 bw)
    clear b1 kw bw
    go_wp2_with fail
    go_ret2
    exact ⟨rfl, B2.out⟩
  · obtain ⟨n, rfl⟩ : ∃ n : Nat, k = (n : Int) := ⟨k.toNat, by omega⟩
    have hk2 : (n : Int) ≥ (u.len : Int) := by omega
    have hk3 : u.len ≤ n := by omega
    clear hk
    go_enter Try.func38, Try.ntmps38
    go_wp2_with fail
    refine HW.out.mono ?_; rintro e w1 ⟨rfl, b1⟩
    obtain ⟨wz, w2, hz, hs, kw, bw, ⟨p0, p1, p2, p3, p4, p5⟩, q0, q1, q2, q3, q4, q5⟩ := newWt w1 u
    obtain ⟨x0, x1, x2, x3, x4, x5⟩ := kw.cells
    have B2 := Lib.hid (Below.after b1 bw)
    clear b1 kw bw
    go_wp2_with fail
    go_ret2
    exact ⟨rfl, B2.out⟩
end M
end Go.Proofs.Ytplccefjljdjnaa
