/- The store of rules: Pair. -/
import Derived.Test.YtplccefjljdjnaaSto
set_option linter.unusedVariables false
set_option linter.unusedSimpArgs false
namespace Go.Proofs.Ytplccefjljdjnaa
open Go.RowKit
namespace M
attribute [local go_sem] Oper.semAt_some
theorem EnC.zero (W : World) : EnC (W.alloc (.cells #[.int .i64 0, .int .u8 0, .int .i64 0, .int .i64 0, .int .i64 0, .int .i64 0, .int .i64 0, .int .i64 0, .int .i64 0, .int .u64 0, .int .u64 0, .int .i64 0, .bool false] 121)) W.heap.size en0 := heap_new' _ _
theorem pairV_eq {l r : Nat} {u : Wt} {d : Int} {d' : Nat} {b b' : Bool} (hd : d = (d' : Int)) (hb : b = b') : Value.agg #[.int .i64 2, .int .u8 0, .int .i64 l, .int .i64 r, .int .i64 0, .int .i64 u.len, .int .i64 u.lines, .int .i64 u.head, .int .i64 u.tail, .int .u64 u.d.v, .int .u64 u.d.s, .int .i64 d, .bool b] = enV ⟨⟨2, 0, l, r, 0⟩, u, d', b'⟩ := by rw [hd, hb]; rfl
theorem calls_arg {P : Program} {f : FuncId} {p v v' : Value} {w : World} {Q : Ending → World → Prop} (e : v = v') (h : Calls P f #[p, v'] w Q) : Calls P f #[p, v] w Q := by rw [e]; exact h
theorem err_two : err 2 = .iface 54 (.int .i64 2) := rfl
/-- The entry of a pair. -/
def pairE (E : List En) (l r : Nat) : En := ⟨⟨2, 0, l, r, 0⟩, joinW (entAt E l).w (entAt E r).w, 1 + max (entAt E l).depth (entAt E r).depth, (entAt E l).even && (entAt E r).even && decide (-1 ≤ ((entAt E l).depth : Int) - (entAt E r).depth) && decide (((entAt E l).depth : Int) - (entAt E r).depth ≤ 1)⟩
/-- What Pair answers: the store, the number, the error. -/
def pairF (E : List En) (l r : Nat) : List En × Nat × Int :=
  if l = 0 then (E, r, 0) else if r = 0 then (E, l, 0) else if (entAt E l).w.len + (entAt E r).w.len ≤ 1152921504606846976 then ((addF E (pairE E l r)).1, (addF E (pairE E l r)).2, 0) else (E, 0, 2)
set_option maxRecDepth 100000 in
set_option maxHeartbeats 4000000 in
theorem pair_some {n0 B most : Nat} {W : World} {E : List En} (h : StAt n0 W B most E) (hwf : Wf E) {l r : Nat} (hl0 : 0 < l) (hr0 : 0 < r) (hl : l ≤ E.length) (hr : r ≤ E.length) (hroom : E.length < most) (hE : E.length ≤ 1048575) :
    Calls Try.prog 75 #[.pointer (some ⟨B, 0, none⟩), .int .i64 l, .int .i64 r] W fun x w' => x = .returned (.tuple #[.int .i64 (pairF E l r).2.1, errV (pairF E l r).2.2]) ∧ StAt n0 w' B most (pairF E l r).1 ∧ Below n0 W w' ∧ Kt W w' := by
  have HF : ∀ f, Fence.wide.fn f := fun _ => trivial
  have hlt := h.lt
  have HLT := Lib.hid hlt
  have HK1 := Lib.hid (known_any h (l : Int)); have HK2 := Lib.hid (known_any h (r : Int))
  rw [decide_eq_true (show 0 ≤ (l : Int) ∧ (l : Int) ≤ (E.length : Int) by omega)] at HK1
  rw [decide_eq_true (show 0 ≤ (r : Int) ∧ (r : Int) ≤ (E.length : Int) by omega)] at HK2
  have g1 := hwf.get l hl0 hl; have g2 := hwf.get r hr0 hr
  have HA1 := Lib.hid (at_any h hl (by omega))
  obtain ⟨a, ha⟩ : ∃ a, entAt E l = a := ⟨_, rfl⟩
  obtain ⟨b, hb⟩ : ∃ b, entAt E r = b := ⟨_, rfl⟩
  have HOA : Hid (WtOk a.w ∧ a.depth ≤ E.length) := Lib.hid ⟨by rw [← ha, g1.1]; exact wt_ok g1.2.1, by rw [← ha]; have := g1.2.2.2; omega⟩
  have HOB : Hid (WtOk b.w ∧ b.depth ≤ E.length) := Lib.hid ⟨by rw [← hb, g2.1]; exact wt_ok g2.2.1, by rw [← hb]; have := g2.2.2.2; omega⟩
  have HPF : Hid (pairF E l r = if a.w.len + b.w.len ≤ 1152921504606846976 then ((addF E (pairE E l r)).1, (addF E (pairE E l r)).2, 0) else (E, 0, 2)) := Lib.hid (by unfold pairF; rw [if_neg (by omega), if_neg (by omega), ha, hb])
  have HPE : Hid (pairE E l r = ⟨⟨2, 0, l, r, 0⟩, joinW a.w b.w, 1 + max a.depth b.depth, a.even && b.even && decide (-1 ≤ (a.depth : Int) - b.depth) && decide ((a.depth : Int) - b.depth ≤ 1)⟩) := Lib.hid (by unfold pairE; rw [ha, hb])
  have HHB := Lib.hid hb
  rw [ha] at HA1
  unfold enV at HA1
  have H := Lib.hid h
  have l0 : ((l : Int) == 0) = false := by simp; omega
  have r0 : ((r : Int) == 0) = false := by simp; omega
  have HI := Lib.hid (And.intro hroom (And.intro hE (And.intro hl hr)))
  clear g1 g2 ha hb hlt h hwf hroom hl hr
  rw [HPF.out]
  by_cases hs : a.w.len + b.w.len ≤ 1152921504606846976
  · rw [if_pos hs]
    have HSM := Lib.hid hs
    obtain ⟨f, hf⟩ : ∃ f, fid (pairE E l r).ru 1 E = f := ⟨_, rfl⟩
    have hru : (pairE E l r).ru = ⟨2, 0, l, r, 0⟩ := rfl
    rw [hru] at hf
    have HFD := Lib.hid hf
    have HAF : Hid (addF E (pairE E l r) = if f = 0 then (E ++ [pairE E l r], E.length + 1) else (E, f)) := Lib.hid (by unfold addF; rw [hru, hf])
    rw [HAF.out]
    clear hf hru
    by_cases hf0 : f = 0
    · rw [if_pos hf0]
      subst hf0
      go_enter Try.func75, Try.ntmps75
      go_wp2_with fail
      refine HK1.out.mono ?_; rintro x w ⟨rfl, h⟩; rw [h]; clear h w
      go_wp2_with fail
      refine HK2.out.mono ?_; rintro x w ⟨rfl, h⟩; rw [h]; clear h w
      go_wp2_with fail
      refine HA1.out.mono ?_; rintro x w1 ⟨rfl, b1⟩
      have HA2 := Lib.hid (at_any (H.out.below b1) HI.out.2.2.2 (by omega))
      rw [HHB.out] at HA2
      unfold enV at HA2
      have B1 := Lib.hid b1
      clear b1
      go_wp2_with fail
      refine HA2.out.mono ?_; rintro x w2 ⟨rfl, b2⟩
      have B2 := Lib.hid (Below.after B1.out b2)
      clear b2
      obtain ⟨Wz, hWz⟩ : ∃ w, (w2.alloc (.cells #[.int .i64 0, .int .u8 0, .int .i64 0, .int .i64 0, .int .i64 0, .int .i64 0, .int .i64 0, .int .i64 0, .int .i64 0, .int .u64 0, .int .u64 0, .int .i64 0, .bool false] 121)).alloc (.cells #[.int .i64 0, .int .u8 0, .int .i64 0, .int .i64 0, .int .i64 0, .int .i64 0, .int .i64 0, .int .i64 0, .int .i64 0, .int .u64 0, .int .u64 0, .int .i64 0, .bool false] 121) = w := ⟨_, rfl⟩
      obtain ⟨g, hg⟩ : ∃ g, w2.heap.size = g := ⟨_, rfl⟩
      have bz : Below w2.heap.size w2 Wz := by rw [← hWz]; exact ((Below.refl _ _).alloc (Nat.le_refl _) _).alloc (by simp) _
      have z1 : EnC Wz g en0 := by rw [← hWz, ← hg]; exact below_block ((Below.refl _ _).alloc (Nat.le_refl _) _) (EnC.zero w2)
      have z2 : EnC Wz (g + 1) en0 := by
        rw [← hWz, ← hg]
        have := EnC.zero (w2.alloc (.cells #[.int .i64 0, .int .u8 0, .int .i64 0, .int .i64 0, .int .i64 0, .int .i64 0, .int .i64 0, .int .i64 0, .int .i64 0, .int .u64 0, .int .u64 0, .int .i64 0, .bool false] 121))
        rw [World.size_alloc] at this
        exact this
      obtain ⟨WA, hWA⟩ : ∃ w, setE Wz g a = w := ⟨_, rfl⟩
      have kA : EnC WA g a := by rw [← hWA]; exact z1.set a
      have bA : Below w2.heap.size w2 WA := by rw [← hWA]; exact setE_below bz (by omega) a
      have zA : EnC WA (g + 1) en0 := by
        rw [← hWA]
        exact set_other (by omega) (set_other (by omega) (set_other (by omega) (set_other (by omega) (set_other (by omega) (set_other (by omega) (set_other (by omega) (set_other (by omega) (set_other (by omega) (set_other (by omega) (set_other (by omega) (set_other (by omega) (set_other (by omega) (z2)))))))))))))
      obtain ⟨w3, hw3⟩ : ∃ w, setE WA (g + 1) b = w := ⟨_, rfl⟩
      have kB : EnC w3 (g + 1) b := by rw [← hw3]; exact zA.set b
      have kA3 : EnC w3 g a := by
        rw [← hw3]
        exact set_other (by omega) (set_other (by omega) (set_other (by omega) (set_other (by omega) (set_other (by omega) (set_other (by omega) (set_other (by omega) (set_other (by omega) (set_other (by omega) (set_other (by omega) (set_other (by omega) (set_other (by omega) (set_other (by omega) (kA)))))))))))))
      have b3 : Below w2.heap.size w2 w3 := by rw [← hw3]; exact setE_below bA (by omega) b
      have HA3 := Lib.hid kA3; have HB3 := Lib.hid kB; have B3 := Lib.hid (Below.after B2.out b3)
      obtain ⟨p0, p1, p2, p3, p4, p5, p6, p7, p8, p9, p10, p11, p12⟩ : Wz.cell? ⟨g, 0, none⟩ = some (.int .i64 0) ∧ Wz.cell? ⟨g, 1, none⟩ = some (.int .u8 0) ∧ Wz.cell? ⟨g, 2, none⟩ = some (.int .i64 0) ∧ Wz.cell? ⟨g, 3, none⟩ = some (.int .i64 0) ∧ Wz.cell? ⟨g, 4, none⟩ = some (.int .i64 0) ∧ Wz.cell? ⟨g, 5, none⟩ = some (.int .i64 0) ∧ Wz.cell? ⟨g, 6, none⟩ = some (.int .i64 0) ∧ Wz.cell? ⟨g, 7, none⟩ = some (.int .i64 0) ∧ Wz.cell? ⟨g, 8, none⟩ = some (.int .i64 0) ∧ Wz.cell? ⟨g, 9, none⟩ = some (.int .u64 0) ∧ Wz.cell? ⟨g, 10, none⟩ = some (.int .u64 0) ∧ Wz.cell? ⟨g, 11, none⟩ = some (.int .i64 0) ∧ Wz.cell? ⟨g, 12, none⟩ = some (.bool false) := z1.cells
      have pf0 := z1.free 0; have pf1 := z1.free 1; have pf2 := z1.free 2; have pf3 := z1.free 3; have pf4 := z1.free 4; have pf5 := z1.free 5; have pf6 := z1.free 6; have pf7 := z1.free 7; have pf8 := z1.free 8; have pf9 := z1.free 9; have pf10 := z1.free 10; have pf11 := z1.free 11; have pf12 := z1.free 12
      obtain ⟨q0, q1, q2, q3, q4, q5, q6, q7, q8, q9, q10, q11, q12⟩ : WA.cell? ⟨g + 1, 0, none⟩ = some (.int .i64 0) ∧ WA.cell? ⟨g + 1, 1, none⟩ = some (.int .u8 0) ∧ WA.cell? ⟨g + 1, 2, none⟩ = some (.int .i64 0) ∧ WA.cell? ⟨g + 1, 3, none⟩ = some (.int .i64 0) ∧ WA.cell? ⟨g + 1, 4, none⟩ = some (.int .i64 0) ∧ WA.cell? ⟨g + 1, 5, none⟩ = some (.int .i64 0) ∧ WA.cell? ⟨g + 1, 6, none⟩ = some (.int .i64 0) ∧ WA.cell? ⟨g + 1, 7, none⟩ = some (.int .i64 0) ∧ WA.cell? ⟨g + 1, 8, none⟩ = some (.int .i64 0) ∧ WA.cell? ⟨g + 1, 9, none⟩ = some (.int .u64 0) ∧ WA.cell? ⟨g + 1, 10, none⟩ = some (.int .u64 0) ∧ WA.cell? ⟨g + 1, 11, none⟩ = some (.int .i64 0) ∧ WA.cell? ⟨g + 1, 12, none⟩ = some (.bool false) := zA.cells
      have qf0 := zA.free 0; have qf1 := zA.free 1; have qf2 := zA.free 2; have qf3 := zA.free 3; have qf4 := zA.free 4; have qf5 := zA.free 5; have qf6 := zA.free 6; have qf7 := zA.free 7; have qf8 := zA.free 8; have qf9 := zA.free 9; have qf10 := zA.free 10; have qf11 := zA.free 11; have qf12 := zA.free 12
      simp only [setE] at hWA hw3
      obtain ⟨x0, x1, x2, x3, x4, x5, x6, x7, x8, x9, x10, x11, x12⟩ := kA3.cells
      obtain ⟨y0, y1, y2, y3, y4, y5, y6, y7, y8, y9, y10, y11, y12⟩ := kB.cells
      clear bz z1 z2 kA bA zA kB kA3 b3
      go_wp2_with fail
      refine (add1_any w3 HOA.out.1.le HOB.out.1.le).mono ?_; rintro x w ⟨rfl, h⟩; rw [h, if_pos HSM.out]; clear h w
      clear hWz hWA hw3 p0 p1 p2 p3 p4 p5 p6 p7 p8 p9 p10 p11 p12 pf0 pf1 pf2 pf3 pf4 pf5 pf6 pf7 pf8 pf9 pf10 pf11 pf12 q0 q1 q2 q3 q4 q5 q6 q7 q8 q9 q10 q11 q12 qf0 qf1 qf2 qf3 qf4 qf5 qf6 qf7 qf8 qf9 qf10 qf11 qf12
      obtain ⟨Wr, hWr⟩ : ∃ w, w3.alloc (.cells #[.int .i64 0, .int .u8 0, .int .i64 0, .int .i64 0, .int .i64 0] 111) = w := ⟨_, rfl⟩
      obtain ⟨rg, hrg⟩ : ∃ g, w3.heap.size = g := ⟨_, rfl⟩
      have kr0 : RuC Wr rg ⟨0, 0, 0, 0, 0⟩ := by rw [← hWr, ← hrg]; exact heap_new' _ _
      have br0 : Below w3.heap.size w3 Wr := by rw [← hWr]; exact (Below.refl _ _).alloc (Nat.le_refl _) _
      obtain ⟨z0, z1, z2, z3, z4⟩ : Wr.cell? ⟨rg, 0, none⟩ = some (.int .i64 0) ∧ Wr.cell? ⟨rg, 1, none⟩ = some (.int .u8 0) ∧ Wr.cell? ⟨rg, 2, none⟩ = some (.int .i64 0) ∧ Wr.cell? ⟨rg, 3, none⟩ = some (.int .i64 0) ∧ Wr.cell? ⟨rg, 4, none⟩ = some (.int .i64 0) := kr0.cells
      have s0 := kr0.free 0; have s1 := kr0.free 1; have s2 := kr0.free 2; have s3 := kr0.free 3; have s4 := kr0.free 4
      obtain ⟨w4, hw4⟩ : ∃ w, ((((Wr.setCell ⟨rg, 0, none⟩ (.int .i64 2)).setCell ⟨rg, 1, none⟩ (.int .u8 0)).setCell ⟨rg, 2, none⟩ (.int .i64 l)).setCell ⟨rg, 3, none⟩ (.int .i64 r)).setCell ⟨rg, 4, none⟩ (.int .i64 0) = w := ⟨_, rfl⟩
      have k4 : RuC w4 rg ⟨2, 0, l, r, 0⟩ := by rw [← hw4]; exact kr0.set ⟨2, 0, l, r, 0⟩
      have b4 : Below w3.heap.size w3 w4 := by
        rw [← hw4]
        exact ((((br0.setCell (p := ⟨rg, 0, none⟩) (by dsimp only; omega) _).setCell (p := ⟨rg, 1, none⟩) (by dsimp only; omega) _).setCell (p := ⟨rg, 2, none⟩) (by dsimp only; omega) _).setCell (p := ⟨rg, 3, none⟩) (by dsimp only; omega) _).setCell (p := ⟨rg, 4, none⟩) (by dsimp only; omega) _
      have HR4 := Lib.hid k4; have B4 := Lib.hid (Below.after B3.out b4)
      have HA4 := Lib.hid (below_block b4 HA3.out); have HB4 := Lib.hid (below_block b4 HB3.out)
      obtain ⟨c0, c1, c2, c3, c4⟩ : w4.cell? ⟨rg, 0, none⟩ = some (.int .i64 2) ∧ w4.cell? ⟨rg, 1, none⟩ = some (.int .u8 0) ∧ w4.cell? ⟨rg, 2, none⟩ = some (.int .i64 l) ∧ w4.cell? ⟨rg, 3, none⟩ = some (.int .i64 r) ∧ w4.cell? ⟨rg, 4, none⟩ = some (.int .i64 0) := k4.cells
      have HOK : Hid (Ru.ok ⟨2, 0, l, r, 0⟩) := Lib.hid ⟨by show 2 ≤ _; omega, by show 0 ≤ 255; omega, by show l ≤ _; have := HI.out.2.2.1; omega, by show r ≤ _; have := HI.out.2.2.2; omega, Nat.zero_le _⟩
      have HFI := Lib.hid (find_any (H.out.below B4.out) HOK.out)
      rw [HFD.out] at HFI
      rw [if_neg (fun h => by have := h.2; have := HI.out.1; omega)] at HFI
      clear kr0 br0 k4 b4
      go_wp2_with fail
      refine HFI.out.mono ?_; rintro x w5 ⟨rfl, b5⟩
      have B5 := Lib.hid (Below.after B4.out b5)
      have HA5 := Lib.hid (below_block b5 HA4.out); have HB5 := Lib.hid (below_block b5 HB4.out); have HR5 := Lib.hid (below_block b5 HR4.out)
      clear hWr hw4 z0 z1 z2 z3 z4 s0 s1 s2 s3 s4 c0 c1 c2 c3 c4 b5 x0 x1 x2 x3 x4 x5 x6 x7 x8 x9 x10 x11 x12 y0 y1 y2 y3 y4 y5 y6 y7 y8 y9 y10 y11 y12
      obtain ⟨x0, x1, x2, x3, x4, x5, x6, x7, x8, x9, x10, x11, x12⟩ := EnC.cells HA5.out
      obtain ⟨y0, y1, y2, y3, y4, y5, y6, y7, y8, y9, y10, y11, y12⟩ := EnC.cells HB5.out
      go_wp2_with fail
      refine (wjoin_any w5 HOA.out.1 HOB.out.1 HSM.out).mono ?_; rintro x w6 ⟨rfl, b6⟩
      obtain ⟨u, hu⟩ : ∃ u, joinW a.w b.w = u := ⟨_, rfl⟩
      have HU := Lib.hid hu
      have ev : wtV u = .agg #[.int .i64 u.len, .int .i64 u.lines, .int .i64 u.head, .int .i64 u.tail, .int .u64 u.d.v, .int .u64 u.d.s] := rfl
      rw [hu, ev]
      clear hu ev
      have B6 := Lib.hid (Below.after B5.out b6)
      have HA6 := Lib.hid (below_block b6 HA5.out); have HB6 := Lib.hid (below_block b6 HB5.out); have HR6 := Lib.hid (below_block b6 HR5.out)
      clear b6 x0 x1 x2 x3 x4 x5 x6 x7 x8 x9 x10 x11 x12 y0 y1 y2 y3 y4 y5 y6 y7 y8 y9 y10 y11 y12
      obtain ⟨Ww, hWw⟩ : ∃ w, w6.alloc (.cells #[.int .i64 0, .int .i64 0, .int .i64 0, .int .i64 0, .int .u64 0, .int .u64 0] 118) = w := ⟨_, rfl⟩
      obtain ⟨wg, hwg⟩ : ∃ g, w6.heap.size = g := ⟨_, rfl⟩
      have kw0 : WtC Ww wg w0 := by rw [← hWw, ← hwg]; exact heap_new' _ _
      have bw0 : Below w6.heap.size w6 Ww := by rw [← hWw]; exact (Below.refl _ _).alloc (Nat.le_refl _) _
      obtain ⟨p0, p1, p2, p3, p4, p5⟩ := kw0.cells
      have q0 := kw0.free 0; have q1 := kw0.free 1; have q2 := kw0.free 2; have q3 := kw0.free 3; have q4 := kw0.free 4; have q5 := kw0.free 5
      simp only [w0] at p0 p1 p2 p3 p4 p5
      obtain ⟨w7, hw7⟩ : ∃ w, setW Ww wg u = w := ⟨_, rfl⟩
      have k7 : WtC w7 wg u := by rw [← hw7]; exact kw0.set u
      have b7 : Below w6.heap.size w6 w7 := by rw [← hw7]; exact setW_below bw0 (by omega) u
      simp only [setW] at hw7
      have ka := below_block b7 HA6.out; have kb := below_block b7 HB6.out; have kr : RuC w7 rg ⟨2, 0, l, r, 0⟩ := below_block b7 HR6.out
      obtain ⟨x0, x1, x2, x3, x4, x5, x6, x7, x8, x9, x10, x11, x12⟩ := EnC.cells ka
      obtain ⟨y0, y1, y2, y3, y4, y5, y6, y7, y8, y9, y10, y11, y12⟩ := EnC.cells kb
      obtain ⟨c0, c1, c2, c3, c4⟩ : w7.cell? ⟨rg, 0, none⟩ = some (.int .i64 2) ∧ w7.cell? ⟨rg, 1, none⟩ = some (.int .u8 0) ∧ w7.cell? ⟨rg, 2, none⟩ = some (.int .i64 l) ∧ w7.cell? ⟨rg, 3, none⟩ = some (.int .i64 r) ∧ w7.cell? ⟨rg, 4, none⟩ = some (.int .i64 0) := RuC.cells kr
      obtain ⟨d0, d1, d2, d3, d4, d5⟩ := k7.cells
      have B7 := Lib.hid (Below.after B6.out b7)
      have hwd : IntKind.i64.wrap ((a.depth : Int) - (b.depth : Int)) = (a.depth : Int) - (b.depth : Int) := by
        have h1 := HOA.out.2; have h2 := HOB.out.2; have h3 := HI.out.2.1
        rw [IntKind.wrap_i64]; omega
      have hw1 : IntKind.i64.wrap (1 + (a.depth : Int)) = ((1 + a.depth : Nat) : Int) := by
        have h1 := HOA.out.2; have h3 := HI.out.2.1
        rw [IntKind.wrap_i64]; omega
      have hw2 : IntKind.i64.wrap (1 + (b.depth : Int)) = ((1 + b.depth : Nat) : Int) := by
        have h2 := HOB.out.2; have h3 := HI.out.2.1
        rw [IntKind.wrap_i64]; omega
      have e1 : wrap64 (1 + (a.depth : Int)) = 1 + (a.depth : Int) := by
        have h1 := HOA.out.2; have h3 := HI.out.2.1
        unfold wrap64; omega
      have e2 : wrap64 (1 + (b.depth : Int)) = 1 + (b.depth : Int) := by
        have h1 := HOB.out.2; have h3 := HI.out.2.1
        unfold wrap64; omega
      have E1 := Lib.hid e1; have E2 := Lib.hid e2
      clear e1 e2
      have HOK2 : Hid ((pairE E l r).ru.ok) := Lib.hid HOK.out
      have HFD2 : Hid (fid (pairE E l r).ru 1 E = 0) := Lib.hid HFD.out
      have HAD := Lib.hid (sadd_any (H.out.below B7.out) (pairE E l r) HOK2.out HFD2.out (by have := HI.out.2.1; omega))
      clear bw0 kw0 k7 b7 ka kb kr
      have hcs : a.even = false ∨ (a.even = true ∧ b.even = false) ∨ (a.even = true ∧ b.even = true ∧ decide (-1 ≤ (a.depth : Int) - b.depth) = false) ∨ (a.even = true ∧ b.even = true ∧ decide (-1 ≤ (a.depth : Int) - b.depth) = true) := by
        cases a.even <;> cases b.even <;> cases decide (-1 ≤ (a.depth : Int) - b.depth) <;> simp
      rcases hcs with hA | ⟨hA, hB⟩ | ⟨hA, hB, hD⟩ | ⟨hA, hB, hD⟩
      · have HBO : Hid ((a.even && b.even && decide (-1 ≤ (a.depth : Int) - b.depth) && decide ((a.depth : Int) - b.depth ≤ 1)) = false) := Lib.hid (by rw [hA]; rfl)
        go_wp2_with fail
        all_goals
          refine calls_arg (v' := enV (pairE E l r)) ?_ (HAD.out.mono ?_)
          · rw [HPE.out, HU.out]
            refine pairV_eq ?_ HBO.out.symm
            have e1 := E1.out; have e2 := E2.out
            first | rw [e1] | rw [e2] | skip
            clear e1 e2 hw1 hw2 hwd
            omega
          · rintro x w8 ⟨rfl, hS, hB', hK⟩
            have HS := Lib.hid hS; have HB8 := Lib.hid ((B7.out.mono HLT.out).trans hB'); have HK := Lib.hid ((Kt.of B7.out).trans hK)
            clear hS hB' hK
            go_wp2_with fail
            go_ret2
            exact ⟨by simp [errV], HS.out, HB8.out, HK.out⟩
      · have HBO : Hid ((a.even && b.even && decide (-1 ≤ (a.depth : Int) - b.depth) && decide ((a.depth : Int) - b.depth ≤ 1)) = false) := Lib.hid (by rw [hA, hB]; rfl)
        go_wp2_with fail
        all_goals
          refine calls_arg (v' := enV (pairE E l r)) ?_ (HAD.out.mono ?_)
          · rw [HPE.out, HU.out]
            refine pairV_eq ?_ HBO.out.symm
            have e1 := E1.out; have e2 := E2.out
            first | rw [e1] | rw [e2] | skip
            clear e1 e2 hw1 hw2 hwd
            omega
          · rintro x w8 ⟨rfl, hS, hB', hK⟩
            have HS := Lib.hid hS; have HB8 := Lib.hid ((B7.out.mono HLT.out).trans hB'); have HK := Lib.hid ((Kt.of B7.out).trans hK)
            clear hS hB' hK
            go_wp2_with fail
            go_ret2
            exact ⟨by simp [errV], HS.out, HB8.out, HK.out⟩
      · have HBO : Hid ((a.even && b.even && decide (-1 ≤ (a.depth : Int) - b.depth) && decide ((a.depth : Int) - b.depth ≤ 1)) = false) := Lib.hid (by rw [hA, hB, hD]; rfl)
        have hD2 : ¬ (-1 ≤ (a.depth : Int) - b.depth) := of_decide_eq_false hD
        go_wp2_with fail
        all_goals
          refine calls_arg (v' := enV (pairE E l r)) ?_ (HAD.out.mono ?_)
          · rw [HPE.out, HU.out]
            refine pairV_eq ?_ HBO.out.symm
            have e1 := E1.out; have e2 := E2.out
            first | rw [e1] | rw [e2] | skip
            clear e1 e2 hw1 hw2 hwd
            omega
          · rintro x w8 ⟨rfl, hS, hB', hK⟩
            have HS := Lib.hid hS; have HB8 := Lib.hid ((B7.out.mono HLT.out).trans hB'); have HK := Lib.hid ((Kt.of B7.out).trans hK)
            clear hS hB' hK
            go_wp2_with fail
            go_ret2
            exact ⟨by simp [errV], HS.out, HB8.out, HK.out⟩
      · have HBO : Hid ((a.even && b.even && decide (-1 ≤ (a.depth : Int) - b.depth) && decide ((a.depth : Int) - b.depth ≤ 1)) = decide ((a.depth : Int) - b.depth ≤ 1)) := Lib.hid (by rw [hA, hB, hD]; rfl)
        have hD2 : -1 ≤ (a.depth : Int) - b.depth := of_decide_eq_true hD
        go_wp2_with fail
        all_goals
          refine calls_arg (v' := enV (pairE E l r)) ?_ (HAD.out.mono ?_)
          · rw [HPE.out, HU.out]
            refine pairV_eq ?_ HBO.out.symm
            have e1 := E1.out; have e2 := E2.out
            first | rw [e1] | rw [e2] | skip
            clear e1 e2 hw1 hw2 hwd
            omega
          · rintro x w8 ⟨rfl, hS, hB', hK⟩
            have HS := Lib.hid hS; have HB8 := Lib.hid ((B7.out.mono HLT.out).trans hB'); have HK := Lib.hid ((Kt.of B7.out).trans hK)
            clear hS hB' hK
            go_wp2_with fail
            go_ret2
            exact ⟨by simp [errV], HS.out, HB8.out, HK.out⟩
    · rw [if_neg hf0]
      have hfn : ((f : Int) != 0) = true := by simp; omega
      go_enter Try.func75, Try.ntmps75
      go_wp2_with fail
      refine HK1.out.mono ?_; rintro x w ⟨rfl, h⟩; rw [h]; clear h w
      go_wp2_with fail
      refine HK2.out.mono ?_; rintro x w ⟨rfl, h⟩; rw [h]; clear h w
      go_wp2_with fail
      refine HA1.out.mono ?_; rintro x w1 ⟨rfl, b1⟩
      have HA2 := Lib.hid (at_any (H.out.below b1) HI.out.2.2.2 (by omega))
      rw [HHB.out] at HA2
      unfold enV at HA2
      have B1 := Lib.hid b1
      clear b1
      go_wp2_with fail
      refine HA2.out.mono ?_; rintro x w2 ⟨rfl, b2⟩
      have B2 := Lib.hid (Below.after B1.out b2)
      clear b2
      obtain ⟨Wz, hWz⟩ : ∃ w, (w2.alloc (.cells #[.int .i64 0, .int .u8 0, .int .i64 0, .int .i64 0, .int .i64 0, .int .i64 0, .int .i64 0, .int .i64 0, .int .i64 0, .int .u64 0, .int .u64 0, .int .i64 0, .bool false] 121)).alloc (.cells #[.int .i64 0, .int .u8 0, .int .i64 0, .int .i64 0, .int .i64 0, .int .i64 0, .int .i64 0, .int .i64 0, .int .i64 0, .int .u64 0, .int .u64 0, .int .i64 0, .bool false] 121) = w := ⟨_, rfl⟩
      obtain ⟨g, hg⟩ : ∃ g, w2.heap.size = g := ⟨_, rfl⟩
      have bz : Below w2.heap.size w2 Wz := by rw [← hWz]; exact ((Below.refl _ _).alloc (Nat.le_refl _) _).alloc (by simp) _
      have z1 : EnC Wz g en0 := by rw [← hWz, ← hg]; exact below_block ((Below.refl _ _).alloc (Nat.le_refl _) _) (EnC.zero w2)
      have z2 : EnC Wz (g + 1) en0 := by
        rw [← hWz, ← hg]
        have := EnC.zero (w2.alloc (.cells #[.int .i64 0, .int .u8 0, .int .i64 0, .int .i64 0, .int .i64 0, .int .i64 0, .int .i64 0, .int .i64 0, .int .i64 0, .int .u64 0, .int .u64 0, .int .i64 0, .bool false] 121))
        rw [World.size_alloc] at this
        exact this
      obtain ⟨WA, hWA⟩ : ∃ w, setE Wz g a = w := ⟨_, rfl⟩
      have kA : EnC WA g a := by rw [← hWA]; exact z1.set a
      have bA : Below w2.heap.size w2 WA := by rw [← hWA]; exact setE_below bz (by omega) a
      have zA : EnC WA (g + 1) en0 := by
        rw [← hWA]
        exact set_other (by omega) (set_other (by omega) (set_other (by omega) (set_other (by omega) (set_other (by omega) (set_other (by omega) (set_other (by omega) (set_other (by omega) (set_other (by omega) (set_other (by omega) (set_other (by omega) (set_other (by omega) (set_other (by omega) (z2)))))))))))))
      obtain ⟨w3, hw3⟩ : ∃ w, setE WA (g + 1) b = w := ⟨_, rfl⟩
      have kB : EnC w3 (g + 1) b := by rw [← hw3]; exact zA.set b
      have kA3 : EnC w3 g a := by
        rw [← hw3]
        exact set_other (by omega) (set_other (by omega) (set_other (by omega) (set_other (by omega) (set_other (by omega) (set_other (by omega) (set_other (by omega) (set_other (by omega) (set_other (by omega) (set_other (by omega) (set_other (by omega) (set_other (by omega) (set_other (by omega) (kA)))))))))))))
      have b3 : Below w2.heap.size w2 w3 := by rw [← hw3]; exact setE_below bA (by omega) b
      have HA3 := Lib.hid kA3; have HB3 := Lib.hid kB; have B3 := Lib.hid (Below.after B2.out b3)
      obtain ⟨p0, p1, p2, p3, p4, p5, p6, p7, p8, p9, p10, p11, p12⟩ : Wz.cell? ⟨g, 0, none⟩ = some (.int .i64 0) ∧ Wz.cell? ⟨g, 1, none⟩ = some (.int .u8 0) ∧ Wz.cell? ⟨g, 2, none⟩ = some (.int .i64 0) ∧ Wz.cell? ⟨g, 3, none⟩ = some (.int .i64 0) ∧ Wz.cell? ⟨g, 4, none⟩ = some (.int .i64 0) ∧ Wz.cell? ⟨g, 5, none⟩ = some (.int .i64 0) ∧ Wz.cell? ⟨g, 6, none⟩ = some (.int .i64 0) ∧ Wz.cell? ⟨g, 7, none⟩ = some (.int .i64 0) ∧ Wz.cell? ⟨g, 8, none⟩ = some (.int .i64 0) ∧ Wz.cell? ⟨g, 9, none⟩ = some (.int .u64 0) ∧ Wz.cell? ⟨g, 10, none⟩ = some (.int .u64 0) ∧ Wz.cell? ⟨g, 11, none⟩ = some (.int .i64 0) ∧ Wz.cell? ⟨g, 12, none⟩ = some (.bool false) := z1.cells
      have pf0 := z1.free 0; have pf1 := z1.free 1; have pf2 := z1.free 2; have pf3 := z1.free 3; have pf4 := z1.free 4; have pf5 := z1.free 5; have pf6 := z1.free 6; have pf7 := z1.free 7; have pf8 := z1.free 8; have pf9 := z1.free 9; have pf10 := z1.free 10; have pf11 := z1.free 11; have pf12 := z1.free 12
      obtain ⟨q0, q1, q2, q3, q4, q5, q6, q7, q8, q9, q10, q11, q12⟩ : WA.cell? ⟨g + 1, 0, none⟩ = some (.int .i64 0) ∧ WA.cell? ⟨g + 1, 1, none⟩ = some (.int .u8 0) ∧ WA.cell? ⟨g + 1, 2, none⟩ = some (.int .i64 0) ∧ WA.cell? ⟨g + 1, 3, none⟩ = some (.int .i64 0) ∧ WA.cell? ⟨g + 1, 4, none⟩ = some (.int .i64 0) ∧ WA.cell? ⟨g + 1, 5, none⟩ = some (.int .i64 0) ∧ WA.cell? ⟨g + 1, 6, none⟩ = some (.int .i64 0) ∧ WA.cell? ⟨g + 1, 7, none⟩ = some (.int .i64 0) ∧ WA.cell? ⟨g + 1, 8, none⟩ = some (.int .i64 0) ∧ WA.cell? ⟨g + 1, 9, none⟩ = some (.int .u64 0) ∧ WA.cell? ⟨g + 1, 10, none⟩ = some (.int .u64 0) ∧ WA.cell? ⟨g + 1, 11, none⟩ = some (.int .i64 0) ∧ WA.cell? ⟨g + 1, 12, none⟩ = some (.bool false) := zA.cells
      have qf0 := zA.free 0; have qf1 := zA.free 1; have qf2 := zA.free 2; have qf3 := zA.free 3; have qf4 := zA.free 4; have qf5 := zA.free 5; have qf6 := zA.free 6; have qf7 := zA.free 7; have qf8 := zA.free 8; have qf9 := zA.free 9; have qf10 := zA.free 10; have qf11 := zA.free 11; have qf12 := zA.free 12
      simp only [setE] at hWA hw3
      obtain ⟨x0, x1, x2, x3, x4, x5, x6, x7, x8, x9, x10, x11, x12⟩ := kA3.cells
      obtain ⟨y0, y1, y2, y3, y4, y5, y6, y7, y8, y9, y10, y11, y12⟩ := kB.cells
      clear bz z1 z2 kA bA zA kB kA3 b3
      go_wp2_with fail
      refine (add1_any w3 HOA.out.1.le HOB.out.1.le).mono ?_; rintro x w ⟨rfl, h⟩; rw [h, if_pos HSM.out]; clear h w
      clear hWz hWA hw3 p0 p1 p2 p3 p4 p5 p6 p7 p8 p9 p10 p11 p12 pf0 pf1 pf2 pf3 pf4 pf5 pf6 pf7 pf8 pf9 pf10 pf11 pf12 q0 q1 q2 q3 q4 q5 q6 q7 q8 q9 q10 q11 q12 qf0 qf1 qf2 qf3 qf4 qf5 qf6 qf7 qf8 qf9 qf10 qf11 qf12
      obtain ⟨Wr, hWr⟩ : ∃ w, w3.alloc (.cells #[.int .i64 0, .int .u8 0, .int .i64 0, .int .i64 0, .int .i64 0] 111) = w := ⟨_, rfl⟩
      obtain ⟨rg, hrg⟩ : ∃ g, w3.heap.size = g := ⟨_, rfl⟩
      have kr0 : RuC Wr rg ⟨0, 0, 0, 0, 0⟩ := by rw [← hWr, ← hrg]; exact heap_new' _ _
      have br0 : Below w3.heap.size w3 Wr := by rw [← hWr]; exact (Below.refl _ _).alloc (Nat.le_refl _) _
      obtain ⟨z0, z1, z2, z3, z4⟩ : Wr.cell? ⟨rg, 0, none⟩ = some (.int .i64 0) ∧ Wr.cell? ⟨rg, 1, none⟩ = some (.int .u8 0) ∧ Wr.cell? ⟨rg, 2, none⟩ = some (.int .i64 0) ∧ Wr.cell? ⟨rg, 3, none⟩ = some (.int .i64 0) ∧ Wr.cell? ⟨rg, 4, none⟩ = some (.int .i64 0) := kr0.cells
      have s0 := kr0.free 0; have s1 := kr0.free 1; have s2 := kr0.free 2; have s3 := kr0.free 3; have s4 := kr0.free 4
      obtain ⟨w4, hw4⟩ : ∃ w, ((((Wr.setCell ⟨rg, 0, none⟩ (.int .i64 2)).setCell ⟨rg, 1, none⟩ (.int .u8 0)).setCell ⟨rg, 2, none⟩ (.int .i64 l)).setCell ⟨rg, 3, none⟩ (.int .i64 r)).setCell ⟨rg, 4, none⟩ (.int .i64 0) = w := ⟨_, rfl⟩
      have k4 : RuC w4 rg ⟨2, 0, l, r, 0⟩ := by rw [← hw4]; exact kr0.set ⟨2, 0, l, r, 0⟩
      have b4 : Below w3.heap.size w3 w4 := by
        rw [← hw4]
        exact ((((br0.setCell (p := ⟨rg, 0, none⟩) (by dsimp only; omega) _).setCell (p := ⟨rg, 1, none⟩) (by dsimp only; omega) _).setCell (p := ⟨rg, 2, none⟩) (by dsimp only; omega) _).setCell (p := ⟨rg, 3, none⟩) (by dsimp only; omega) _).setCell (p := ⟨rg, 4, none⟩) (by dsimp only; omega) _
      have HR4 := Lib.hid k4; have B4 := Lib.hid (Below.after B3.out b4)
      have HA4 := Lib.hid (below_block b4 HA3.out); have HB4 := Lib.hid (below_block b4 HB3.out)
      obtain ⟨c0, c1, c2, c3, c4⟩ : w4.cell? ⟨rg, 0, none⟩ = some (.int .i64 2) ∧ w4.cell? ⟨rg, 1, none⟩ = some (.int .u8 0) ∧ w4.cell? ⟨rg, 2, none⟩ = some (.int .i64 l) ∧ w4.cell? ⟨rg, 3, none⟩ = some (.int .i64 r) ∧ w4.cell? ⟨rg, 4, none⟩ = some (.int .i64 0) := k4.cells
      have HOK : Hid (Ru.ok ⟨2, 0, l, r, 0⟩) := Lib.hid ⟨by show 2 ≤ _; omega, by show 0 ≤ 255; omega, by show l ≤ _; have := HI.out.2.2.1; omega, by show r ≤ _; have := HI.out.2.2.2; omega, Nat.zero_le _⟩
      have HFI := Lib.hid (find_any (H.out.below B4.out) HOK.out)
      rw [HFD.out] at HFI
      rw [if_neg (fun h => hf0 h.1)] at HFI
      clear kr0 br0 k4 b4
      go_wp2_with fail
      refine HFI.out.mono ?_; rintro x w5 ⟨rfl, b5⟩
      have B5 := Lib.hid (Below.after B4.out b5)
      have HA5 := Lib.hid (below_block b5 HA4.out); have HB5 := Lib.hid (below_block b5 HB4.out); have HR5 := Lib.hid (below_block b5 HR4.out)
      clear hWr hw4 z0 z1 z2 z3 z4 s0 s1 s2 s3 s4 c0 c1 c2 c3 c4 b5 x0 x1 x2 x3 x4 x5 x6 x7 x8 x9 x10 x11 x12 y0 y1 y2 y3 y4 y5 y6 y7 y8 y9 y10 y11 y12
      go_wp2_with fail
      go_ret2
      exact ⟨rfl, H.out.below B5.out, B5.out.mono HLT.out, Kt.of B5.out⟩
  · rw [if_neg hs]
    go_enter Try.func75, Try.ntmps75
    go_wp2_with fail
    refine HK1.out.mono ?_; rintro x w ⟨rfl, h⟩; rw [h]; clear h w
    go_wp2_with fail
    refine HK2.out.mono ?_; rintro x w ⟨rfl, h⟩; rw [h]; clear h w
    go_wp2_with fail
    refine HA1.out.mono ?_; rintro x w1 ⟨rfl, b1⟩
    have HA2 := Lib.hid (at_any (H.out.below b1) HI.out.2.2.2 (by omega))
    rw [HHB.out] at HA2
    unfold enV at HA2
    have B1 := Lib.hid b1
    clear b1
    go_wp2_with fail
    refine HA2.out.mono ?_; rintro x w2 ⟨rfl, b2⟩
    have B2 := Lib.hid (Below.after B1.out b2)
    clear b2
    obtain ⟨Wz, hWz⟩ : ∃ w, (w2.alloc (.cells #[.int .i64 0, .int .u8 0, .int .i64 0, .int .i64 0, .int .i64 0, .int .i64 0, .int .i64 0, .int .i64 0, .int .i64 0, .int .u64 0, .int .u64 0, .int .i64 0, .bool false] 121)).alloc (.cells #[.int .i64 0, .int .u8 0, .int .i64 0, .int .i64 0, .int .i64 0, .int .i64 0, .int .i64 0, .int .i64 0, .int .i64 0, .int .u64 0, .int .u64 0, .int .i64 0, .bool false] 121) = w := ⟨_, rfl⟩
    obtain ⟨g, hg⟩ : ∃ g, w2.heap.size = g := ⟨_, rfl⟩
    have bz : Below w2.heap.size w2 Wz := by rw [← hWz]; exact ((Below.refl _ _).alloc (Nat.le_refl _) _).alloc (by simp) _
    have z1 : EnC Wz g en0 := by rw [← hWz, ← hg]; exact below_block ((Below.refl _ _).alloc (Nat.le_refl _) _) (EnC.zero w2)
    have z2 : EnC Wz (g + 1) en0 := by
      rw [← hWz, ← hg]
      have := EnC.zero (w2.alloc (.cells #[.int .i64 0, .int .u8 0, .int .i64 0, .int .i64 0, .int .i64 0, .int .i64 0, .int .i64 0, .int .i64 0, .int .i64 0, .int .u64 0, .int .u64 0, .int .i64 0, .bool false] 121))
      rw [World.size_alloc] at this
      exact this
    obtain ⟨WA, hWA⟩ : ∃ w, setE Wz g a = w := ⟨_, rfl⟩
    have kA : EnC WA g a := by rw [← hWA]; exact z1.set a
    have bA : Below w2.heap.size w2 WA := by rw [← hWA]; exact setE_below bz (by omega) a
    have zA : EnC WA (g + 1) en0 := by
      rw [← hWA]
      exact set_other (by omega) (set_other (by omega) (set_other (by omega) (set_other (by omega) (set_other (by omega) (set_other (by omega) (set_other (by omega) (set_other (by omega) (set_other (by omega) (set_other (by omega) (set_other (by omega) (set_other (by omega) (set_other (by omega) (z2)))))))))))))
    obtain ⟨w3, hw3⟩ : ∃ w, setE WA (g + 1) b = w := ⟨_, rfl⟩
    have kB : EnC w3 (g + 1) b := by rw [← hw3]; exact zA.set b
    have kA3 : EnC w3 g a := by
      rw [← hw3]
      exact set_other (by omega) (set_other (by omega) (set_other (by omega) (set_other (by omega) (set_other (by omega) (set_other (by omega) (set_other (by omega) (set_other (by omega) (set_other (by omega) (set_other (by omega) (set_other (by omega) (set_other (by omega) (set_other (by omega) (kA)))))))))))))
    have b3 : Below w2.heap.size w2 w3 := by rw [← hw3]; exact setE_below bA (by omega) b
    have HA3 := Lib.hid kA3; have HB3 := Lib.hid kB; have B3 := Lib.hid (Below.after B2.out b3)
    obtain ⟨p0, p1, p2, p3, p4, p5, p6, p7, p8, p9, p10, p11, p12⟩ : Wz.cell? ⟨g, 0, none⟩ = some (.int .i64 0) ∧ Wz.cell? ⟨g, 1, none⟩ = some (.int .u8 0) ∧ Wz.cell? ⟨g, 2, none⟩ = some (.int .i64 0) ∧ Wz.cell? ⟨g, 3, none⟩ = some (.int .i64 0) ∧ Wz.cell? ⟨g, 4, none⟩ = some (.int .i64 0) ∧ Wz.cell? ⟨g, 5, none⟩ = some (.int .i64 0) ∧ Wz.cell? ⟨g, 6, none⟩ = some (.int .i64 0) ∧ Wz.cell? ⟨g, 7, none⟩ = some (.int .i64 0) ∧ Wz.cell? ⟨g, 8, none⟩ = some (.int .i64 0) ∧ Wz.cell? ⟨g, 9, none⟩ = some (.int .u64 0) ∧ Wz.cell? ⟨g, 10, none⟩ = some (.int .u64 0) ∧ Wz.cell? ⟨g, 11, none⟩ = some (.int .i64 0) ∧ Wz.cell? ⟨g, 12, none⟩ = some (.bool false) := z1.cells
    have pf0 := z1.free 0; have pf1 := z1.free 1; have pf2 := z1.free 2; have pf3 := z1.free 3; have pf4 := z1.free 4; have pf5 := z1.free 5; have pf6 := z1.free 6; have pf7 := z1.free 7; have pf8 := z1.free 8; have pf9 := z1.free 9; have pf10 := z1.free 10; have pf11 := z1.free 11; have pf12 := z1.free 12
    obtain ⟨q0, q1, q2, q3, q4, q5, q6, q7, q8, q9, q10, q11, q12⟩ : WA.cell? ⟨g + 1, 0, none⟩ = some (.int .i64 0) ∧ WA.cell? ⟨g + 1, 1, none⟩ = some (.int .u8 0) ∧ WA.cell? ⟨g + 1, 2, none⟩ = some (.int .i64 0) ∧ WA.cell? ⟨g + 1, 3, none⟩ = some (.int .i64 0) ∧ WA.cell? ⟨g + 1, 4, none⟩ = some (.int .i64 0) ∧ WA.cell? ⟨g + 1, 5, none⟩ = some (.int .i64 0) ∧ WA.cell? ⟨g + 1, 6, none⟩ = some (.int .i64 0) ∧ WA.cell? ⟨g + 1, 7, none⟩ = some (.int .i64 0) ∧ WA.cell? ⟨g + 1, 8, none⟩ = some (.int .i64 0) ∧ WA.cell? ⟨g + 1, 9, none⟩ = some (.int .u64 0) ∧ WA.cell? ⟨g + 1, 10, none⟩ = some (.int .u64 0) ∧ WA.cell? ⟨g + 1, 11, none⟩ = some (.int .i64 0) ∧ WA.cell? ⟨g + 1, 12, none⟩ = some (.bool false) := zA.cells
    have qf0 := zA.free 0; have qf1 := zA.free 1; have qf2 := zA.free 2; have qf3 := zA.free 3; have qf4 := zA.free 4; have qf5 := zA.free 5; have qf6 := zA.free 6; have qf7 := zA.free 7; have qf8 := zA.free 8; have qf9 := zA.free 9; have qf10 := zA.free 10; have qf11 := zA.free 11; have qf12 := zA.free 12
    simp only [setE] at hWA hw3
    obtain ⟨x0, x1, x2, x3, x4, x5, x6, x7, x8, x9, x10, x11, x12⟩ := kA3.cells
    obtain ⟨y0, y1, y2, y3, y4, y5, y6, y7, y8, y9, y10, y11, y12⟩ := kB.cells
    clear bz z1 z2 kA bA zA kB kA3 b3
    go_wp2_with fail
    refine (add1_any w3 HOA.out.1.le HOB.out.1.le).mono ?_; rintro x w ⟨rfl, h⟩; rw [h, if_neg hs, err_two]; clear h w
    clear hWz hWA hw3 p0 p1 p2 p3 p4 p5 p6 p7 p8 p9 p10 p11 p12 pf0 pf1 pf2 pf3 pf4 pf5 pf6 pf7 pf8 pf9 pf10 pf11 pf12 q0 q1 q2 q3 q4 q5 q6 q7 q8 q9 q10 q11 q12 qf0 qf1 qf2 qf3 qf4 qf5 qf6 qf7 qf8 qf9 qf10 qf11 qf12
    go_wp2_with fail
    go_ret2
    exact ⟨rfl, H.out.below B3.out, B3.out.mono HLT.out, Kt.of B3.out⟩
end M
end Go.Proofs.Ytplccefjljdjnaa
