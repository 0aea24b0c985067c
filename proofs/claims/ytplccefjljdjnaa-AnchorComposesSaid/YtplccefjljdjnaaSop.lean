/- The store of rules: Power.
The store of rules: Pair and Power for whatever numbers are there; what they keep.
What Letter, Pair and Power make of a store whose rules fit. No walk.
What a rule of a store that fits says of its text. No walk. -/
import Derived.Test.YtplccefjljdjnaaStorePair
import Derived.Test.YtplccefjljdjnaaSto
set_option linter.unusedVariables false
set_option linter.unusedSimpArgs false
namespace Go.Proofs.Ytplccefjljdjnaa
open Go.RowKit
namespace M
attribute [local go_sem] Oper.semAt_some
/-- The entry of a power. -/
def powE (E : List En) (l k : Nat) : En := ⟨⟨3, 0, l, 0, k⟩, wt (rep k (txt E l)), 1 + (entAt E l).depth, false⟩
/-- What Power answers: the store, the number, the error. -/
def powF (E : List En) (l k : Nat) : List En × Nat × Int :=
  if k = 0 ∨ l = 0 then (E, 0, 0) else if k = 1 then (E, l, 0) else if (entAt E l).w.len * k ≤ 1152921504606846976 then ((addF E (powE E l k)).1, (addF E (powE E l k)).2, 0) else (E, 0, 2)
theorem powV_eq {l k : Nat} {u : Wt} {d : Int} {d' : Nat} (hd : d = (d' : Int)) : Value.agg #[.int .i64 3, .int .u8 0, .int .i64 l, .int .i64 0, .int .i64 k, .int .i64 u.len, .int .i64 u.lines, .int .i64 u.head, .int .i64 u.tail, .int .u64 u.d.v, .int .u64 u.d.s, .int .i64 d, .bool false] = enV ⟨⟨3, 0, l, 0, k⟩, u, d', false⟩ := by rw [hd]; rfl
set_option maxRecDepth 100000 in
set_option maxHeartbeats 4000000 in
theorem power_some {n0 B most : Nat} {W : World} {E : List En} (h : StAt n0 W B most E) (hwf : Wf E) {l k : Nat} (hl0 : 0 < l) (hl : l ≤ E.length) (hk2 : 2 ≤ k) (hk : k ≤ 9223372036854775807) (hroom : E.length < most) (hE : E.length ≤ 1048575) :
    Calls Try.prog 32 #[.pointer (some ⟨B, 0, none⟩), .int .i64 l, .int .i64 k] W fun x w' => x = .returned (.tuple #[.int .i64 (powF E l k).2.1, errV (powF E l k).2.2]) ∧ StAt n0 w' B most (powF E l k).1 ∧ Below n0 W w' ∧ Kt W w' := by
  have HF : ∀ f, Fence.wide.fn f := fun _ => trivial
  have hlt := h.lt
  have HLT := Lib.hid hlt
  have HK1 := Lib.hid (known_any h (l : Int))
  rw [decide_eq_true (show 0 ≤ (l : Int) ∧ (l : Int) ≤ (E.length : Int) by omega)] at HK1
  have g1 := hwf.get l hl0 hl
  have HA1 := Lib.hid (at_any h hl (by omega))
  obtain ⟨a, ha⟩ : ∃ a, entAt E l = a := ⟨_, rfl⟩
  obtain ⟨t, ht⟩ : ∃ t, txt E l = t := ⟨_, rfl⟩
  have HWT : Hid (a.w = wt t ∧ 0 < t.length ∧ a.w.len = t.length) := Lib.hid (by
    rw [ha, ht] at g1
    exact ⟨g1.1, g1.2.2.1, by rw [g1.1]; rfl⟩)
  have HOA : Hid (WtOk a.w ∧ a.depth ≤ E.length) := Lib.hid ⟨by rw [← ha, g1.1]; exact wt_ok g1.2.1, by rw [← ha]; have := g1.2.2.2; omega⟩
  have HPF : Hid (powF E l k = if a.w.len * k ≤ 1152921504606846976 then ((addF E (powE E l k)).1, (addF E (powE E l k)).2, 0) else (E, 0, 2)) := Lib.hid (by unfold powF; rw [if_neg (by omega), if_neg (by omega), ha])
  have HPE : Hid (powE E l k = ⟨⟨3, 0, l, 0, k⟩, wt (rep k t), 1 + a.depth, false⟩) := Lib.hid (by unfold powE; rw [ha, ht])
  rw [ha] at HA1
  unfold enV at HA1
  have H := Lib.hid h
  have l0 : ((l : Int) == 0) = false := by simp; omega
  have k0 : ((k : Int) == 0) = false := by simp; omega
  have k1 : ((k : Int) == 1) = false := by simp; omega
  have kn : ¬ ((k : Int) < 0) := by omega
  have HI := Lib.hid (And.intro hroom (And.intro hE (And.intro hl (And.intro hk2 hk))))
  clear g1 ha ht hlt h hwf hroom hl hk2 hk
  rw [HPF.out]
  by_cases hs : a.w.len * k ≤ 1152921504606846976
  · rw [if_pos hs]
    have HSM := Lib.hid hs
    obtain ⟨f, hf⟩ : ∃ f, fid (powE E l k).ru 1 E = f := ⟨_, rfl⟩
    have hru : (powE E l k).ru = ⟨3, 0, l, 0, k⟩ := rfl
    rw [hru] at hf
    have HFD := Lib.hid hf
    have HAF : Hid (addF E (powE E l k) = if f = 0 then (E ++ [powE E l k], E.length + 1) else (E, f)) := Lib.hid (by unfold addF; rw [hru, hf])
    rw [HAF.out]
    clear hf hru
    by_cases hf0 : f = 0
    · rw [if_pos hf0]
      subst hf0
      go_enter Try.func32, Try.ntmps32
      go_wp2_with fail
      refine HK1.out.mono ?_; rintro x w ⟨rfl, h⟩; rw [h]; clear h w
      go_wp2_with fail
      refine HA1.out.mono ?_; rintro x w2 ⟨rfl, b1⟩
      have B2 := Lib.hid b1
      clear b1
      obtain ⟨Wz, hWz⟩ : ∃ w, w2.alloc (.cells #[.int .i64 0, .int .u8 0, .int .i64 0, .int .i64 0, .int .i64 0, .int .i64 0, .int .i64 0, .int .i64 0, .int .i64 0, .int .u64 0, .int .u64 0, .int .i64 0, .bool false] 121) = w := ⟨_, rfl⟩
      obtain ⟨g, hg⟩ : ∃ g, w2.heap.size = g := ⟨_, rfl⟩
      have bz : Below w2.heap.size w2 Wz := by rw [← hWz]; exact (Below.refl _ _).alloc (Nat.le_refl _) _
      have z1 : EnC Wz g en0 := by rw [← hWz, ← hg]; exact EnC.zero w2
      obtain ⟨w3, hw3⟩ : ∃ w, setE Wz g a = w := ⟨_, rfl⟩
      have kA3 : EnC w3 g a := by rw [← hw3]; exact z1.set a
      have b3 : Below w2.heap.size w2 w3 := by rw [← hw3]; exact setE_below bz (by omega) a
      have HA3 := Lib.hid kA3; have B3 := Lib.hid (Below.after B2.out b3)
      obtain ⟨p0, p1, p2, p3, p4, p5, p6, p7, p8, p9, p10, p11, p12⟩ : Wz.cell? ⟨g, 0, none⟩ = some (.int .i64 0) ∧ Wz.cell? ⟨g, 1, none⟩ = some (.int .u8 0) ∧ Wz.cell? ⟨g, 2, none⟩ = some (.int .i64 0) ∧ Wz.cell? ⟨g, 3, none⟩ = some (.int .i64 0) ∧ Wz.cell? ⟨g, 4, none⟩ = some (.int .i64 0) ∧ Wz.cell? ⟨g, 5, none⟩ = some (.int .i64 0) ∧ Wz.cell? ⟨g, 6, none⟩ = some (.int .i64 0) ∧ Wz.cell? ⟨g, 7, none⟩ = some (.int .i64 0) ∧ Wz.cell? ⟨g, 8, none⟩ = some (.int .i64 0) ∧ Wz.cell? ⟨g, 9, none⟩ = some (.int .u64 0) ∧ Wz.cell? ⟨g, 10, none⟩ = some (.int .u64 0) ∧ Wz.cell? ⟨g, 11, none⟩ = some (.int .i64 0) ∧ Wz.cell? ⟨g, 12, none⟩ = some (.bool false) := z1.cells
      have pf0 := z1.free 0; have pf1 := z1.free 1; have pf2 := z1.free 2; have pf3 := z1.free 3; have pf4 := z1.free 4; have pf5 := z1.free 5; have pf6 := z1.free 6; have pf7 := z1.free 7; have pf8 := z1.free 8; have pf9 := z1.free 9; have pf10 := z1.free 10; have pf11 := z1.free 11; have pf12 := z1.free 12
      simp only [setE] at hw3
      obtain ⟨x0, x1, x2, x3, x4, x5, x6, x7, x8, x9, x10, x11, x12⟩ := kA3.cells
      clear bz z1 kA3 b3
      go_wp2_with fail
      refine (mul1_any w3 HOA.out.1.le (by rw [HWT.out.2.2]; exact HWT.out.2.1) HI.out.2.2.2.2).mono ?_; rintro x w ⟨rfl, h⟩; rw [h, if_pos HSM.out]; clear h w
      clear hWz hw3 p0 p1 p2 p3 p4 p5 p6 p7 p8 p9 p10 p11 p12 pf0 pf1 pf2 pf3 pf4 pf5 pf6 pf7 pf8 pf9 pf10 pf11 pf12
      obtain ⟨Wr, hWr⟩ : ∃ w, w3.alloc (.cells #[.int .i64 0, .int .u8 0, .int .i64 0, .int .i64 0, .int .i64 0] 111) = w := ⟨_, rfl⟩
      obtain ⟨rg, hrg⟩ : ∃ g, w3.heap.size = g := ⟨_, rfl⟩
      have kr0 : RuC Wr rg ⟨0, 0, 0, 0, 0⟩ := by rw [← hWr, ← hrg]; exact heap_new' _ _
      have br0 : Below w3.heap.size w3 Wr := by rw [← hWr]; exact (Below.refl _ _).alloc (Nat.le_refl _) _
      obtain ⟨z0, z1, z2, z3, z4⟩ : Wr.cell? ⟨rg, 0, none⟩ = some (.int .i64 0) ∧ Wr.cell? ⟨rg, 1, none⟩ = some (.int .u8 0) ∧ Wr.cell? ⟨rg, 2, none⟩ = some (.int .i64 0) ∧ Wr.cell? ⟨rg, 3, none⟩ = some (.int .i64 0) ∧ Wr.cell? ⟨rg, 4, none⟩ = some (.int .i64 0) := kr0.cells
      have s0 := kr0.free 0; have s1 := kr0.free 1; have s2 := kr0.free 2; have s3 := kr0.free 3; have s4 := kr0.free 4
      obtain ⟨w4, hw4⟩ : ∃ w, ((((Wr.setCell ⟨rg, 0, none⟩ (.int .i64 3)).setCell ⟨rg, 1, none⟩ (.int .u8 0)).setCell ⟨rg, 2, none⟩ (.int .i64 l)).setCell ⟨rg, 3, none⟩ (.int .i64 0)).setCell ⟨rg, 4, none⟩ (.int .i64 k) = w := ⟨_, rfl⟩
      have k4 : RuC w4 rg ⟨3, 0, l, 0, k⟩ := by rw [← hw4]; exact kr0.set ⟨3, 0, l, 0, k⟩
      have b4 : Below w3.heap.size w3 w4 := by
        rw [← hw4]
        exact ((((br0.setCell (p := ⟨rg, 0, none⟩) (by dsimp only; omega) _).setCell (p := ⟨rg, 1, none⟩) (by dsimp only; omega) _).setCell (p := ⟨rg, 2, none⟩) (by dsimp only; omega) _).setCell (p := ⟨rg, 3, none⟩) (by dsimp only; omega) _).setCell (p := ⟨rg, 4, none⟩) (by dsimp only; omega) _
      have HR4 := Lib.hid k4; have B4 := Lib.hid (Below.after B3.out b4)
      have HA4 := Lib.hid (below_block b4 HA3.out)
      obtain ⟨c0, c1, c2, c3, c4⟩ : w4.cell? ⟨rg, 0, none⟩ = some (.int .i64 3) ∧ w4.cell? ⟨rg, 1, none⟩ = some (.int .u8 0) ∧ w4.cell? ⟨rg, 2, none⟩ = some (.int .i64 l) ∧ w4.cell? ⟨rg, 3, none⟩ = some (.int .i64 0) ∧ w4.cell? ⟨rg, 4, none⟩ = some (.int .i64 k) := k4.cells
      have HOK : Hid (Ru.ok ⟨3, 0, l, 0, k⟩) := Lib.hid ⟨by show 3 ≤ _; omega, by show 0 ≤ 255; omega, by show l ≤ _; have h1 := HI.out.2.2.1; have h2 := HI.out.2.1; omega, Nat.zero_le _, HI.out.2.2.2.2⟩
      have HFI := Lib.hid (find_any (H.out.below B4.out) HOK.out)
      rw [HFD.out] at HFI
      rw [if_neg (fun h => by have := h.2; have := HI.out.1; omega)] at HFI
      clear kr0 br0 k4 b4
      go_wp2_with fail
      refine HFI.out.mono ?_; rintro x w5 ⟨rfl, b5⟩
      have B5 := Lib.hid (Below.after B4.out b5)
      have HA5 := Lib.hid (below_block b5 HA4.out); have HR5 := Lib.hid (below_block b5 HR4.out)
      clear hWr hw4 z0 z1 z2 z3 z4 s0 s1 s2 s3 s4 c0 c1 c2 c3 c4 b5 x0 x1 x2 x3 x4 x5 x6 x7 x8 x9 x10 x11 x12
      obtain ⟨x0, x1, x2, x3, x4, x5, x6, x7, x8, x9, x10, x11, x12⟩ := EnC.cells HA5.out
      go_wp2_with fail
      have HRP := Lib.hid (wrep_any w5 (t := t) (k := k) (by have := HI.out.2.2.2.1; omega) HI.out.2.2.2.2 HWT.out.2.1 (by rw [← HWT.out.2.2]; exact HSM.out))
      rw [← HWT.out.1] at HRP
      refine HRP.out.mono ?_; rintro x w6 ⟨rfl, b6⟩
      obtain ⟨u, hu⟩ : ∃ u, wt (rep k t) = u := ⟨_, rfl⟩
      have HU := Lib.hid hu
      have ev : wtV u = .agg #[.int .i64 u.len, .int .i64 u.lines, .int .i64 u.head, .int .i64 u.tail, .int .u64 u.d.v, .int .u64 u.d.s] := rfl
      rw [hu, ev]
      clear hu ev HRP
      have B6 := Lib.hid (Below.after B5.out b6)
      have HA6 := Lib.hid (below_block b6 HA5.out); have HR6 := Lib.hid (below_block b6 HR5.out)
      clear b6 x0 x1 x2 x3 x4 x5 x6 x7 x8 x9 x10 x11 x12
      obtain ⟨Ww, hWw⟩ : ∃ w, w6.alloc (.cells #[.int .i64 0, .int .i64 0, .int .i64 0, .int .i64 0, .int .u64 0, .int .u64 0] 118) = w := ⟨_, rfl⟩
      obtain ⟨wg, hwg⟩ : ∃ g, w6.heap.size = g := ⟨_, rfl⟩
      have kw0 : WtC Ww wg w0 := by rw [← hWw, ← hwg]; exact heap_new' _ _
      have bw0 : Below w6.heap.size w6 Ww := by rw [← hWw]; exact (Below.refl _ _).alloc (Nat.le_refl _) _
      obtain ⟨p0, p1, p2, p3, p4, p5⟩ := kw0.cells
      have q0 := kw0.free 0; have q1 := kw0.free 1; have q2 := kw0.free 2; have q3 := kw0.free 3; have q4 := kw0.free 4; have q5 := kw0.free 5
      simp only [w0] at p0 p1 p2 p3 p4 p5
      obtain ⟨w7, hw7⟩ : ∃ w, setW Ww wg u = w := ⟨_, rfl⟩
      have k7 : WtC w7 wg u := by rw [← hw7]; exact kw0.set u
      have b7 : Below w6.heap.size w6 w7 := by rw [← hw7]; exact setW_below bw0 (by omega) u
      simp only [setW] at hw7
      have ka := below_block b7 HA6.out; have kr : RuC w7 rg ⟨3, 0, l, 0, k⟩ := below_block b7 HR6.out
      obtain ⟨x0, x1, x2, x3, x4, x5, x6, x7, x8, x9, x10, x11, x12⟩ := EnC.cells ka
      obtain ⟨c0, c1, c2, c3, c4⟩ : w7.cell? ⟨rg, 0, none⟩ = some (.int .i64 3) ∧ w7.cell? ⟨rg, 1, none⟩ = some (.int .u8 0) ∧ w7.cell? ⟨rg, 2, none⟩ = some (.int .i64 l) ∧ w7.cell? ⟨rg, 3, none⟩ = some (.int .i64 0) ∧ w7.cell? ⟨rg, 4, none⟩ = some (.int .i64 k) := RuC.cells kr
      obtain ⟨d0, d1, d2, d3, d4, d5⟩ := k7.cells
      have B7 := Lib.hid (Below.after B6.out b7)
      have hw1 : IntKind.i64.wrap (1 + (a.depth : Int)) = ((1 + a.depth : Nat) : Int) := by
        have h1 := HOA.out.2; have h3 := HI.out.2.1
        rw [IntKind.wrap_i64]; omega
      have e1 : wrap64 (1 + (a.depth : Int)) = 1 + (a.depth : Int) := by
        have h1 := HOA.out.2; have h3 := HI.out.2.1
        unfold wrap64; omega
      have E1 := Lib.hid e1
      clear e1
      have HOK2 : Hid ((powE E l k).ru.ok) := Lib.hid HOK.out
      have HFD2 : Hid (fid (powE E l k).ru 1 E = 0) := Lib.hid HFD.out
      have HAD := Lib.hid (sadd_any (H.out.below B7.out) (powE E l k) HOK2.out HFD2.out (by have := HI.out.2.1; omega))
      clear bw0 kw0 k7 b7 ka kr
      go_wp2_with fail
      refine calls_arg (v' := enV (powE E l k)) ?_ (HAD.out.mono ?_)
      · rw [HPE.out, HU.out]
        refine powV_eq ?_
        have e1 := E1.out
        first | rw [e1] | skip
        clear e1 hw1
        omega
      · rintro x w8 ⟨rfl, hS, hB', hK⟩
        have HS := Lib.hid hS; have HB8 := Lib.hid ((B7.out.mono HLT.out).trans hB'); have HK := Lib.hid ((Kt.of B7.out).trans hK)
        clear hS hB' hK
        go_wp2_with fail
        go_ret2
        exact ⟨by simp [errV], HS.out, HB8.out, HK.out⟩
    · rw [if_neg hf0]
      have hfn : ((f : Int) != 0) = true := by simp; omega
      go_enter Try.func32, Try.ntmps32
      go_wp2_with fail
      refine HK1.out.mono ?_; rintro x w ⟨rfl, h⟩; rw [h]; clear h w
      go_wp2_with fail
      refine HA1.out.mono ?_; rintro x w2 ⟨rfl, b1⟩
      have B2 := Lib.hid b1
      clear b1
      obtain ⟨Wz, hWz⟩ : ∃ w, w2.alloc (.cells #[.int .i64 0, .int .u8 0, .int .i64 0, .int .i64 0, .int .i64 0, .int .i64 0, .int .i64 0, .int .i64 0, .int .i64 0, .int .u64 0, .int .u64 0, .int .i64 0, .bool false] 121) = w := ⟨_, rfl⟩
      obtain ⟨g, hg⟩ : ∃ g, w2.heap.size = g := ⟨_, rfl⟩
      have bz : Below w2.heap.size w2 Wz := by rw [← hWz]; exact (Below.refl _ _).alloc (Nat.le_refl _) _
      have z1 : EnC Wz g en0 := by rw [← hWz, ← hg]; exact EnC.zero w2
      obtain ⟨w3, hw3⟩ : ∃ w, setE Wz g a = w := ⟨_, rfl⟩
      have kA3 : EnC w3 g a := by rw [← hw3]; exact z1.set a
      have b3 : Below w2.heap.size w2 w3 := by rw [← hw3]; exact setE_below bz (by omega) a
      have HA3 := Lib.hid kA3; have B3 := Lib.hid (Below.after B2.out b3)
      obtain ⟨p0, p1, p2, p3, p4, p5, p6, p7, p8, p9, p10, p11, p12⟩ : Wz.cell? ⟨g, 0, none⟩ = some (.int .i64 0) ∧ Wz.cell? ⟨g, 1, none⟩ = some (.int .u8 0) ∧ Wz.cell? ⟨g, 2, none⟩ = some (.int .i64 0) ∧ Wz.cell? ⟨g, 3, none⟩ = some (.int .i64 0) ∧ Wz.cell? ⟨g, 4, none⟩ = some (.int .i64 0) ∧ Wz.cell? ⟨g, 5, none⟩ = some (.int .i64 0) ∧ Wz.cell? ⟨g, 6, none⟩ = some (.int .i64 0) ∧ Wz.cell? ⟨g, 7, none⟩ = some (.int .i64 0) ∧ Wz.cell? ⟨g, 8, none⟩ = some (.int .i64 0) ∧ Wz.cell? ⟨g, 9, none⟩ = some (.int .u64 0) ∧ Wz.cell? ⟨g, 10, none⟩ = some (.int .u64 0) ∧ Wz.cell? ⟨g, 11, none⟩ = some (.int .i64 0) ∧ Wz.cell? ⟨g, 12, none⟩ = some (.bool false) := z1.cells
      have pf0 := z1.free 0; have pf1 := z1.free 1; have pf2 := z1.free 2; have pf3 := z1.free 3; have pf4 := z1.free 4; have pf5 := z1.free 5; have pf6 := z1.free 6; have pf7 := z1.free 7; have pf8 := z1.free 8; have pf9 := z1.free 9; have pf10 := z1.free 10; have pf11 := z1.free 11; have pf12 := z1.free 12
      simp only [setE] at hw3
      obtain ⟨x0, x1, x2, x3, x4, x5, x6, x7, x8, x9, x10, x11, x12⟩ := kA3.cells
      clear bz z1 kA3 b3
      go_wp2_with fail
      refine (mul1_any w3 HOA.out.1.le (by rw [HWT.out.2.2]; exact HWT.out.2.1) HI.out.2.2.2.2).mono ?_; rintro x w ⟨rfl, h⟩; rw [h, if_pos HSM.out]; clear h w
      clear hWz hw3 p0 p1 p2 p3 p4 p5 p6 p7 p8 p9 p10 p11 p12 pf0 pf1 pf2 pf3 pf4 pf5 pf6 pf7 pf8 pf9 pf10 pf11 pf12
      obtain ⟨Wr, hWr⟩ : ∃ w, w3.alloc (.cells #[.int .i64 0, .int .u8 0, .int .i64 0, .int .i64 0, .int .i64 0] 111) = w := ⟨_, rfl⟩
      obtain ⟨rg, hrg⟩ : ∃ g, w3.heap.size = g := ⟨_, rfl⟩
      have kr0 : RuC Wr rg ⟨0, 0, 0, 0, 0⟩ := by rw [← hWr, ← hrg]; exact heap_new' _ _
      have br0 : Below w3.heap.size w3 Wr := by rw [← hWr]; exact (Below.refl _ _).alloc (Nat.le_refl _) _
      obtain ⟨z0, z1, z2, z3, z4⟩ : Wr.cell? ⟨rg, 0, none⟩ = some (.int .i64 0) ∧ Wr.cell? ⟨rg, 1, none⟩ = some (.int .u8 0) ∧ Wr.cell? ⟨rg, 2, none⟩ = some (.int .i64 0) ∧ Wr.cell? ⟨rg, 3, none⟩ = some (.int .i64 0) ∧ Wr.cell? ⟨rg, 4, none⟩ = some (.int .i64 0) := kr0.cells
      have s0 := kr0.free 0; have s1 := kr0.free 1; have s2 := kr0.free 2; have s3 := kr0.free 3; have s4 := kr0.free 4
      obtain ⟨w4, hw4⟩ : ∃ w, ((((Wr.setCell ⟨rg, 0, none⟩ (.int .i64 3)).setCell ⟨rg, 1, none⟩ (.int .u8 0)).setCell ⟨rg, 2, none⟩ (.int .i64 l)).setCell ⟨rg, 3, none⟩ (.int .i64 0)).setCell ⟨rg, 4, none⟩ (.int .i64 k) = w := ⟨_, rfl⟩
      have k4 : RuC w4 rg ⟨3, 0, l, 0, k⟩ := by rw [← hw4]; exact kr0.set ⟨3, 0, l, 0, k⟩
      have b4 : Below w3.heap.size w3 w4 := by
        rw [← hw4]
        exact ((((br0.setCell (p := ⟨rg, 0, none⟩) (by dsimp only; omega) _).setCell (p := ⟨rg, 1, none⟩) (by dsimp only; omega) _).setCell (p := ⟨rg, 2, none⟩) (by dsimp only; omega) _).setCell (p := ⟨rg, 3, none⟩) (by dsimp only; omega) _).setCell (p := ⟨rg, 4, none⟩) (by dsimp only; omega) _
      have HR4 := Lib.hid k4; have B4 := Lib.hid (Below.after B3.out b4)
      have HA4 := Lib.hid (below_block b4 HA3.out)
      obtain ⟨c0, c1, c2, c3, c4⟩ : w4.cell? ⟨rg, 0, none⟩ = some (.int .i64 3) ∧ w4.cell? ⟨rg, 1, none⟩ = some (.int .u8 0) ∧ w4.cell? ⟨rg, 2, none⟩ = some (.int .i64 l) ∧ w4.cell? ⟨rg, 3, none⟩ = some (.int .i64 0) ∧ w4.cell? ⟨rg, 4, none⟩ = some (.int .i64 k) := k4.cells
      have HOK : Hid (Ru.ok ⟨3, 0, l, 0, k⟩) := Lib.hid ⟨by show 3 ≤ _; omega, by show 0 ≤ 255; omega, by show l ≤ _; have h1 := HI.out.2.2.1; have h2 := HI.out.2.1; omega, Nat.zero_le _, HI.out.2.2.2.2⟩
      have HFI := Lib.hid (find_any (H.out.below B4.out) HOK.out)
      rw [HFD.out] at HFI
      rw [if_neg (fun h => hf0 h.1)] at HFI
      clear kr0 br0 k4 b4
      go_wp2_with fail
      refine HFI.out.mono ?_; rintro x w5 ⟨rfl, b5⟩
      have B5 := Lib.hid (Below.after B4.out b5)
      have HA5 := Lib.hid (below_block b5 HA4.out); have HR5 := Lib.hid (below_block b5 HR4.out)
      clear hWr hw4 z0 z1 z2 z3 z4 s0 s1 s2 s3 s4 c0 c1 c2 c3 c4 b5 x0 x1 x2 x3 x4 x5 x6 x7 x8 x9 x10 x11 x12
      go_wp2_with fail
      go_ret2
      exact ⟨rfl, H.out.below B5.out, B5.out.mono HLT.out, Kt.of B5.out⟩
  · rw [if_neg hs]
    go_enter Try.func32, Try.ntmps32
    go_wp2_with fail
    refine HK1.out.mono ?_; rintro x w ⟨rfl, h⟩; rw [h]; clear h w
    go_wp2_with fail
    refine HA1.out.mono ?_; rintro x w2 ⟨rfl, b1⟩
    have B2 := Lib.hid b1
    clear b1
    obtain ⟨Wz, hWz⟩ : ∃ w, w2.alloc (.cells #[.int .i64 0, .int .u8 0, .int .i64 0, .int .i64 0, .int .i64 0, .int .i64 0, .int .i64 0, .int .i64 0, .int .i64 0, .int .u64 0, .int .u64 0, .int .i64 0, .bool false] 121) = w := ⟨_, rfl⟩
    obtain ⟨g, hg⟩ : ∃ g, w2.heap.size = g := ⟨_, rfl⟩
    have bz : Below w2.heap.size w2 Wz := by rw [← hWz]; exact (Below.refl _ _).alloc (Nat.le_refl _) _
    have z1 : EnC Wz g en0 := by rw [← hWz, ← hg]; exact EnC.zero w2
    obtain ⟨w3, hw3⟩ : ∃ w, setE Wz g a = w := ⟨_, rfl⟩
    have kA3 : EnC w3 g a := by rw [← hw3]; exact z1.set a
    have b3 : Below w2.heap.size w2 w3 := by rw [← hw3]; exact setE_below bz (by omega) a
    have HA3 := Lib.hid kA3; have B3 := Lib.hid (Below.after B2.out b3)
    obtain ⟨p0, p1, p2, p3, p4, p5, p6, p7, p8, p9, p10, p11, p12⟩ : Wz.cell? ⟨g, 0, none⟩ = some (.int .i64 0) ∧ Wz.cell? ⟨g, 1, none⟩ = some (.int .u8 0) ∧ Wz.cell? ⟨g, 2, none⟩ = some (.int .i64 0) ∧ Wz.cell? ⟨g, 3, none⟩ = some (.int .i64 0) ∧ Wz.cell? ⟨g, 4, none⟩ = some (.int .i64 0) ∧ Wz.cell? ⟨g, 5, none⟩ = some (.int .i64 0) ∧ Wz.cell? ⟨g, 6, none⟩ = some (.int .i64 0) ∧ Wz.cell? ⟨g, 7, none⟩ = some (.int .i64 0) ∧ Wz.cell? ⟨g, 8, none⟩ = some (.int .i64 0) ∧ Wz.cell? ⟨g, 9, none⟩ = some (.int .u64 0) ∧ Wz.cell? ⟨g, 10, none⟩ = some (.int .u64 0) ∧ Wz.cell? ⟨g, 11, none⟩ = some (.int .i64 0) ∧ Wz.cell? ⟨g, 12, none⟩ = some (.bool false) := z1.cells
    have pf0 := z1.free 0; have pf1 := z1.free 1; have pf2 := z1.free 2; have pf3 := z1.free 3; have pf4 := z1.free 4; have pf5 := z1.free 5; have pf6 := z1.free 6; have pf7 := z1.free 7; have pf8 := z1.free 8; have pf9 := z1.free 9; have pf10 := z1.free 10; have pf11 := z1.free 11; have pf12 := z1.free 12
    simp only [setE] at hw3
    obtain ⟨x0, x1, x2, x3, x4, x5, x6, x7, x8, x9, x10, x11, x12⟩ := kA3.cells
    clear bz z1 kA3 b3
    go_wp2_with fail
    refine (mul1_any w3 HOA.out.1.le (by rw [HWT.out.2.2]; exact HWT.out.2.1) HI.out.2.2.2.2).mono ?_; rintro x w ⟨rfl, h⟩; rw [h, if_neg hs, err_two]; clear h w
    clear hWz hw3 p0 p1 p2 p3 p4 p5 p6 p7 p8 p9 p10 p11 p12 pf0 pf1 pf2 pf3 pf4 pf5 pf6 pf7 pf8 pf9 pf10 pf11 pf12
    go_wp2_with fail
    go_ret2
    exact ⟨rfl, H.out.below B3.out, B3.out.mono HLT.out, Kt.of B3.out⟩
end M
end Go.Proofs.Ytplccefjljdjnaa
namespace Go.Proofs.Ytplccefjljdjnaa
open Go.RowKit
namespace M
attribute [local go_sem] Oper.semAt_some
set_option maxRecDepth 100000 in
set_option maxHeartbeats 1000000 in
theorem pair_any {n0 B most : Nat} {W : World} {E : List En} (h : StAt n0 W B most E) (hwf : Wf E) {l r : Nat} (hl : l ≤ E.length) (hr : r ≤ E.length) (hroom : E.length < most) (hE : E.length ≤ 1048575) :
    Calls Try.prog 75 #[.pointer (some ⟨B, 0, none⟩), .int .i64 l, .int .i64 r] W fun x w' => x = .returned (.tuple #[.int .i64 (pairF E l r).2.1, errV (pairF E l r).2.2]) ∧ StAt n0 w' B most (pairF E l r).1 ∧ Below n0 W w' ∧ Kt W w' := by
  by_cases hl0 : l = 0
  · have e : pairF E l r = (E, r, 0) := by unfold pairF; rw [if_pos hl0]
    rw [e]
    have HK1 := Lib.hid (known_any h (l : Int)); have HK2 := Lib.hid (known_any h (r : Int))
    rw [decide_eq_true (show 0 ≤ (l : Int) ∧ (l : Int) ≤ (E.length : Int) by omega)] at HK1
    rw [decide_eq_true (show 0 ≤ (r : Int) ∧ (r : Int) ≤ (E.length : Int) by omega)] at HK2
    have l0 : ((l : Int) == 0) = true := by simp [hl0]
    have H := Lib.hid h
    clear h hwf hl0 hl hr hroom hE e
    go_enter Try.func75, Try.ntmps75
    go_wp2_with fail
    refine HK1.out.mono ?_; rintro x w ⟨rfl, h⟩; rw [h]; clear h w
    go_wp2_with fail
    refine HK2.out.mono ?_; rintro x w ⟨rfl, h⟩; rw [h]; clear h w
    go_wp2_with fail
    go_ret2
    exact ⟨rfl, H.out, Below.refl _ _, Kt.of (Below.refl _ _)⟩
  · by_cases hr0 : r = 0
    · have e : pairF E l r = (E, l, 0) := by unfold pairF; rw [if_neg hl0, if_pos hr0]
      rw [e]
      have HK1 := Lib.hid (known_any h (l : Int)); have HK2 := Lib.hid (known_any h (r : Int))
      rw [decide_eq_true (show 0 ≤ (l : Int) ∧ (l : Int) ≤ (E.length : Int) by omega)] at HK1
      rw [decide_eq_true (show 0 ≤ (r : Int) ∧ (r : Int) ≤ (E.length : Int) by omega)] at HK2
      have l0 : ((l : Int) == 0) = false := by simp; omega
      have r0 : ((r : Int) == 0) = true := by simp [hr0]
      have H := Lib.hid h
      clear h hwf hl0 hl hr hroom hE e hr0
      go_enter Try.func75, Try.ntmps75
      go_wp2_with fail
      refine HK1.out.mono ?_; rintro x w ⟨rfl, h⟩; rw [h]; clear h w
      go_wp2_with fail
      refine HK2.out.mono ?_; rintro x w ⟨rfl, h⟩; rw [h]; clear h w
      go_wp2_with fail
      go_ret2
      exact ⟨rfl, H.out, Below.refl _ _, Kt.of (Below.refl _ _)⟩
    · exact pair_some h hwf (by omega) (by omega) hl hr hroom hE
set_option maxRecDepth 100000 in
set_option maxHeartbeats 1000000 in
theorem power_any {n0 B most : Nat} {W : World} {E : List En} (h : StAt n0 W B most E) (hwf : Wf E) {l k : Nat} (hl : l ≤ E.length) (hk : k ≤ 9223372036854775807) (hroom : E.length < most) (hE : E.length ≤ 1048575) :
    Calls Try.prog 32 #[.pointer (some ⟨B, 0, none⟩), .int .i64 l, .int .i64 k] W fun x w' => x = .returned (.tuple #[.int .i64 (powF E l k).2.1, errV (powF E l k).2.2]) ∧ StAt n0 w' B most (powF E l k).1 ∧ Below n0 W w' ∧ Kt W w' := by
  have kn : ¬ ((k : Int) < 0) := by omega
  have HK1 := Lib.hid (known_any h (l : Int))
  rw [decide_eq_true (show 0 ≤ (l : Int) ∧ (l : Int) ≤ (E.length : Int) by omega)] at HK1
  have H := Lib.hid h
  by_cases h0 : k = 0 ∨ l = 0
  · have e : powF E l k = (E, 0, 0) := by unfold powF; rw [if_pos h0]
    rw [e]
    rcases h0 with h0 | h0
    · have k0 : ((k : Int) == 0) = true := by simp [h0]
      clear h hwf h0 hl hroom hE e hk
      go_enter Try.func32, Try.ntmps32
      go_wp2_with fail
      refine HK1.out.mono ?_; rintro x w ⟨rfl, h⟩; rw [h]; clear h w
      go_wp2_with fail
      go_ret2
      exact ⟨rfl, H.out, Below.refl _ _, Kt.of (Below.refl _ _)⟩
    · have l0 : ((l : Int) == 0) = true := by simp [h0]
      clear h hwf h0 hl hroom hE e hk
      go_enter Try.func32, Try.ntmps32
      go_wp2_with fail
      refine HK1.out.mono ?_; rintro x w ⟨rfl, h⟩; rw [h]; clear h w
      go_wp2_with fail
      all_goals
        go_ret2
        exact ⟨rfl, H.out, Below.refl _ _, Kt.of (Below.refl _ _)⟩
  · by_cases h1 : k = 1
    · have e : powF E l k = (E, l, 0) := by unfold powF; rw [if_neg h0, if_pos h1]
      rw [e]
      have l0 : ((l : Int) == 0) = false := by simp; omega
      have k0 : ((k : Int) == 0) = false := by simp; omega
      have k1 : ((k : Int) == 1) = true := by simp [h1]
      clear h hwf h0 hl hroom hE e hk h1
      go_enter Try.func32, Try.ntmps32
      go_wp2_with fail
      refine HK1.out.mono ?_; rintro x w ⟨rfl, h⟩; rw [h]; clear h w
      go_wp2_with fail
      go_ret2
      exact ⟨rfl, H.out, Below.refl _ _, Kt.of (Below.refl _ _)⟩
    · exact power_some h hwf (by omega) hl (by omega) hk hroom hE
end M
end Go.Proofs.Ytplccefjljdjnaa
namespace Go.Proofs.Ytplccefjljdjnaa
open Go.RowKit
namespace M
theorem pairE_ok {E : List En} (h : Wf E) {l r : Nat} (hl0 : 0 < l) (hr0 : 0 < r) (hl : l ≤ E.length) (hr : r ≤ E.length) (hs : (entAt E l).w.len + (entAt E r).w.len ≤ 1152921504606846976) : OkEn E (pairE E l r) := by
  obtain ⟨a1, a2, a3, a4⟩ := h.get l hl0 hl
  obtain ⟨b1, b2, b3, b4⟩ := h.get r hr0 hr
  have e1 : (entAt E l).w.len = (txt E l).length := by rw [a1]; rfl
  have e2 : (entAt E r).w.len = (txt E r).length := by rw [b1]; rfl
  have ht : txOf (txts E) (pairE E l r).ru = txt E l ++ txt E r := rfl
  refine ⟨.inr (.inl ⟨rfl, rfl, hl0, hl, hr0, hr, rfl⟩), ?_, ?_, ?_, ?_⟩
  · rw [ht, wt_append, ← a1, ← b1]; rfl
  · rw [ht, List.length_append]; omega
  · rw [ht, List.length_append]; omega
  · show 1 + max (entAt E l).depth (entAt E r).depth ≤ E.length
    omega
theorem powE_ok {E : List En} (h : Wf E) {l k : Nat} (hl0 : 0 < l) (hl : l ≤ E.length) (hk : 2 ≤ k) (hs : (entAt E l).w.len * k ≤ 1152921504606846976) : OkEn E (powE E l k) := by
  obtain ⟨a1, a2, a3, a4⟩ := h.get l hl0 hl
  have e1 : (entAt E l).w.len = (txt E l).length := by rw [a1]; rfl
  have ht : txOf (txts E) (powE E l k).ru = rep k (txt E l) := rfl
  rw [e1] at hs
  have hk2 : k ≤ 1152921504606846976 := Nat.le_trans (Nat.le_mul_of_pos_left _ a3) hs
  refine ⟨.inr (.inr ⟨rfl, rfl, hl0, hl, rfl, hk, hk2⟩), by rw [ht]; rfl, ?_, ?_, ?_⟩
  · rw [ht, rep_length, Nat.mul_comm]; exact hs
  · rw [ht, rep_length]; exact Nat.mul_pos (by omega) a3
  · show 1 + (entAt E l).depth ≤ E.length
    omega
theorem pairF_wf {E : List En} (h : Wf E) {l r : Nat} (hl : l ≤ E.length) (hr : r ≤ E.length) : Wf (pairF E l r).1 ∧ (pairF E l r).1.length ≤ E.length + 1 ∧ E.length ≤ (pairF E l r).1.length ∧ (pairF E l r).2.1 ≤ (pairF E l r).1.length := by
  unfold pairF
  by_cases hl0 : l = 0
  · rw [if_pos hl0]; exact ⟨h, by simp, by simp, hr⟩
  · rw [if_neg hl0]
    by_cases hr0 : r = 0
    · rw [if_pos hr0]; exact ⟨h, by simp, by simp, hl⟩
    · rw [if_neg hr0]
      split
      · rename_i hs
        have := addF_wf h (pairE_ok h (by omega) (by omega) hl hr hs)
        exact ⟨this.1, this.2.1, by unfold addF; split <;> simp, this.2.2.2⟩
      · exact ⟨h, by simp, by simp, by simp⟩
theorem powF_wf {E : List En} (h : Wf E) {l k : Nat} (hl : l ≤ E.length) : Wf (powF E l k).1 ∧ (powF E l k).1.length ≤ E.length + 1 ∧ E.length ≤ (powF E l k).1.length ∧ (powF E l k).2.1 ≤ (powF E l k).1.length := by
  unfold powF
  by_cases h0 : k = 0 ∨ l = 0
  · rw [if_pos h0]; exact ⟨h, by simp, by simp, by simp⟩
  · rw [if_neg h0]
    by_cases h1 : k = 1
    · rw [if_pos h1]; exact ⟨h, by simp, by simp, hl⟩
    · rw [if_neg h1]
      split
      · rename_i hs
        have := addF_wf h (powE_ok h (by omega) hl (by omega) hs)
        exact ⟨this.1, this.2.1, by unfold addF; split <;> simp, this.2.2.2⟩
      · exact ⟨h, by simp, by simp, by simp⟩
end M
end Go.Proofs.Ytplccefjljdjnaa
namespace Go.Proofs.Ytplccefjljdjnaa
open Go.RowKit
namespace M
/-- Rule i of a store. -/
structure RuOf (E : List En) (i : Nat) : Prop where
  cases : ((entAt E i).ru.kind = 1 ∧ (entAt E i).ru.letter < 256 ∧ (entAt E i).ru.left = 0 ∧ (entAt E i).ru.right = 0 ∧ (entAt E i).ru.times = 0 ∧ txt E i = [(entAt E i).ru.letter]) ∨
    ((entAt E i).ru.kind = 2 ∧ (entAt E i).ru.letter = 0 ∧ 0 < (entAt E i).ru.left ∧ (entAt E i).ru.left < i ∧ 0 < (entAt E i).ru.right ∧ (entAt E i).ru.right < i ∧ (entAt E i).ru.times = 0 ∧ txt E i = txt E (entAt E i).ru.left ++ txt E (entAt E i).ru.right) ∨
    ((entAt E i).ru.kind = 3 ∧ (entAt E i).ru.letter = 0 ∧ 0 < (entAt E i).ru.left ∧ (entAt E i).ru.left < i ∧ (entAt E i).ru.right = 0 ∧ 2 ≤ (entAt E i).ru.times ∧ (entAt E i).ru.times ≤ 1152921504606846976 ∧ txt E i = rep (entAt E i).ru.times (txt E (entAt E i).ru.left))
theorem entAt_snoc {E : List En} {e : En} {i : Nat} (hi : i ≤ E.length) : entAt (E ++ [e]) i = entAt E i := by
  unfold entAt
  by_cases h : i = 0
  · rw [if_pos h, if_pos h]
  · rw [if_neg h, if_neg h, List.getElem?_append_left (by omega)]
theorem entAt_last (E : List En) (e : En) : entAt (E ++ [e]) (E.length + 1) = e := by
  unfold entAt
  rw [if_neg (by omega), List.getElem?_append_right (by omega)]
  simp
theorem Wf.rule {E : List En} (h : Wf E) : ∀ i, 0 < i → i ≤ E.length → RuOf E i := by
  induction h with
  | nil => intro i h1 h2; simp at h2; omega
  | @snoc E e hE he ih =>
    intro i h1 h2
    rw [List.length_append, List.length_singleton] at h2
    by_cases hi : i ≤ E.length
    · have h := (ih i h1 hi).cases
      rw [← entAt_snoc (e := e) hi] at h
      refine ⟨?_⟩
      rcases h with ⟨a, b, c, d, f, g⟩ | ⟨a, b, c, d, f, g, k, l⟩ | ⟨a, b, c, d, f, g, k, l⟩
      · exact .inl ⟨a, b, c, d, f, by rw [txt_snoc hi]; exact g⟩
      · exact .inr (.inl ⟨a, b, c, d, f, g, k, by rw [txt_snoc hi, txt_snoc (by omega), txt_snoc (by omega)]; exact l⟩)
      · exact .inr (.inr ⟨a, b, c, d, f, g, k, by rw [txt_snoc hi, txt_snoc (by omega)]; exact l⟩)
    · obtain rfl : i = E.length + 1 := by omega
      refine ⟨?_⟩
      rw [entAt_last, txt_last]
      rcases he.kind with ⟨a, b, c, d, f⟩ | ⟨a, b, c, d, f, g, k⟩ | ⟨a, b, c, d, f, g, k⟩
      · exact .inl ⟨a, b, c, d, f, by unfold txOf; rw [if_pos a]⟩
      · refine .inr (.inl ⟨a, b, c, by omega, f, by omega, k, ?_⟩)
        rw [txt_snoc d, txt_snoc g]
        unfold txOf
        rw [if_neg (by omega), if_pos a]; rfl
      · refine .inr (.inr ⟨a, b, c, by omega, f, g, k, ?_⟩)
        rw [txt_snoc d]
        unfold txOf
        rw [if_neg (by omega), if_neg (by omega)]; rfl
theorem Wf.len {E : List En} (h : Wf E) {i : Nat} (hi : i ≤ E.length) : (entAt E i).w = wt (txt E i) ∧ (txt E i).length ≤ 1152921504606846976 := by
  by_cases h0 : i = 0
  · subst h0; exact ⟨rfl, by rw [txt_zero]; simp⟩
  · obtain ⟨a, b, -, -⟩ := h.get i (by omega) hi
    exact ⟨a, b⟩
theorem rep_get {t : List Nat} (ht : 0 < t.length) : ∀ (n k : Nat), k < n * t.length → (rep n t)[k]? = t[k % t.length]?
  | 0, k, h => by simp at h
  | n + 1, k, h => by
    rw [rep_succ]
    by_cases hk : k < t.length
    · rw [List.getElem?_append_left hk, Nat.mod_eq_of_lt hk]
    · rw [List.getElem?_append_right (by omega), rep_get ht n (k - t.length) (by rw [Nat.succ_mul] at h; omega), ← Nat.mod_eq_sub_mod (by omega)]
/-- Where the letter at an offset of a Pair or a Power lies. -/
def belF (r : Ru) (n a : Nat) : Nat × Nat := if r.kind = 3 then (r.left, a % n) else if a < n then (r.left, a) else (r.right, a - n)
theorem belF_step {E : List En} (h : Wf E) {i k : Nat} {b : Nat} (h0 : 0 < i) (hi : i ≤ E.length) (hk : (entAt E i).ru.kind ≠ 1) (hb : (txt E i)[k]? = some b) :
    0 < (belF (entAt E i).ru (txt E (entAt E i).ru.left).length k).1 ∧ (belF (entAt E i).ru (txt E (entAt E i).ru.left).length k).1 < i ∧ (txt E (belF (entAt E i).ru (txt E (entAt E i).ru.left).length k).1)[(belF (entAt E i).ru (txt E (entAt E i).ru.left).length k).2]? = some b := by
  unfold belF
  rcases (h.rule i h0 hi).cases with ⟨a, -⟩ | ⟨a, -, c, d, f, g, -, l⟩ | ⟨a, -, c, d, -, g, -, l⟩
  · exact absurd a hk
  · rw [if_neg (by omega)]
    rw [l] at hb
    by_cases hlt : k < (txt E (entAt E i).ru.left).length
    · rw [if_pos hlt]
      rw [List.getElem?_append_left hlt] at hb
      exact ⟨c, d, hb⟩
    · rw [if_neg hlt]
      rw [List.getElem?_append_right (by omega)] at hb
      exact ⟨f, g, hb⟩
  · rw [if_pos a]
    have hkl := (List.getElem?_eq_some_iff.1 hb).1
    rw [l] at hb hkl
    rw [rep_length] at hkl
    obtain ⟨-, -, hp, -⟩ := h.get _ c (by omega)
    rw [rep_get hp _ _ hkl] at hb
    exact ⟨c, d, hb⟩
end M
end Go.Proofs.Ytplccefjljdjnaa
