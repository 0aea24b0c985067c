/- CursorLines: the walk. -/
import Derived.Test.YtjbllcakaljpgaaBegun
import Derived.Test.YtjbllcakaljpgaaMoves
namespace Go.Proofs.Ytjbllcakaljpgaa
open Go.RowKit Go.Lib
namespace M
attribute [local go_sem] Oper.semAt_some
set_option maxRecDepth 100000 in
set_option maxHeartbeats 8000000 in
theorem lines_any {W : World} {v : Value} {M : List Mk} (hM : RowMk W v M) (n at' : Int) :
    Calls Try.prog 6 #[v, .int .i64 n, .int .i64 at'] W fun e w' => e = .returned (.bool true) ∧ Below W.heap.size W w' := by
  have HF : ∀ f, Fence.wide.fn f := fun _ => trivial
  have H := Lib.hid hM
  obtain ⟨va, vc, rfl, -, hcm, -, -⟩ := hM
  unfold maxLen at hcm
  by_cases hl : M.length ≤ 100
  · have hl2 : ¬ (M.length : Int) > 100 := by omega
    have HG := Lib.hid (begun_any H.out hl n)
    have HWF : Hid (Wf (bldF M [] [0]).1 ∧ (bldF M [] [0]).1.length ≤ 100 ∧ resAt (bldF M [] [0]).2 n ≤ (bldF M [] [0]).1.length) := Lib.hid (by
      obtain ⟨a', cap', ha', -, -, hmb, -⟩ := H.out
      obtain ⟨q1, q2, q3, q4⟩ := bldF_wf M (E := []) (R := [0]) .nil (by simp) (fun m hm => (hmb m hm).1)
      exact ⟨q1, by simp at q2; omega, resAt_le q4 n⟩)
    unfold BegunP at HG
    generalize (bldF M [] [0]).1 = E at *
    generalize resAt (bldF M [] [0]).2 n = id at *
    obtain ⟨hw, hlen⟩ := HWF.out.1.len HWF.out.2.2
    obtain ⟨t, ht⟩ : ∃ t, txt E id = t := ⟨_, rfl⟩
    have hul : (entAt E id).w.len = t.length := by rw [hw, ← ht]; rfl
    rw [ht] at hlen
    rw [hul] at HG
    have HT := Lib.hid ht
    clear hw hul ht
    obtain ⟨len, hle⟩ : ∃ l, t.length = l := ⟨_, rfl⟩
    rw [hle] at HG hlen
    have HLE := Lib.hid hle
    clear hle
    by_cases hin : 0 ≤ at' ∧ at' ≤ (len : Int)
    · obtain ⟨a, rfl⟩ : ∃ a : Nat, at' = (a : Int) := ⟨at'.toNat, by omega⟩
      have hal : a ≤ len := by omega
      have HPV := Lib.hid (pv_cases (t := t) (a := a) (by have := HLE.out; omega))
      have HNX := Lib.hid (fun h => nx_at (t := t) (a := a) (by have := HLE.out; omega) h)
      have hcd : (t.drop a).count 10 ≤ len := by have h1 : (t.drop a).count 10 ≤ (t.drop a).length := List.count_le_length; have := HLE.out; rw [List.length_drop] at h1; omega
      have hct : (t.take a).count 10 ≤ len := by have h1 : (t.take a).count 10 ≤ (t.take a).length := List.count_le_length; have := HLE.out; rw [List.length_take] at h1; omega
      have htl : tlT (t.take a) ≤ a := tl_le t a
      go_enter Try.func6, Try.ntmps6
      go_wp2_with fail
      refine HG.out.mono ?_
      rintro e w3 ⟨B, c, rfl, s3, k3, hc, b3⟩
      have HB3 := Lib.hid b3
      have HC : Hid (W.heap.size ≤ c) := Lib.hid hc
      have HSK := Lib.hid (seek_any k3 (a : Int))
      have HS3 : Hid (StAt W.heap.size w3 B 1000 E) := Lib.hid s3
      have K3 := Lib.hid k3
      clear s3 k3 b3 hc HG
      have HLN : Hid (∀ (w : World) (x k : Nat), StAt W.heap.size w B 1000 E → CuC w x B id len k → k ≤ len → Calls Try.prog 22 #[.pointer (some ⟨x, 0, none⟩)] w fun e w' => e = .returned (.tuple #[.int .i64 ((t.take k).count 10 : Nat), .int .i64 (tlT (t.take k) : Nat)]) ∧ Below w.heap.size w w') := Lib.hid (fun w x k h1 h2 h3 => by
        have := line_any h1 HWF.out.1 (by have := HWF.out.2.1; omega) h2 HWF.out.2.2 (by rw [HT.out, HLE.out]; exact h3)
        rw [HT.out] at this
        exact this)
      go_wp2_with fail
      refine HSK.out.mono ?_
      rintro e w' (⟨-, -, rfl, rfl⟩ | ⟨hno, -⟩)
      rotate_left
      · exact absurd ⟨by omega, by omega⟩ hno
      have k4 := CuC.move K3.out a
      have b4 : BC c w3 (w3.setCell ⟨c, 3, none⟩ (.int .i64 a)) := (BC.refl c w3).set (p := ⟨c, 3, none⟩) (.inr rfl) _
      have s4 := StAt.bc HS3.out K3.out b4
      have b5 := below_bc HB3.out b4 HC.out HB3.out.size
      generalize w3.setCell ⟨c, 3, none⟩ (.int .i64 a) = w4 at *
      have K4 := Lib.hid k4; have HS4 := Lib.hid s4; have HB4 := Lib.hid b5
      clear k4 s4 b4 b5 HSK HS3 K3 HB3
      have HL4 := Lib.hid (HLN.out w4 c a HS4.out K4.out hal)
      obtain ⟨ln, hln⟩ : ∃ x, (t.take a).count 10 = x := ⟨_, rfl⟩
      obtain ⟨tl, htlx⟩ : ∃ x, tlT (t.take a) = x := ⟨_, rfl⟩
      rw [hln, htlx] at HL4 HPV
      rw [hln] at HNX hct
      rw [htlx] at htl
      go_wp2_with fail
      refine HL4.out.mono ?_
      rintro e w5 ⟨rfl, b5⟩
      have K5 : Hid (CuC w5 c B id len a) := Lib.hid (below_block b5 K4.out)
      have HS5 := Lib.hid (HS4.out.below b5)
      have HB5 := Lib.hid (Below.after HB4.out b5)
      have HC5 : Hid (c < w5.heap.size) := Lib.hid (by have h := K5.out; unfold CuC at h; exact (Array.getElem?_eq_some_iff.1 h).1)
      have HLE2 := Lib.hid (And.intro hln htlx)
      clear b5 HL4 hln htlx K4 HS4 HB4
      go_wp2_with fail
      refine (copy_any K5.out).mono ?_
      rintro e w6 ⟨d, rfl, hd, kd, b6⟩
      have KD6 := Lib.hid kd
      have K6 : Hid (CuC w6 c B id len a) := Lib.hid (below_block b6 K5.out)
      have HS6 := Lib.hid (HS5.out.below b6)
      have HB6 := Lib.hid (Below.after HB5.out b6)
      have HDC : Hid (d ≠ c) := Lib.hid (by have := HC5.out; omega)
      have HD : Hid (W.heap.size ≤ d) := Lib.hid (Nat.le_trans HB5.out.size hd)
      clear kd b6 hd HS5 HB5 K5 HC5
      have HLF : Hid (Calls Try.prog 17 #[.pointer (some ⟨c, 0, none⟩)] w6 fun e w' => e = .returned (.int .i64 ((len - a : Nat) : Int)) ∧ Below w6.heap.size w6 w') := Lib.hid (by
        have := left_any K6.out hal hlen
        rwa [show (len : Int) - (a : Int) = ((len - a : Nat) : Int) by omega] at this)
      obtain ⟨u, hu⟩ : ∃ u, wt (t.drop a) = u := ⟨_, rfl⟩
      have hun : u.lines = (t.drop a).count 10 := by rw [← hu]; rfl
      have huh : u.head = hdT (t.drop a) := by rw [← hu]; rfl
      have HAW : Hid (∀ w, Below w6.heap.size w6 w → Calls Try.prog 24 #[.pointer (some ⟨B, 0, none⟩), .int .i64 id, .int .i64 a, .int .i64 ((len - a : Nat) : Int)] w fun e w' => e = .returned (.tuple #[wtV u, .nilIface]) ∧ Below w.heap.size w w') := Lib.hid (fun w hw => by
        have := aweight_any (frm := a) (n := len - a) (HS6.out.below hw) HWF.out.1 (by have := HWF.out.2.1; omega) HWF.out.2.2 (by rw [HT.out, HLE.out]; omega)
        rw [HT.out, List.take_of_length_le (by rw [List.length_drop, HLE.out]; exact Nat.le_refl _), hu] at this
        exact this)
      unfold wtV at HAW
      rw [← hun] at hcd HNX
      rw [← huh] at HNX
      clear hu
      have HUN := Lib.hid hun; have HUH := Lib.hid huh
      clear hun huh
      go_wp2_with fail
      refine HLF.out.mono ?_
      rintro e w7 ⟨rfl, b7⟩
      have B7 := Lib.hid b7
      clear b7 HLF
      go_wp2_with fail
      refine (HAW.out w7 B7.out).mono ?_
      rintro e w8 ⟨rfl, b8⟩
      obtain ⟨wz, w9, hz, hs, kw, bw, ⟨p0, p1, p2, p3, p4, p5⟩, q0, q1, q2, q3, q4, q5⟩ := newWt w8 u
      obtain ⟨g, hg⟩ : ∃ g, w8.heap.size = g := ⟨_, rfl⟩
      rw [hg] at hs p0 p1 p2 p3 p4 p5 q0 q1 q2 q3 q4 q5 kw
      have B9 := Below.after B7.out (Below.after b8 bw)
      have K9 : Hid (CuC w9 c B id len a) := Lib.hid (below_block B9 K6.out)
      have KD9 : Hid (CuC w9 d B id len a) := Lib.hid (below_block B9 KD6.out)
      have HS9 := Lib.hid (HS6.out.below B9)
      have HB9 := Lib.hid (Below.after HB6.out B9)
      have KW9 := Lib.hid kw
      obtain ⟨x0, x1, x2, x3, x4, x5⟩ := kw.cells
      clear B9 B7 b8 bw kw K6 KD6 HS6 HB6 HAW
      go_wp2_with fail
      clear hz hs p0 p1 p2 p3 p4 p5 q0 q1 q2 q3 q4 q5 x0 x1 x2 x3 x4 x5 hg
      have mg : ∀ w, WtC w g u → w.cell? ⟨g, 1, none⟩ = some (.int .i64 u.lines) := fun w hw => hw.cells.2.1
      refine wp_region_anyH (fun w => WtC w g u) (by kernel_rfl) ?_
      obtain ⟨wd, hwd⟩ : ∃ w, w9.drew = w := ⟨_, rfl⟩
      have SD : Below w9.heap.size w9 wd := by rw [← hwd]; exact (Below.refl _ _).drew
      rw [hwd]
      clear hwd
      have SW : WtC wd g u := below_block SD KW9.out
      have Kd : Hid (CuC wd c B id len a) := Lib.hid (below_block SD K9.out)
      have KDd : Hid (CuC wd d B id len a) := Lib.hid (below_block SD KD9.out)
      have HSd := Lib.hid (HS9.out.below SD)
      have HBd := Lib.hid (Below.after HB9.out SD)
      have HN := Lib.hid (nextl_any HSd.out HWF.out.1 (by have := HWF.out.2.1; omega) Kd.out HWF.out.2.2 (by rw [HT.out, HLE.out]; exact hal))
      rw [HT.out] at HN
      clear SD K9 KD9 HS9 HB9 KW9
      have hlnw : IntKind.i64.wrap ((ln : Int) + 1) = ((ln + 1 : Nat) : Int) := by rw [IntKind.wrap_i64]; omega
      have HLNW := Lib.hid hlnw
      clear hlnw
      have HFIN : Hid (∀ w, StAt W.heap.size w B 1000 E → CuC w d B id len a → Below W.heap.size W w → ∃ (p L1 : Nat) (bb : Bool), Calls Try.prog 26 #[.pointer (some ⟨d, 0, none⟩)] w (fun e w' => e = .returned (.bool bb) ∧ Below W.heap.size W w' ∧ CuC w' d B id len p ∧ (Calls Try.prog 22 #[.pointer (some ⟨d, 0, none⟩)] w' fun e w2 => e = .returned (.tuple #[.int .i64 L1, .int .i64 0]) ∧ Below w'.heap.size w' w2)) ∧
          ((a = 0 ∧ bb = false ∧ tl = 0 ∧ ln = 0 ∧ p = a ∧ L1 = ln) ∨ (0 < a ∧ bb = true ∧ 0 < tl ∧ p = a - tl ∧ L1 = ln) ∨ (0 < a ∧ bb = true ∧ tl = 0 ∧ 0 < ln ∧ p < a ∧ L1 = ln - 1))) := Lib.hid (fun w h1 h2 h3 => by
        have hp := prevl_any h1 HWF.out.1 (by have := HWF.out.2.1; omega) h2 HWF.out.2.2 (by rw [HT.out, HLE.out]; exact hal)
        rw [HT.out] at hp
        have hgo : ∀ (p L1 : Nat) (bb : Bool), (pvF t a).isSome = bb → (pvF t a).getD a = p → p ≤ len → (t.take p).count 10 = L1 → tlT (t.take p) = 0 → Calls Try.prog 26 #[.pointer (some ⟨d, 0, none⟩)] w (fun e w' => e = .returned (.bool bb) ∧ Below W.heap.size W w' ∧ CuC w' d B id len p ∧ (Calls Try.prog 22 #[.pointer (some ⟨d, 0, none⟩)] w' fun e w2 => e = .returned (.tuple #[.int .i64 L1, .int .i64 0]) ∧ Below w'.heap.size w' w2)) := by
          intro p L1 bb g1 g2 g3 g4 g5
          refine hp.mono ?_
          intro e w' m
          obtain ⟨q1, q2, q3⟩ := m.bc h2
          rw [g1] at q1
          rw [g2] at q2
          refine ⟨q1, below_bc h3 q3 HD.out h3.size, q2, ?_⟩
          have h4 := HLN.out w' d _ (h1.bc h2 q3) q2 g3
          rw [g4, g5] at h4
          exact h4
        rcases HPV.out with ⟨g0, g1, g2, g3⟩ | ⟨g0, g1, g2, g3, g4⟩ | ⟨g0, g1, g2, p, g3, g4, g5, g6⟩
        · exact ⟨a, ln, false, hgo a ln false (by rw [g1]; rfl) (by rw [g1]; rfl) hal HLE2.out.1 (by rw [HLE2.out.2]; exact g2), .inl ⟨g0, rfl, g2, g3, rfl, rfl⟩⟩
        · exact ⟨a - tl, ln, true, hgo _ ln true (by rw [g2]; rfl) (by rw [g2]; rfl) (by omega) g3 g4, .inr (.inl ⟨g0, rfl, g1, rfl, rfl⟩)⟩
        · exact ⟨p, ln - 1, true, hgo _ _ true (by rw [g3]; rfl) (by rw [g3]; rfl) (by omega) g5 g6, .inr (.inr ⟨g0, rfl, g1, g2, g4, rfl⟩)⟩)
      rcases Nat.eq_zero_or_pos u.lines with hu0 | hu0
      rotate_left
      · obtain ⟨p1, hp1⟩ : ∃ p, a + u.head = p := ⟨_, rfl⟩
        have HNN : nxF t a = some (p1 + 1) := by rw [← hp1, HUH.out]; exact nxF_some (by have := HLE.out; omega) (by rw [← HUN.out]; exact hu0)
        obtain ⟨n1, n2, n3, n4⟩ := HNX.out hu0
        rw [hp1] at n1 n2 n3 n4
        rw [HLE.out] at n1
        rw [HNN] at HN
        have hls : (u.lines : Int) > 0 := by omega
        have hls2 : decide ((u.lines : Int) > 0) = true := by simp; omega
        have hls3 : 0 < u.lines := hu0
        have HN1 := Lib.hid n1; have HN2 := Lib.hid n2; have HN3 := Lib.hid n3; have HN4 := Lib.hid n4; have HP1 := Lib.hid hp1
        clear HNN hu0 HNX n1 n2 n3 n4 hp1
        refine AnyH.take (i := 0) (d := some 63) (v := ?_) (by kernel_rfl) rfl rfl HF (fun _ _ _ h => h) (.inl ⟨by rfl, ?_⟩) (by first | assumption | rfl) ?_
        rotate_left
        · intro w hS; try subst hS
          go_simp; try with_reducible rfl
        try simp only [Act.put, List.setIfInBounds_toArray, List.set_cons_zero, List.set_cons_succ]
        refine AnyH.take (i := 1) (d := some 64) (v := ?_) (by kernel_rfl) rfl rfl HF (fun _ _ _ h => h) (.inl ⟨by rfl, ?_⟩) (by first | assumption | rfl) ?_
        rotate_left
        · intro w hS; try subst hS
          go_simp; try with_reducible rfl
        try simp only [Act.put, List.setIfInBounds_toArray, List.set_cons_zero, List.set_cons_succ]
        refine AnyH.take (i := 2) (d := some 65) (v := ?_) (by kernel_rfl) rfl rfl HF (fun _ _ _ h => h) (.inl ⟨by rfl, ?_⟩) (by first | assumption | rfl) ?_
        rotate_left
        · intro w hS; try subst hS
          go_simp; try with_reducible rfl
        try simp only [Act.put, List.setIfInBounds_toArray, List.set_cons_zero, List.set_cons_succ]
        refine AnyH.take (i := 3) (d := some 66) (v := ?_) (by kernel_rfl) rfl rfl HF (fun _ _ _ h => h) (.inl ⟨by rfl, ?_⟩) (by first | assumption | rfl) ?_
        rotate_left
        · intro w hS; try subst hS
          go_simp; try with_reducible rfl
        try simp only [Act.put, List.setIfInBounds_toArray, List.set_cons_zero, List.set_cons_succ]
        refine AnyH.take (i := 5) (d := some 68) (v := ?_) (by kernel_rfl) rfl rfl HF (fun _ _ _ h => h) (.inl ⟨by rfl, ?_⟩) (by first | assumption | rfl) ?_
        rotate_left
        · intro w hS; try subst hS
          go_simp; try with_reducible rfl
        try simp only [Act.put, List.setIfInBounds_toArray, List.set_cons_zero, List.set_cons_succ]
        refine AnyH.take (i := 6) (d := some 69) (v := ?_) (by kernel_rfl) rfl rfl HF (fun _ _ _ h => h) (.inl ⟨by rfl, ?_⟩) (by first | assumption | rfl) ?_
        rotate_left
        · intro w hS; try subst hS
          go_simp; try with_reducible rfl
        try simp only [Act.put, List.setIfInBounds_toArray, List.set_cons_zero, List.set_cons_succ]
        refine AnyH.take (i := 7) (d := some 70) (v := ?_) (by kernel_rfl) rfl rfl HF (fun _ _ _ h => h) (.inl ⟨by rfl, ?_⟩) (by first | assumption | rfl) ?_
        rotate_left
        · intro w hS; try subst hS
          go_simp; try with_reducible rfl
        try simp only [Act.put, List.setIfInBounds_toArray, List.set_cons_zero, List.set_cons_succ]
        refine AnyH.one (i := 4) (by kernel_rfl) (by kernel_rfl) rfl HF (by rfl) (fun K hK => ?_)
        go_simp
        first | ((with_reducible refine And.intro ?hdep ?_); (case hdep => first | rfl | (intro h; cases h))) | skip
        refine callsIn_wide.2 (HN.out.mono ?_)
        rintro e wc m
        obtain ⟨he, kc, bc⟩ := m.bc Kd.out
        replace he : e = .returned (.bool true) := he
        subst he
        have SW2 := SW.bc Kd.out bc
        have HKC : Hid (CuC wc c B id len (p1 + 1)) := Lib.hid kc
        have HSc := Lib.hid (HSd.out.bc Kd.out bc)
        have HKD := Lib.hid (KDd.out.bc bc HDC.out)
        have HBc := Lib.hid (below_bc HBd.out bc HC.out HBd.out.size)
        clear kc bc
        refine hK _ _ SW2 ?_
        clear hK K
        try simp only [Act.put, List.setIfInBounds_toArray, List.set_cons_zero, List.set_cons_succ]
        refine AnyH.take (i := 8) (d := some 71) (v := ?_) (by kernel_rfl) rfl rfl HF (fun _ _ _ h => h) (.inl ⟨by rfl, ?_⟩) (by first | assumption | rfl) ?_
        rotate_left
        · intro w hS; try subst hS
          go_simp; try with_reducible rfl
        try simp only [Act.put, List.setIfInBounds_toArray, List.set_cons_zero, List.set_cons_succ]
        refine AnyH.take (i := 9) (d := some 72) (v := ?_) (by kernel_rfl) rfl rfl HF (fun _ _ _ h => h) (.inl ⟨by rfl, ?_⟩) (by first | assumption | rfl) ?_
        rotate_left
        · intro w hS; try subst hS
          go_simp; try with_reducible rfl
        try simp only [Act.put, List.setIfInBounds_toArray, List.set_cons_zero, List.set_cons_succ]
        refine AnyH.done (by kernel_rfl) ?_
        have KW := Lib.hid (show WtC wc g u from SW2)
        have c1 := mg wc SW2
        have HL5 := HLN.out wc c (p1 + 1) HSc.out HKC.out HN1.out
        rw [HN2.out, HN3.out] at HL5
        have HL5 := Lib.hid HL5
        clear mg SW SW2 HN Kd KDd HSd HBd
        go_wp2_with fail
        refine HL5.out.mono ?_
        rintro e w10 ⟨rfl, b10⟩
        have HKC := Lib.hid (show CuC w10 c B id len (p1 + 1) from below_block b10 HKC.out)
        have HKD := Lib.hid (show CuC w10 d B id len a from below_block b10 HKD.out)
        have KW := Lib.hid (show WtC w10 g u from below_block b10 KW.out)
        have HSc := Lib.hid (HSc.out.below b10)
        have HBc := Lib.hid (Below.after HBc.out b10)
        clear b10 HL5 c1
        have HPR := Lib.hid (prev_some HSc.out HWF.out.1 (by have := HWF.out.2.1; omega) (k := p1) (b := 10) HKC.out HWF.out.2.2 (by have := HN1.out; omega) hlen (by rw [HT.out]; exact HN4.out))
        go_wp2_with fail
        refine HPR.out.mono ?_
        rintro e w' ⟨rfl, w11, b11, rfl⟩
        have bb : BC c w10 (w11.setCell ⟨c, 3, none⟩ (.int .i64 p1)) := (BC.of b11).set (p := ⟨c, 3, none⟩) (.inr rfl) _
        have kc := CuC.move (show CuC w11 c B id len (p1 + 1) from below_block b11 HKC.out) p1
        generalize w11.setCell ⟨c, 3, none⟩ (.int .i64 p1) = w12 at *
        have HKD := Lib.hid (HKD.out.bc bb HDC.out)
        have KW := Lib.hid (KW.out.bc HKC.out bb)
        have HSc := Lib.hid (HSc.out.bc HKC.out bb)
        have HBc := Lib.hid (below_bc HBc.out bb HC.out HBc.out.size)
        have HKC := Lib.hid kc
        clear bb kc b11 HPR
        go_wp2_with fail
        refine wp_region_anyH (Below w12.heap.size w12) (by kernel_rfl) ?_
        obtain ⟨wc, hwc⟩ : ∃ w, w12.drew = w := ⟨_, rfl⟩
        have SD : Below w12.heap.size w12 wc := by rw [← hwc]; exact (Below.refl _ _).drew
        rw [hwc]
        clear hwc
        have mg : ∀ w, Below w12.heap.size w12 w → w.cell? ⟨g, 2, none⟩ = some (.int .i64 u.head) := fun w hw => (WtC.cells (below_block hw KW.out)).2.2.1
        have hwA : IntKind.i64.wrap ((a : Int) + (u.head : Int)) = (p1 : Int) := by have := HP1.out; have := HN1.out; rw [IntKind.wrap_i64]; omega
        have hlnw := HLNW.out
        have HOF := Lib.hid (offset_any (show CuC wc c B id len p1 from below_block SD HKC.out))
        refine AnyH.take (i := 0) (d := some 86) (v := ?_) (by kernel_rfl) rfl rfl HF (fun _ _ _ h => h) (.inl ⟨by rfl, ?_⟩) (by first | assumption | rfl) ?_
        rotate_left
        · intro w hS; try subst hS
          go_simp; try with_reducible rfl
        try simp only [Act.put, List.setIfInBounds_toArray, List.set_cons_zero, List.set_cons_succ]
        refine AnyH.take (i := 1) (d := some 87) (v := ?_) (by kernel_rfl) rfl rfl HF (fun _ _ _ h => h) (.inl ⟨by rfl, ?_⟩) (by first | assumption | rfl) ?_
        rotate_left
        · intro w hS; try subst hS
          go_simp; try with_reducible rfl
        try simp only [Act.put, List.setIfInBounds_toArray, List.set_cons_zero, List.set_cons_succ]
        refine AnyH.take (i := 2) (d := some 88) (v := ?_) (by kernel_rfl) rfl rfl HF (fun _ _ _ h => h) (.inl ⟨by rfl, ?_⟩) (by first | assumption | rfl) ?_
        rotate_left
        · intro w hS; try subst hS
          go_simp; try with_reducible rfl
        try simp only [Act.put, List.setIfInBounds_toArray, List.set_cons_zero, List.set_cons_succ]
        refine AnyH.take (i := 3) (d := some 89) (v := ?_) (by kernel_rfl) rfl rfl HF (fun _ _ _ h => h) (.inl ⟨by rfl, ?_⟩) (by first | assumption | rfl) ?_
        rotate_left
        · intro w hS; try subst hS
          go_simp; try with_reducible rfl
        try simp only [Act.put, List.setIfInBounds_toArray, List.set_cons_zero, List.set_cons_succ]
        refine AnyH.take (i := 4) (d := some 90) (v := ?_) (by kernel_rfl) rfl rfl HF (fun _ _ _ h => h) (.inl ⟨by rfl, ?_⟩) (by first | assumption | rfl) ?_
        rotate_left
        · intro w hS; try subst hS
          go_simp; try with_reducible rfl
        try simp only [Act.put, List.setIfInBounds_toArray, List.set_cons_zero, List.set_cons_succ]
        refine AnyH.take (i := 5) (d := some 91) (v := ?_) (by kernel_rfl) rfl rfl HF (fun _ _ _ h => h) (.inl ⟨by rfl, ?_⟩) (by first | assumption | rfl) ?_
        rotate_left
        · intro w hS; try subst hS
          go_simp; try with_reducible rfl
        try simp only [Act.put, List.setIfInBounds_toArray, List.set_cons_zero, List.set_cons_succ]
        refine AnyH.take (i := 6) (d := some 92) (v := ?_) (by kernel_rfl) rfl rfl HF (fun _ _ _ h => h) (.inl ⟨by rfl, ?_⟩) (by first | assumption | rfl) ?_
        rotate_left
        · intro w hS; try subst hS
          go_simp; try with_reducible rfl
        try simp only [Act.put, List.setIfInBounds_toArray, List.set_cons_zero, List.set_cons_succ]
        refine AnyH.take (i := 7) (d := some 93) (v := ?_) (by kernel_rfl) rfl rfl HF (fun _ _ _ h => h) (.inl ⟨by rfl, ?_⟩) (by first | assumption | rfl) ?_
        rotate_left
        · intro w hS; try subst hS
          go_simp; try with_reducible rfl
        try simp only [Act.put, List.setIfInBounds_toArray, List.set_cons_zero, List.set_cons_succ]
        refine AnyH.take (i := 8) (d := some 94) (v := ?_) (by kernel_rfl) rfl rfl HF (fun _ _ _ h => h) (.inl ⟨by rfl, ?_⟩) (by first | assumption | rfl) ?_
        rotate_left
        · intro w hS; try subst hS
          go_simp; try with_reducible rfl
        try simp only [Act.put, List.setIfInBounds_toArray, List.set_cons_zero, List.set_cons_succ]
        refine AnyH.take (i := 9) (d := some 95) (v := ?_) (by kernel_rfl) rfl rfl HF (fun _ _ _ h => h) (.inl ⟨by rfl, ?_⟩) (by first | assumption | rfl) ?_
        rotate_left
        · intro w hS; try subst hS
          go_simp; try with_reducible rfl
        try simp only [Act.put, List.setIfInBounds_toArray, List.set_cons_zero, List.set_cons_succ]
        refine AnyH.take (i := 10) (d := some 96) (v := ?_) (by kernel_rfl) rfl rfl HF (fun _ _ _ h => h) (.inl ⟨by rfl, ?_⟩) (by first | assumption | rfl) ?_
        rotate_left
        · intro w hS; try subst hS
          go_simp; try with_reducible rfl
        try simp only [Act.put, List.setIfInBounds_toArray, List.set_cons_zero, List.set_cons_succ]
        refine AnyH.take (i := 11) (d := some 97) (v := ?_) (by kernel_rfl) rfl rfl HF (fun _ _ _ h => h) (.inl ⟨by rfl, ?_⟩) (by first | assumption | rfl) ?_
        rotate_left
        · intro w hS; try subst hS
          go_simp; try with_reducible rfl
        try simp only [Act.put, List.setIfInBounds_toArray, List.set_cons_zero, List.set_cons_succ]
        refine AnyH.take (i := 12) (d := some 98) (v := ?_) (by kernel_rfl) rfl rfl HF (fun _ _ _ h => h) (.inl ⟨by rfl, ?_⟩) (by first | assumption | rfl) ?_
        rotate_left
        · intro w hS; try subst hS
          go_simp; try with_reducible rfl
        try simp only [Act.put, List.setIfInBounds_toArray, List.set_cons_zero, List.set_cons_succ]
        refine AnyH.take (i := 13) (d := some 99) (v := ?_) (by kernel_rfl) rfl rfl HF (fun _ _ _ h => h) (.inl ⟨by rfl, ?_⟩) (by first | assumption | rfl) ?_
        rotate_left
        · intro w hS; try subst hS
          go_simp; try with_reducible rfl
        try simp only [Act.put, List.setIfInBounds_toArray, List.set_cons_zero, List.set_cons_succ]
        refine AnyH.take (i := 14) (d := some 100) (v := ?_) (by kernel_rfl) rfl rfl HF (fun _ _ _ h => h) (.inl ⟨by rfl, ?_⟩) (by first | assumption | rfl) ?_
        rotate_left
        · intro w hS; try subst hS
          go_simp; try with_reducible rfl
        try simp only [Act.put, List.setIfInBounds_toArray, List.set_cons_zero, List.set_cons_succ]
        refine AnyH.take (i := 15) (d := some 101) (v := ?_) (by kernel_rfl) rfl rfl HF (fun _ _ _ h => h) (.inl ⟨by rfl, ?_⟩) (by first | assumption | rfl) ?_
        rotate_left
        · intro w hS; try subst hS
          go_simp; try with_reducible rfl
        try simp only [Act.put, List.setIfInBounds_toArray, List.set_cons_zero, List.set_cons_succ]
        refine AnyH.take (i := 16) (d := some 102) (v := ?_) (by kernel_rfl) rfl rfl HF (fun _ _ _ h => h) (.inl ⟨by rfl, ?_⟩) (by first | assumption | rfl) ?_
        rotate_left
        · intro w hS; try subst hS
          go_simp; try with_reducible rfl
        try simp only [Act.put, List.setIfInBounds_toArray, List.set_cons_zero, List.set_cons_succ]
        refine AnyH.take (i := 17) (d := some 103) (v := ?_) (by kernel_rfl) rfl rfl HF (fun _ _ _ h => h) (.inl ⟨by rfl, ?_⟩) (by first | assumption | rfl) ?_
        rotate_left
        · intro w hS; try subst hS
          go_simp; try with_reducible rfl
        try simp only [Act.put, List.setIfInBounds_toArray, List.set_cons_zero, List.set_cons_succ]
        refine AnyH.take (i := 19) (d := some 105) (v := ?_) (by kernel_rfl) rfl rfl HF (fun _ _ _ h => h) (.inl ⟨by rfl, ?_⟩) (by first | assumption | rfl) ?_
        rotate_left
        · intro w hS; try subst hS
          go_simp; try with_reducible rfl
        try simp only [Act.put, List.setIfInBounds_toArray, List.set_cons_zero, List.set_cons_succ]
        refine AnyH.take (i := 20) (d := some 106) (v := ?_) (by kernel_rfl) rfl rfl HF (fun _ _ _ h => h) (.inl ⟨by rfl, ?_⟩) (by first | assumption | rfl) ?_
        rotate_left
        · intro w hS; try subst hS
          go_simp; try with_reducible rfl
        try simp only [Act.put, List.setIfInBounds_toArray, List.set_cons_zero, List.set_cons_succ]
        refine AnyH.take (i := 21) (d := some 107) (v := ?_) (by kernel_rfl) rfl rfl HF (fun _ _ _ h => h) (.inl ⟨by rfl, ?_⟩) (by first | assumption | rfl) ?_
        rotate_left
        · intro w hS; try subst hS
          go_simp; try with_reducible rfl
        try simp only [Act.put, List.setIfInBounds_toArray, List.set_cons_zero, List.set_cons_succ]
        refine AnyH.take (i := 22) (d := some 108) (v := ?_) (by kernel_rfl) rfl rfl HF (fun _ _ _ h => h) (.inl ⟨by rfl, ?_⟩) (by first | assumption | rfl) ?_
        rotate_left
        · intro w hS; try subst hS
          go_simp; try with_reducible rfl
        try simp only [Act.put, List.setIfInBounds_toArray, List.set_cons_zero, List.set_cons_succ]
        refine AnyH.one (i := 18) (by kernel_rfl) (by kernel_rfl) rfl HF (by rfl) (fun K hK => ?_)
        go_simp
        first | ((with_reducible refine And.intro ?hdep ?_); (case hdep => first | rfl | (intro h; cases h))) | skip
        refine callsIn_wide.2 (HOF.out.mono ?_)
        rintro e w ⟨rfl, h⟩; rw [h]; clear h w
        refine hK _ _ SD ?_
        clear hK K
        try simp only [Act.put, List.setIfInBounds_toArray, List.set_cons_zero, List.set_cons_succ]
        refine AnyH.take (i := 23) (d := some 109) (v := ?_) (by kernel_rfl) rfl rfl HF (fun _ _ _ h => h) (.inl ⟨by rfl, ?_⟩) (by first | assumption | rfl) ?_
        rotate_left
        · intro w hS; try subst hS
          go_simp; try with_reducible rfl
        try simp only [Act.put, List.setIfInBounds_toArray, List.set_cons_zero, List.set_cons_succ]
        refine AnyH.take (i := 24) (d := some 110) (v := ?_) (by kernel_rfl) rfl rfl HF (fun _ _ _ h => h) (.inl ⟨by rfl, ?_⟩) (by first | assumption | rfl) ?_
        rotate_left
        · intro w hS; try subst hS
          go_simp; try with_reducible rfl
        try simp only [Act.put, List.setIfInBounds_toArray, List.set_cons_zero, List.set_cons_succ]
        refine AnyH.done (by kernel_rfl) ?_
        have HKD := Lib.hid (show CuC wc d B id len a from below_block SD HKD.out)
        have HSc := Lib.hid (HSc.out.below SD)
        have HBc := Lib.hid (Below.after HBc.out SD)
        clear SD mg hwA hlnw HOF HKC KW
        obtain ⟨p, L1, bb, HPL, hcs⟩ := HFIN.out wc HSc.out HKD.out HBc.out
        have HPL := Lib.hid HPL
        rcases hcs with ⟨g0, rfl, g1, g2, g3, g4⟩ | ⟨g0, rfl, g1, g2, g3⟩ | ⟨g0, rfl, g1, g2, g3, g4⟩
        · have ha : ¬ (a : Int) > 0 := by omega
          have ha5 : ¬ 0 < a := by omega
          have ha7 : decide (0 < a) = false := by simp; omega
          have hi7 : decide (0 < tl) = false := by simp; omega
          have hi5 : ¬ 0 < tl := by omega
          have ha6 : a = 0 := by omega
          have ha2 : decide ((a : Int) > 0) = false := by simp; omega
          have ha3 : ((a : Int) == 0) = true := by simp; omega
          have ha4 : ((p : Int) == (a : Int)) = true := by simp; omega
          have ha8 : ((p : Int) == 0) = true := by simp; omega
          have hi : ¬ (tl : Int) > 0 := by omega
          have hm : IntKind.i64.wrap ((ln : Int) - 1) = -1 := by rw [IntKind.wrap_i64]; omega
          have hm2 : ((L1 : Int) == 0) = true := by simp; omega
          clear g0 g1 g2 g3 g4
          go_wp2_with fail
          refine HPL.out.mono ?_
          rintro e w20 ⟨rfl, b20, k20, hl20⟩
          have HB := Lib.hid b20; have HO := Lib.hid k20; have HL := Lib.hid hl20
          clear b20 k20 hl20
          go_wp2_with fail
          try (rename_i hcon; exfalso; revert hcon; simp; omega)
          refine HL.out.mono ?_
          rintro e w21 ⟨rfl, b21⟩
          have HOF := Lib.hid (offset_any (show CuC w21 d B id len p from below_block b21 HO.out))
          have HB := Lib.hid (Below.after HB.out b21)
          clear b21 HO HL
          go_wp2_with fail
          refine HOF.out.mono ?_; rintro e w ⟨rfl, h⟩; rw [h]; clear h w
          go_wp2_with fail
          go_ret
          exact ⟨rfl, HB.out⟩
        · have ha : (a : Int) > 0 := by omega
          have ha2 : decide ((a : Int) > 0) = true := by simp; omega
          have hi : (tl : Int) > 0 := by omega
          have hm : IntKind.i64.wrap ((a : Int) - (tl : Int)) = (p : Int) := by rw [IntKind.wrap_i64]; omega
          have hm2 : ((L1 : Int) == (ln : Int)) = true := by simp; omega
          clear g0 g1 g2 g3
          go_wp2_with fail
          refine HPL.out.mono ?_
          rintro e w20 ⟨rfl, b20, k20, hl20⟩
          have HB := Lib.hid b20; have HO := Lib.hid k20; have HL := Lib.hid hl20
          clear b20 k20 hl20
          go_wp2_with fail
          try (rename_i hcon; exfalso; revert hcon; simp; omega)
          refine HL.out.mono ?_
          rintro e w21 ⟨rfl, b21⟩
          have HOF := Lib.hid (offset_any (show CuC w21 d B id len p from below_block b21 HO.out))
          have HB := Lib.hid (Below.after HB.out b21)
          clear b21 HO HL
          go_wp2_with fail
          refine HOF.out.mono ?_; rintro e w ⟨rfl, h⟩; rw [h]; clear h w
          go_wp2_with fail
          go_ret
          exact ⟨rfl, HB.out⟩
        · have ha : (a : Int) > 0 := by omega
          have ha2 : decide ((a : Int) > 0) = true := by simp; omega
          have ha3 : ((a : Int) == 0) = false := by simp; omega
          have ha4 : ((p : Int) == (a : Int)) = false := by simp; omega
          have hi : ¬ (tl : Int) > 0 := by omega
          have hm : IntKind.i64.wrap ((ln : Int) - 1) = (L1 : Int) := by rw [IntKind.wrap_i64]; omega
          have hm2 : ¬ (L1 : Int) < 0 := by omega
          clear g0 g1 g2 g3 g4
          go_wp2_with fail
          refine HPL.out.mono ?_
          rintro e w20 ⟨rfl, b20, k20, hl20⟩
          have HB := Lib.hid b20; have HO := Lib.hid k20; have HL := Lib.hid hl20
          clear b20 k20 hl20
          go_wp2_with fail
          try (rename_i hcon; exfalso; revert hcon; simp; omega)
          refine HL.out.mono ?_
          rintro e w21 ⟨rfl, b21⟩
          have HOF := Lib.hid (offset_any (show CuC w21 d B id len p from below_block b21 HO.out))
          have HB := Lib.hid (Below.after HB.out b21)
          clear b21 HO HL
          go_wp2_with fail
          refine HOF.out.mono ?_; rintro e w ⟨rfl, h⟩; rw [h]; clear h w
          go_wp2_with fail
          go_ret
          exact ⟨rfl, HB.out⟩
      · have HNN : nxF t a = none := nxF_none (by rw [← HUN.out]; exact hu0)
        rw [HNN] at HN
        have hls : ¬ (u.lines : Int) > 0 := by omega
        have hls2 : decide ((u.lines : Int) > 0) = false := by simp; omega
        have hls3 : ¬ 0 < u.lines := by omega
        clear HNN hu0 HNX
        refine AnyH.take (i := 0) (d := some 63) (v := ?_) (by kernel_rfl) rfl rfl HF (fun _ _ _ h => h) (.inl ⟨by rfl, ?_⟩) (by first | assumption | rfl) ?_
        rotate_left
        · intro w hS; try subst hS
          go_simp; try with_reducible rfl
        try simp only [Act.put, List.setIfInBounds_toArray, List.set_cons_zero, List.set_cons_succ]
        refine AnyH.take (i := 1) (d := some 64) (v := ?_) (by kernel_rfl) rfl rfl HF (fun _ _ _ h => h) (.inl ⟨by rfl, ?_⟩) (by first | assumption | rfl) ?_
        rotate_left
        · intro w hS; try subst hS
          go_simp; try with_reducible rfl
        try simp only [Act.put, List.setIfInBounds_toArray, List.set_cons_zero, List.set_cons_succ]
        refine AnyH.take (i := 2) (d := some 65) (v := ?_) (by kernel_rfl) rfl rfl HF (fun _ _ _ h => h) (.inl ⟨by rfl, ?_⟩) (by first | assumption | rfl) ?_
        rotate_left
        · intro w hS; try subst hS
          go_simp; try with_reducible rfl
        try simp only [Act.put, List.setIfInBounds_toArray, List.set_cons_zero, List.set_cons_succ]
        refine AnyH.take (i := 3) (d := some 66) (v := ?_) (by kernel_rfl) rfl rfl HF (fun _ _ _ h => h) (.inl ⟨by rfl, ?_⟩) (by first | assumption | rfl) ?_
        rotate_left
        · intro w hS; try subst hS
          go_simp; try with_reducible rfl
        try simp only [Act.put, List.setIfInBounds_toArray, List.set_cons_zero, List.set_cons_succ]
        refine AnyH.take (i := 5) (d := some 68) (v := ?_) (by kernel_rfl) rfl rfl HF (fun _ _ _ h => h) (.inl ⟨by rfl, ?_⟩) (by first | assumption | rfl) ?_
        rotate_left
        · intro w hS; try subst hS
          go_simp; try with_reducible rfl
        try simp only [Act.put, List.setIfInBounds_toArray, List.set_cons_zero, List.set_cons_succ]
        refine AnyH.take (i := 6) (d := some 69) (v := ?_) (by kernel_rfl) rfl rfl HF (fun _ _ _ h => h) (.inl ⟨by rfl, ?_⟩) (by first | assumption | rfl) ?_
        rotate_left
        · intro w hS; try subst hS
          go_simp; try with_reducible rfl
        try simp only [Act.put, List.setIfInBounds_toArray, List.set_cons_zero, List.set_cons_succ]
        refine AnyH.take (i := 7) (d := some 70) (v := ?_) (by kernel_rfl) rfl rfl HF (fun _ _ _ h => h) (.inl ⟨by rfl, ?_⟩) (by first | assumption | rfl) ?_
        rotate_left
        · intro w hS; try subst hS
          go_simp; try with_reducible rfl
        try simp only [Act.put, List.setIfInBounds_toArray, List.set_cons_zero, List.set_cons_succ]
        refine AnyH.one (i := 4) (by kernel_rfl) (by kernel_rfl) rfl HF (by rfl) (fun K hK => ?_)
        go_simp
        first | ((with_reducible refine And.intro ?hdep ?_); (case hdep => first | rfl | (intro h; cases h))) | skip
        refine callsIn_wide.2 (HN.out.mono ?_)
        rintro e wc m
        obtain ⟨he, kc, bc⟩ := m.bc Kd.out
        replace he : e = .returned (.bool false) := he
        subst he
        have SW2 := SW.bc Kd.out bc
        have HSc := Lib.hid (HSd.out.bc Kd.out bc)
        have HKD := Lib.hid (KDd.out.bc bc HDC.out)
        have HBc := Lib.hid (below_bc HBd.out bc HC.out HBd.out.size)
        clear kc bc
        refine hK _ _ SW2 ?_
        clear hK K
        try simp only [Act.put, List.setIfInBounds_toArray, List.set_cons_zero, List.set_cons_succ]
        refine AnyH.take (i := 8) (d := some 71) (v := ?_) (by kernel_rfl) rfl rfl HF (fun _ _ _ h => h) (.inl ⟨by rfl, ?_⟩) (by first | assumption | rfl) ?_
        rotate_left
        · intro w hS; try subst hS
          go_simp; try with_reducible rfl
        try simp only [Act.put, List.setIfInBounds_toArray, List.set_cons_zero, List.set_cons_succ]
        refine AnyH.take (i := 9) (d := some 72) (v := ?_) (by kernel_rfl) rfl rfl HF (fun _ _ _ h => h) (.inl ⟨by rfl, ?_⟩) (by first | assumption | rfl) ?_
        rotate_left
        · intro w hS; try subst hS
          go_simp; try with_reducible rfl
        try simp only [Act.put, List.setIfInBounds_toArray, List.set_cons_zero, List.set_cons_succ]
        refine AnyH.done (by kernel_rfl) ?_
        have c1 := mg wc SW2
        clear mg SW SW2
        obtain ⟨p, L1, bb, HPL, hcs⟩ := HFIN.out wc HSc.out HKD.out HBc.out
        have HPL := Lib.hid HPL
        rcases hcs with ⟨g0, rfl, g1, g2, g3, g4⟩ | ⟨g0, rfl, g1, g2, g3⟩ | ⟨g0, rfl, g1, g2, g3, g4⟩
        · have ha : ¬ (a : Int) > 0 := by omega
          have ha5 : ¬ 0 < a := by omega
          have ha7 : decide (0 < a) = false := by simp; omega
          have hi7 : decide (0 < tl) = false := by simp; omega
          have hi5 : ¬ 0 < tl := by omega
          have ha6 : a = 0 := by omega
          have ha2 : decide ((a : Int) > 0) = false := by simp; omega
          have ha3 : ((a : Int) == 0) = true := by simp; omega
          have ha4 : ((p : Int) == (a : Int)) = true := by simp; omega
          have ha8 : ((p : Int) == 0) = true := by simp; omega
          have hi : ¬ (tl : Int) > 0 := by omega
          have hm : IntKind.i64.wrap ((ln : Int) - 1) = -1 := by rw [IntKind.wrap_i64]; omega
          have hm2 : ((L1 : Int) == 0) = true := by simp; omega
          clear g0 g1 g2 g3 g4
          go_wp2_with fail
          refine HPL.out.mono ?_
          rintro e w20 ⟨rfl, b20, k20, hl20⟩
          have HB := Lib.hid b20; have HO := Lib.hid k20; have HL := Lib.hid hl20
          clear b20 k20 hl20
          go_wp2_with fail
          try (rename_i hcon; exfalso; revert hcon; simp; omega)
          refine HL.out.mono ?_
          rintro e w21 ⟨rfl, b21⟩
          have HOF := Lib.hid (offset_any (show CuC w21 d B id len p from below_block b21 HO.out))
          have HB := Lib.hid (Below.after HB.out b21)
          clear b21 HO HL
          go_wp2_with fail
          refine HOF.out.mono ?_; rintro e w ⟨rfl, h⟩; rw [h]; clear h w
          go_wp2_with fail
          go_ret
          exact ⟨rfl, HB.out⟩
        · have ha : (a : Int) > 0 := by omega
          have ha2 : decide ((a : Int) > 0) = true := by simp; omega
          have hi : (tl : Int) > 0 := by omega
          have hm : IntKind.i64.wrap ((a : Int) - (tl : Int)) = (p : Int) := by rw [IntKind.wrap_i64]; omega
          have hm2 : ((L1 : Int) == (ln : Int)) = true := by simp; omega
          clear g0 g1 g2 g3
          go_wp2_with fail
          refine HPL.out.mono ?_
          rintro e w20 ⟨rfl, b20, k20, hl20⟩
          have HB := Lib.hid b20; have HO := Lib.hid k20; have HL := Lib.hid hl20
          clear b20 k20 hl20
          go_wp2_with fail
          try (rename_i hcon; exfalso; revert hcon; simp; omega)
          refine HL.out.mono ?_
          rintro e w21 ⟨rfl, b21⟩
          have HOF := Lib.hid (offset_any (show CuC w21 d B id len p from below_block b21 HO.out))
          have HB := Lib.hid (Below.after HB.out b21)
          clear b21 HO HL
          go_wp2_with fail
          refine HOF.out.mono ?_; rintro e w ⟨rfl, h⟩; rw [h]; clear h w
          go_wp2_with fail
          go_ret
          exact ⟨rfl, HB.out⟩
        · have ha : (a : Int) > 0 := by omega
          have ha2 : decide ((a : Int) > 0) = true := by simp; omega
          have ha3 : ((a : Int) == 0) = false := by simp; omega
          have ha4 : ((p : Int) == (a : Int)) = false := by simp; omega
          have hi : ¬ (tl : Int) > 0 := by omega
          have hm : IntKind.i64.wrap ((ln : Int) - 1) = (L1 : Int) := by rw [IntKind.wrap_i64]; omega
          have hm2 : ¬ (L1 : Int) < 0 := by omega
          clear g0 g1 g2 g3 g4
          go_wp2_with fail
          refine HPL.out.mono ?_
          rintro e w20 ⟨rfl, b20, k20, hl20⟩
          have HB := Lib.hid b20; have HO := Lib.hid k20; have HL := Lib.hid hl20
          clear b20 k20 hl20
          go_wp2_with fail
          try (rename_i hcon; exfalso; revert hcon; simp; omega)
          refine HL.out.mono ?_
          rintro e w21 ⟨rfl, b21⟩
          have HOF := Lib.hid (offset_any (show CuC w21 d B id len p from below_block b21 HO.out))
          have HB := Lib.hid (Below.after HB.out b21)
          clear b21 HO HL
          go_wp2_with fail
          refine HOF.out.mono ?_; rintro e w ⟨rfl, h⟩; rw [h]; clear h w
          go_wp2_with fail
          go_ret
          exact ⟨rfl, HB.out⟩
    · have hcase : at' < 0 ∨ (¬ at' < 0 ∧ at' > (len : Int)) := by omega
      go_enter Try.func6, Try.ntmps6
      go_wp2_with fail
      refine HG.out.mono ?_
      rintro e w3 ⟨B, c, rfl, -, k3, hc, b3⟩
      have HB3 := Lib.hid b3
      have HSK := Lib.hid (seek_any k3 at')
      have HL3 := Lib.hid (length_any k3)
      clear k3 b3 hc HG
      go_wp2_with fail
      refine HSK.out.mono ?_
      rintro e w' (⟨h1, h2, -⟩ | ⟨-, rfl, h⟩)
      · exact absurd ⟨h1, h2⟩ hin
      rw [h]
      clear h HSK
      unfold err
      rcases hcase with h1 | ⟨h1, h2⟩
      · go_wp2_with fail
        go_ret
        exact ⟨rfl, HB3.out⟩
      · go_wp2_with fail
        refine HL3.out.mono ?_; rintro e w ⟨rfl, h⟩; rw [h]; clear h w
        go_wp2_with fail
        go_ret
        exact ⟨rfl, HB3.out⟩
  · have hl2 : (M.length : Int) > 100 := by omega
    go_enter Try.func6, Try.ntmps6
    go_wp2_with fail
    go_ret
    exact ⟨rfl, Below.refl _ _⟩
end M
end Go.Proofs.Ytjbllcakaljpgaa
