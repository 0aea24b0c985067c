/- CursorGreat: the walk. -/
import Derived.Test.YtjbllcakaljpgaaBegun
import Derived.Test.YtjbllcakaljpgaaAct18
namespace Go.Proofs.Ytjbllcakaljpgaa
open Go.RowKit Go.Lib
namespace M
attribute [local go_sem] Oper.semAt_some
set_option maxRecDepth 100000 in
set_option maxHeartbeats 8000000 in
theorem great_any {W : World} {v s : Value} {M : List Mk} {S : List Ac} (hM : RowMk W v M) (hS : RowAc W s S) (n : Int) :
    Calls Try.prog 8 #[v, .int .i64 n, s] W fun e w' => e = .returned (.bool true) ∧ Below W.heap.size W w' := by
  have HF : ∀ f, Fence.wide.fn f := fun _ => trivial
  have H := Lib.hid hM
  have HSC := Lib.hid hS
  obtain ⟨va, vc, rfl, -, hcm, -, -⟩ := hM
  unfold maxLen at hcm
  obtain ⟨sa, sc, rfl, hsc1, hsc2, -⟩ := hS
  unfold maxLen at hsc2
  by_cases hl : M.length ≤ 100
  · have hl2 : ¬ (M.length : Int) > 100 := by omega
    by_cases hsl : S.length ≤ 200
    · have hsl2 : ¬ (S.length : Int) > 200 := by omega
      have HG := Lib.hid (begun_any H.out hl n)
      have HWF : Hid (Wf (bldF M [] [0]).1 ∧ (bldF M [] [0]).1.length ≤ 100 ∧ resAt (bldF M [] [0]).2 n ≤ (bldF M [] [0]).1.length) := Lib.hid (by
        obtain ⟨a', cap', ha', -, -, hmb, -⟩ := H.out
        obtain ⟨q1, q2, q3, q4⟩ := bldF_wf M (E := []) (R := [0]) .nil (by simp) (fun m hm => (hmb m hm).1)
        exact ⟨q1, by simp at q2; omega, resAt_le q4 n⟩)
      unfold BegunP at HG
      generalize (bldF M [] [0]).1 = E at *
      generalize resAt (bldF M [] [0]).2 n = id at *
      obtain ⟨hw, hlen⟩ := HWF.out.1.len HWF.out.2.2
      have HE : Hid (E.length ≤ 1048576) := Lib.hid (by have := HWF.out.2.1; omega)
      obtain ⟨t, ht⟩ : ∃ t, txt E id = t := ⟨_, rfl⟩
      have hul : (entAt E id).w.len = t.length := by rw [hw, ← ht]; rfl
      rw [ht] at hlen
      rw [hul] at HG
      have HT := Lib.hid ht
      obtain ⟨u, hu⟩ : ∃ u, wt t = u := ⟨_, rfl⟩
      have hwu : (entAt E id).w = u := by rw [hw, ht, hu]
      have huL : u.len = t.length := by rw [← hu]; rfl
      clear hw hul ht
      obtain ⟨len, hle⟩ : ∃ l, t.length = l := ⟨_, rfl⟩
      rw [hle] at HG hlen huL
      have HLE := Lib.hid hle
      clear hle hu
      have HUL := Lib.hid huL; have HWU := Lib.hid hwu
      clear huL hwu
      go_enter Try.func8, Try.ntmps8
      go_wp2_with fail
      refine HG.out.mono ?_
      rintro e w3 ⟨B, c, rfl, s3, k3, hc, b3⟩
      have HWT := Lib.hid (weight_any s3 HWF.out.2.2 HE.out)
      rw [HWU.out] at HWT
      unfold wtV at HWT
      have HB3 := Lib.hid b3
      have HC : Hid (W.heap.size ≤ c) := Lib.hid hc
      have HS3 := Lib.hid s3
      have K3 := Lib.hid k3
      clear s3 k3 b3 hc HG
      go_wp2_with fail
      refine HWT.out.mono ?_
      rintro e w4 ⟨rfl, b4⟩
      obtain ⟨wz, w5, hz, hs, kw, bw, ⟨p0, p1, p2, p3, p4, p5⟩, q0, q1, q2, q3, q4, q5⟩ := newWt w4 u
      obtain ⟨g, hg⟩ : ∃ g, w4.heap.size = g := ⟨_, rfl⟩
      rw [hg] at hs p0 p1 p2 p3 p4 p5 q0 q1 q2 q3 q4 q5 kw
      obtain ⟨x0, x1, x2, x3, x4, x5⟩ := kw.cells
      have B5 := Below.after b4 bw
      have K5 : Hid (CuC w5 c B id len 0) := Lib.hid (below_block B5 K3.out)
      have HS5 := Lib.hid (HS3.out.below B5)
      have HB5 := Lib.hid (Below.after HB3.out B5)
      have KW5 := Lib.hid kw
      clear B5 b4 bw kw K3 HS3 HB3 HWT
      go_wp2_with fail
      clear hz hs p0 p1 p2 p3 p4 p5 q0 q1 q2 q3 q4 q5 x0 x1 x2 x3 x4 x5 hg
      have mg : ∀ w, Below w5.heap.size w5 w → w.cell? ⟨g, 0, none⟩ = some (.int .i64 len) := fun w hw => by have := (WtC.cells (below_block hw KW5.out)).1; rwa [HUL.out] at this
      refine wp_region_anyH (Below w5.heap.size w5) (by kernel_rfl) ?_
      obtain ⟨wd, hwd⟩ : ∃ w, w5.drew = w := ⟨_, rfl⟩
      have SD : Below w5.heap.size w5 wd := by rw [← hwd]; exact (Below.refl _ _).drew
      rw [hwd]
      clear hwd
      have Kd : Hid (CuC wd c B id len 0) := Lib.hid (below_block SD K5.out)
      refine AnyH.take (i := 0) (d := some 48) (v := ?_) (by kernel_rfl) rfl rfl HF (fun _ _ _ h => h) (.inl ⟨by rfl, ?_⟩) (by first | assumption | rfl) ?_
      rotate_left
      · intro w hS; try subst hS
        go_simp; try with_reducible rfl
      try simp only [Act.put, List.setIfInBounds_toArray, List.set_cons_zero, List.set_cons_succ]
      refine AnyH.take (i := 1) (d := some 49) (v := ?_) (by kernel_rfl) rfl rfl HF (fun _ _ _ h => h) (.inl ⟨by rfl, ?_⟩) (by first | assumption | rfl) ?_
      rotate_left
      · intro w hS; try subst hS
        go_simp; try with_reducible rfl
      try simp only [Act.put, List.setIfInBounds_toArray, List.set_cons_zero, List.set_cons_succ]
      refine AnyH.take (i := 2) (d := some 50) (v := ?_) (by kernel_rfl) rfl rfl HF (fun _ _ _ h => h) (.inl ⟨by rfl, ?_⟩) (by first | assumption | rfl) ?_
      rotate_left
      · intro w hS; try subst hS
        go_simp; try with_reducible rfl
      try simp only [Act.put, List.setIfInBounds_toArray, List.set_cons_zero, List.set_cons_succ]
      refine AnyH.take (i := 3) (d := some 51) (v := ?_) (by kernel_rfl) rfl rfl HF (fun _ _ _ h => h) (.inl ⟨by rfl, ?_⟩) (by first | assumption | rfl) ?_
      rotate_left
      · intro w hS; try subst hS
        go_simp; try with_reducible rfl
      try simp only [Act.put, List.setIfInBounds_toArray, List.set_cons_zero, List.set_cons_succ]
      refine AnyH.one (i := 4) (by kernel_rfl) (by kernel_rfl) rfl HF (by rfl) (fun K hK => ?_)
      go_simp
      first | ((with_reducible refine And.intro ?hdep ?_); (case hdep => first | rfl | (intro h; cases h))) | skip
      refine callsIn_wide.2 ((offset_any Kd.out).mono ?_)
      rintro e w ⟨rfl, h⟩; rw [h]; clear h w
      refine hK _ _ SD ?_
      clear hK K
      try simp only [Act.put, List.setIfInBounds_toArray, List.set_cons_zero, List.set_cons_succ]
      refine AnyH.take (i := 5) (d := some 53) (v := ?_) (by kernel_rfl) rfl rfl HF (fun _ _ _ h => h) (.inl ⟨by rfl, ?_⟩) (by first | assumption | rfl) ?_
      rotate_left
      · intro w hS; try subst hS
        go_simp; try with_reducible rfl
      try simp only [Act.put, List.setIfInBounds_toArray, List.set_cons_zero, List.set_cons_succ]
      refine AnyH.take (i := 6) (d := some 54) (v := ?_) (by kernel_rfl) rfl rfl HF (fun _ _ _ h => h) (.inl ⟨by rfl, ?_⟩) (by first | assumption | rfl) ?_
      rotate_left
      · intro w hS; try subst hS
        go_simp; try with_reducible rfl
      try simp only [Act.put, List.setIfInBounds_toArray, List.set_cons_zero, List.set_cons_succ]
      refine AnyH.take (i := 7) (d := some 55) (v := ?_) (by kernel_rfl) rfl rfl HF (fun _ _ _ h => h) (.inl ⟨by rfl, ?_⟩) (by first | assumption | rfl) ?_
      rotate_left
      · intro w hS; try subst hS
        go_simp; try with_reducible rfl
      try simp only [Act.put, List.setIfInBounds_toArray, List.set_cons_zero, List.set_cons_succ]
      refine AnyH.take (i := 8) (d := some 56) (v := ?_) (by kernel_rfl) rfl rfl HF (fun _ _ _ h => h) (.inl ⟨by rfl, ?_⟩) (by first | assumption | rfl) ?_
      rotate_left
      · intro w hS; try subst hS
        go_simp; try with_reducible rfl
      try simp only [Act.put, List.setIfInBounds_toArray, List.set_cons_zero, List.set_cons_succ]
      refine AnyH.take (i := 10) (d := some 58) (v := ?_) (by kernel_rfl) rfl rfl HF (fun _ _ _ h => h) (.inl ⟨by rfl, ?_⟩) (by first | assumption | rfl) ?_
      rotate_left
      · intro w hS; try subst hS
        go_simp; try with_reducible rfl
      try simp only [Act.put, List.setIfInBounds_toArray, List.set_cons_zero, List.set_cons_succ]
      refine AnyH.take (i := 11) (d := some 59) (v := ?_) (by kernel_rfl) rfl rfl HF (fun _ _ _ h => h) (.inl ⟨by rfl, ?_⟩) (by first | assumption | rfl) ?_
      rotate_left
      · intro w hS; try subst hS
        go_simp; try with_reducible rfl
      try simp only [Act.put, List.setIfInBounds_toArray, List.set_cons_zero, List.set_cons_succ]
      refine AnyH.one (i := 9) (by kernel_rfl) (by kernel_rfl) rfl HF (by rfl) (fun K hK => ?_)
      go_simp
      first | ((with_reducible refine And.intro ?hdep ?_); (case hdep => first | rfl | (intro h; cases h))) | skip
      refine callsIn_wide.2 ((length_any Kd.out).mono ?_)
      rintro e w ⟨rfl, h⟩; rw [h]; clear h w
      refine hK _ _ SD ?_
      clear hK K
      try simp only [Act.put, List.setIfInBounds_toArray, List.set_cons_zero, List.set_cons_succ]
      refine AnyH.take (i := 12) (d := some 60) (v := ?_) (by kernel_rfl) rfl rfl HF (fun _ _ _ h => h) (.inl ⟨by rfl, ?_⟩) (by first | assumption | rfl) ?_
      rotate_left
      · intro w hS; try subst hS
        go_simp; try with_reducible rfl
      try simp only [Act.put, List.setIfInBounds_toArray, List.set_cons_zero, List.set_cons_succ]
      refine AnyH.take (i := 13) (d := some 61) (v := ?_) (by kernel_rfl) rfl rfl HF (fun _ _ _ h => h) (.inl ⟨by rfl, ?_⟩) (by first | assumption | rfl) ?_
      rotate_left
      · intro w hS; try subst hS
        go_simp; try with_reducible rfl
      try simp only [Act.put, List.setIfInBounds_toArray, List.set_cons_zero, List.set_cons_succ]
      refine AnyH.done (by kernel_rfl) ?_
      have HSd := Lib.hid (HS5.out.below SD); have HBd := Lib.hid (Below.after HB5.out SD); have KWd := Lib.hid (show WtC wd g u from below_block SD KW5.out)
      clear SD mg K5 HS5 HB5 KW5
      go_wp2_with fail
      go_loopw [64] (fun iv wr => ∃ i k : Nat, iv = .int .i64 i ∧ i ≤ S.length ∧ k ≤ len ∧ CuC wr c B id len k ∧ StAt W.heap.size wr B 1000 E ∧ WtC wr g u ∧ Below W.heap.size W wr) (fun iv _ => S.length - (intOf iv).toNat)
      case atStart => exact ⟨0, 0, rfl, Nat.zero_le _, Nat.zero_le _, Kd.out, HSd.out, KWd.out, HBd.out⟩
      case round =>
        clear Kd HSd HBd KWd
        obtain ⟨i, k, rfl, hi, hk, hkc, hst, hkw, hB⟩ := hrel
        have HK := Lib.hid hkc; have HS := Lib.hid hst; have HW := Lib.hid hkw; have HB := Lib.hid hB; have HKL := Lib.hid hk
        clear hkc hst hkw hB hk
        by_cases hlt : i < S.length
        · have hlt2 : (i : Int) < (S.length : Int) := by omega
          have hlt3 : (0 : Int) ≤ (i : Int) := by omega
          obtain ⟨a', cap', ha', -, -, hSi⟩ := HSC.out
          simp only [Value.slice.injEq] at ha'
          obtain ⟨rfl, -, rfl⟩ := ha'
          obtain ⟨b, rfl, hm⟩ := hSi i hlt
          generalize S[i] = x at *
          obtain ⟨x0, x1⟩ := hm.on HB.out
          obtain ⟨wz, w1, hz, hs, ka, ba, ⟨p0, p1⟩, q0, q1⟩ := newAc wr x
          obtain ⟨ga, hga⟩ : ∃ g, wr.heap.size = g := ⟨_, rfl⟩
          rw [hga] at hs p0 p1 q0 q1 ka
          obtain ⟨z0, z1⟩ := ka.cells
          have K1 : Hid (CuC w1 c B id len k) := Lib.hid (below_block ba HK.out)
          have HS1 := Lib.hid (HS.out.below ba); have HW1 := Lib.hid (show WtC w1 g u from below_block ba HW.out); have HB1 := Lib.hid (Below.after HB.out ba)
          have HDO := Lib.hid (do_any HS1.out HWF.out.1 HE.out K1.out HWF.out.2.2 (by rw [HT.out, HLE.out]) HKL.out x)
          clear ka ba hm hSi HK HS HW HB
          go_wp2_with fail
          clear hz hs p0 p1 q0 q1 x0 x1 hga
          refine HDO.out.mono ?_
          rintro e w2 ⟨rfl, ⟨k2, hk2, c2⟩, b2⟩
          have K2 := Lib.hid c2; have HS2 := Lib.hid (HS1.out.bc K1.out b2); have HW2 := Lib.hid (HW1.out.bc K1.out b2); have HB2 := Lib.hid (below_bc HB1.out b2 HC.out HB1.out.size)
          clear z0 z1 c2 b2 HDO K1 HS1 HW1 HB1 HKL
          go_wp2_with fail
          refine (offset_any K2.out).mono ?_; rintro e w ⟨rfl, h⟩; rw [h]; clear h w
          go_wp2_with fail
          have mg : ∀ w, Below w2.heap.size w2 w → w.cell? ⟨g, 0, none⟩ = some (.int .i64 len) := fun w hw => by have := (WtC.cells (below_block hw HW2.out)).1; rwa [HUL.out] at this
          have d1 : ¬ (k2 : Int) < 0 := by omega
          have d2 : ¬ (k2 : Int) > (len : Int) := by omega
          have d3 : IntKind.i64.wrap ((len : Int) - (k2 : Int)) = (len : Int) - (k2 : Int) := by rw [IntKind.wrap_i64]; omega
          refine wp_region_anyH (Below w2.heap.size w2) (by kernel_rfl) ?_
          obtain ⟨wd, hwd⟩ : ∃ w, w2.drew = w := ⟨_, rfl⟩
          have SD : Below w2.heap.size w2 wd := by rw [← hwd]; exact (Below.refl _ _).drew
          rw [hwd]
          clear hwd
          refine AnyH.take (i := 0) (d := some 73) (v := ?_) (by kernel_rfl) rfl rfl HF (fun _ _ _ h => h) (.inl ⟨by rfl, ?_⟩) (by first | assumption | rfl) ?_
          rotate_left
          · intro w hS; try subst hS
            go_simp; try with_reducible rfl
          try simp only [Act.put, List.setIfInBounds_toArray, List.set_cons_zero, List.set_cons_succ]
          refine AnyH.take (i := 1) (d := some 74) (v := ?_) (by kernel_rfl) rfl rfl HF (fun _ _ _ h => h) (.inl ⟨by rfl, ?_⟩) (by first | assumption | rfl) ?_
          rotate_left
          · intro w hS; try subst hS
            go_simp; try with_reducible rfl
          try simp only [Act.put, List.setIfInBounds_toArray, List.set_cons_zero, List.set_cons_succ]
          refine AnyH.take (i := 2) (d := some 75) (v := ?_) (by kernel_rfl) rfl rfl HF (fun _ _ _ h => h) (.inl ⟨by rfl, ?_⟩) (by first | assumption | rfl) ?_
          rotate_left
          · intro w hS; try subst hS
            go_simp; try with_reducible rfl
          try simp only [Act.put, List.setIfInBounds_toArray, List.set_cons_zero, List.set_cons_succ]
          refine AnyH.take (i := 3) (d := some 76) (v := ?_) (by kernel_rfl) rfl rfl HF (fun _ _ _ h => h) (.inl ⟨by rfl, ?_⟩) (by first | assumption | rfl) ?_
          rotate_left
          · intro w hS; try subst hS
            go_simp; try with_reducible rfl
          try simp only [Act.put, List.setIfInBounds_toArray, List.set_cons_zero, List.set_cons_succ]
          refine AnyH.take (i := 4) (d := some 77) (v := ?_) (by kernel_rfl) rfl rfl HF (fun _ _ _ h => h) (.inl ⟨by rfl, ?_⟩) (by first | assumption | rfl) ?_
          rotate_left
          · intro w hS; try subst hS
            go_simp; try with_reducible rfl
          try simp only [Act.put, List.setIfInBounds_toArray, List.set_cons_zero, List.set_cons_succ]
          refine AnyH.take (i := 5) (d := some 78) (v := ?_) (by kernel_rfl) rfl rfl HF (fun _ _ _ h => h) (.inl ⟨by rfl, ?_⟩) (by first | assumption | rfl) ?_
          rotate_left
          · intro w hS; try subst hS
            go_simp; try with_reducible rfl
          try simp only [Act.put, List.setIfInBounds_toArray, List.set_cons_zero, List.set_cons_succ]
          refine AnyH.take (i := 6) (d := some 79) (v := ?_) (by kernel_rfl) rfl rfl HF (fun _ _ _ h => h) (.inl ⟨by rfl, ?_⟩) (by first | assumption | rfl) ?_
          rotate_left
          · intro w hS; try subst hS
            go_simp; try with_reducible rfl
          try simp only [Act.put, List.setIfInBounds_toArray, List.set_cons_zero, List.set_cons_succ]
          refine AnyH.take (i := 7) (d := some 80) (v := ?_) (by kernel_rfl) rfl rfl HF (fun _ _ _ h => h) (.inl ⟨by rfl, ?_⟩) (by first | assumption | rfl) ?_
          rotate_left
          · intro w hS; try subst hS
            go_simp; try with_reducible rfl
          try simp only [Act.put, List.setIfInBounds_toArray, List.set_cons_zero, List.set_cons_succ]
          refine AnyH.take (i := 8) (d := some 81) (v := ?_) (by kernel_rfl) rfl rfl HF (fun _ _ _ h => h) (.inl ⟨by rfl, ?_⟩) (by first | assumption | rfl) ?_
          rotate_left
          · intro w hS; try subst hS
            go_simp; try with_reducible rfl
          try simp only [Act.put, List.setIfInBounds_toArray, List.set_cons_zero, List.set_cons_succ]
          refine AnyH.take (i := 9) (d := some 82) (v := ?_) (by kernel_rfl) rfl rfl HF (fun _ _ _ h => h) (.inl ⟨by rfl, ?_⟩) (by first | assumption | rfl) ?_
          rotate_left
          · intro w hS; try subst hS
            go_simp; try with_reducible rfl
          try simp only [Act.put, List.setIfInBounds_toArray, List.set_cons_zero, List.set_cons_succ]
          refine AnyH.take (i := 11) (d := some 84) (v := ?_) (by kernel_rfl) rfl rfl HF (fun _ _ _ h => h) (.inl ⟨by rfl, ?_⟩) (by first | assumption | rfl) ?_
          rotate_left
          · intro w hS; try subst hS
            go_simp; try with_reducible rfl
          try simp only [Act.put, List.setIfInBounds_toArray, List.set_cons_zero, List.set_cons_succ]
          refine AnyH.take (i := 12) (d := some 85) (v := ?_) (by kernel_rfl) rfl rfl HF (fun _ _ _ h => h) (.inl ⟨by rfl, ?_⟩) (by first | assumption | rfl) ?_
          rotate_left
          · intro w hS; try subst hS
            go_simp; try with_reducible rfl
          try simp only [Act.put, List.setIfInBounds_toArray, List.set_cons_zero, List.set_cons_succ]
          refine AnyH.take (i := 13) (d := some 86) (v := ?_) (by kernel_rfl) rfl rfl HF (fun _ _ _ h => h) (.inl ⟨by rfl, ?_⟩) (by first | assumption | rfl) ?_
          rotate_left
          · intro w hS; try subst hS
            go_simp; try with_reducible rfl
          try simp only [Act.put, List.setIfInBounds_toArray, List.set_cons_zero, List.set_cons_succ]
          refine AnyH.take (i := 14) (d := some 87) (v := ?_) (by kernel_rfl) rfl rfl HF (fun _ _ _ h => h) (.inl ⟨by rfl, ?_⟩) (by first | assumption | rfl) ?_
          rotate_left
          · intro w hS; try subst hS
            go_simp; try with_reducible rfl
          try simp only [Act.put, List.setIfInBounds_toArray, List.set_cons_zero, List.set_cons_succ]
          refine AnyH.one (i := 10) (by kernel_rfl) (by kernel_rfl) rfl HF (by rfl) (fun K hK => ?_)
          go_simp
          first | ((with_reducible refine And.intro ?hdep ?_); (case hdep => first | rfl | (intro h; cases h))) | skip
          refine callsIn_wide.2 ((left_any (show CuC wd c B id len k2 from below_block SD K2.out) hk2 hlen).mono ?_)
          rintro e w6 ⟨rfl, b6⟩
          have SD6 := Below.after SD b6
          clear b6
          refine hK _ _ SD6 ?_
          clear hK K
          try simp only [Act.put, List.setIfInBounds_toArray, List.set_cons_zero, List.set_cons_succ]
          refine AnyH.take (i := 15) (d := some 88) (v := ?_) (by kernel_rfl) rfl rfl HF (fun _ _ _ h => h) (.inl ⟨by rfl, ?_⟩) (by first | assumption | rfl) ?_
          rotate_left
          · intro w hS; try subst hS
            go_simp; try with_reducible rfl
          try simp only [Act.put, List.setIfInBounds_toArray, List.set_cons_zero, List.set_cons_succ]
          refine AnyH.take (i := 16) (d := some 89) (v := ?_) (by kernel_rfl) rfl rfl HF (fun _ _ _ h => h) (.inl ⟨by rfl, ?_⟩) (by first | assumption | rfl) ?_
          rotate_left
          · intro w hS; try subst hS
            go_simp; try with_reducible rfl
          try simp only [Act.put, List.setIfInBounds_toArray, List.set_cons_zero, List.set_cons_succ]
          refine AnyH.done (by kernel_rfl) ?_
          have K6 : Hid (CuC w6 c B id len k2) := Lib.hid (below_block SD6 K2.out)
          have HS6 := Lib.hid (HS2.out.below SD6); have HW6 := Lib.hid (show WtC w6 g u from below_block SD6 HW2.out); have HB6 := Lib.hid (Below.after HB2.out SD6)
          clear SD SD6 mg d1 d2 d3 K2 HS2 HW2 HB2
          have HKL := Lib.hid hk2
          by_cases hkl : k2 < len
          · obtain ⟨bb, hbb⟩ : ∃ b, t[k2]? = some b := ⟨_, List.getElem?_eq_getElem (by rw [HLE.out]; exact hkl)⟩
            have HPK := Lib.hid (peek_some HS6.out HWF.out.1 HE.out K6.out HWF.out.2.2 hkl (by rw [HT.out]; exact hbb))
            have HAT : Hid (∀ w, Below w6.heap.size w6 w → Calls Try.prog 33 #[.pointer (some ⟨B, 0, none⟩), .int .i64 id, .int .i64 k2] w fun e w' => e = .returned (.tuple #[.int .u8 bb, .nilIface]) ∧ Below w.heap.size w w') := Lib.hid (fun w hw => at_some (HS6.out.below hw) HWF.out.1 HE.out HWF.out.2.2 (by rw [HT.out]; exact hbb))
            have e1 : (k2 : Int) < (len : Int) := by omega
            clear hkl hbb
            go_wp2_with fail
            refine HPK.out.mono ?_
            rintro e w7 ⟨rfl, b7⟩
            have B7 := Lib.hid b7
            have K7 : Hid (CuC w7 c B id len k2) := Lib.hid (below_block b7 K6.out)
            have c7 : w7.cell? ⟨g, 0, none⟩ = some (.int .i64 len) := by have := (WtC.cells (below_block b7 HW6.out)).1; rwa [HUL.out] at this
            clear b7 HPK
            go_wp2_with fail
            refine (offset_any K7.out).mono ?_; rintro e w ⟨rfl, h⟩; rw [h]; clear h w
            go_wp2_with fail
            refine (HAT.out w7 B7.out).mono ?_
            rintro e w8 ⟨rfl, b8⟩
            have B8 := Lib.hid (Below.after B7.out b8)
            have K8 : Hid (CuC w8 c B id len k2) := Lib.hid (below_block b8 K7.out)
            clear b8 HAT c7
            obtain ⟨u2, hu2⟩ : ∃ u, wt (t.take k2) = u := ⟨_, rfl⟩
            have HLN := Lib.hid (line_any (HS6.out.below B8.out) HWF.out.1 HE.out K8.out HWF.out.2.2 (by rw [HT.out, HLE.out]; exact HKL.out))
            rw [HT.out, hu2] at HLN
            have HAW : Hid (∀ w, Below w6.heap.size w6 w → Calls Try.prog 24 #[.pointer (some ⟨B, 0, none⟩), .int .i64 id, .int .i64 0, .int .i64 k2] w fun e w' => e = .returned (.tuple #[wtV u2, .nilIface]) ∧ Below w.heap.size w w') := Lib.hid (fun w hw => by
              have := aweight_any (frm := 0) (n := k2) (HS6.out.below hw) HWF.out.1 HE.out HWF.out.2.2 (by rw [HT.out, HLE.out]; have := HKL.out; omega)
              rw [HT.out, List.drop_zero, hu2] at this
              exact this)
            unfold wtV at HAW
            clear hu2
            go_wp2_with fail
            refine HLN.out.mono ?_
            rintro e w9 ⟨rfl, b9⟩
            have B9 := Lib.hid (Below.after B8.out b9)
            clear b9 HLN
            go_wp2_with fail
            refine (HAW.out w9 B9.out).mono ?_
            rintro e w10 ⟨rfl, b10⟩
            obtain ⟨wz, w11, hz, hs, kw, bw, ⟨p0, p1, p2, p3, p4, p5⟩, q0, q1, q2, q3, q4, q5⟩ := newWt w10 u2
            obtain ⟨g2, hg2⟩ : ∃ g, w10.heap.size = g := ⟨_, rfl⟩
            rw [hg2] at hs p0 p1 p2 p3 p4 p5 q0 q1 q2 q3 q4 q5 kw
            obtain ⟨x0, x1, x2, x3, x4, x5⟩ := kw.cells
            have B11 := Lib.hid (Below.after B9.out (Below.after b10 bw))
            clear b10 bw kw HAW
            go_wp2_with fail
            clear hz hs p0 p1 p2 p3 p4 p5 q0 q1 q2 q3 q4 q5 x0 x1 x2 x3 x4 x5 hg2
            go_roundw
            case rel => exact ⟨i + 1, k2, by go_num, by omega, HKL.out, below_block B11.out K6.out, HS6.out.below B11.out, below_block B11.out HW6.out, Below.after HB6.out B11.out⟩
            case measure => first | (simp [intOf]; omega) | simp [intOf]
          · obtain rfl : k2 = len := by omega
            have HPK := Lib.hid (peek_none K6.out)
            have HAT : Hid (∀ w, Below w6.heap.size w6 w → Calls Try.prog 33 #[.pointer (some ⟨B, 0, none⟩), .int .i64 id, .int .i64 k2] w fun e w' => e = .returned (.tuple #[.int .u8 0, err 1]) ∧ Below w.heap.size w w') := Lib.hid (fun w hw => at_none (HS6.out.below hw) HWF.out.1 HE.out HWF.out.2.2 (.inr (by rw [HT.out, HLE.out]; exact Int.le_refl _)))
            have e1 : ¬ (k2 : Int) < (k2 : Int) := by omega
            unfold err at HAT
            clear hkl
            go_wp2_with fail
            refine HPK.out.mono ?_
            rintro e w7 ⟨rfl, b7⟩
            have B7 := Lib.hid b7
            have K7 : Hid (CuC w7 c B id k2 k2) := Lib.hid (below_block b7 K6.out)
            have c7 : w7.cell? ⟨g, 0, none⟩ = some (.int .i64 k2) := by have := (WtC.cells (below_block b7 HW6.out)).1; rwa [HUL.out] at this
            clear b7 HPK
            go_wp2_with fail
            refine (offset_any K7.out).mono ?_; rintro e w ⟨rfl, h⟩; rw [h]; clear h w
            go_wp2_with fail
            refine (HAT.out w7 B7.out).mono ?_
            rintro e w8 ⟨rfl, b8⟩
            have B8 := Lib.hid (Below.after B7.out b8)
            have K8 : Hid (CuC w8 c B id k2 k2) := Lib.hid (below_block b8 K7.out)
            clear b8 HAT c7
            obtain ⟨u2, hu2⟩ : ∃ u, wt (t.take k2) = u := ⟨_, rfl⟩
            have HLN := Lib.hid (line_any (HS6.out.below B8.out) HWF.out.1 HE.out K8.out HWF.out.2.2 (by rw [HT.out, HLE.out]; exact HKL.out))
            rw [HT.out, hu2] at HLN
            have HAW : Hid (∀ w, Below w6.heap.size w6 w → Calls Try.prog 24 #[.pointer (some ⟨B, 0, none⟩), .int .i64 id, .int .i64 0, .int .i64 k2] w fun e w' => e = .returned (.tuple #[wtV u2, .nilIface]) ∧ Below w.heap.size w w') := Lib.hid (fun w hw => by
              have := aweight_any (frm := 0) (n := k2) (HS6.out.below hw) HWF.out.1 HE.out HWF.out.2.2 (by rw [HT.out, HLE.out]; have := HKL.out; omega)
              rw [HT.out, List.drop_zero, hu2] at this
              exact this)
            unfold wtV at HAW
            clear hu2
            go_wp2_with fail
            refine HLN.out.mono ?_
            rintro e w9 ⟨rfl, b9⟩
            have B9 := Lib.hid (Below.after B8.out b9)
            clear b9 HLN
            go_wp2_with fail
            refine (HAW.out w9 B9.out).mono ?_
            rintro e w10 ⟨rfl, b10⟩
            obtain ⟨wz, w11, hz, hs, kw, bw, ⟨p0, p1, p2, p3, p4, p5⟩, q0, q1, q2, q3, q4, q5⟩ := newWt w10 u2
            obtain ⟨g2, hg2⟩ : ∃ g, w10.heap.size = g := ⟨_, rfl⟩
            rw [hg2] at hs p0 p1 p2 p3 p4 p5 q0 q1 q2 q3 q4 q5 kw
            obtain ⟨x0, x1, x2, x3, x4, x5⟩ := kw.cells
            have B11 := Lib.hid (Below.after B9.out (Below.after b10 bw))
            clear b10 bw kw HAW
            go_wp2_with fail
            clear hz hs p0 p1 p2 p3 p4 p5 q0 q1 q2 q3 q4 q5 x0 x1 x2 x3 x4 x5 hg2
            go_roundw
            case rel => exact ⟨i + 1, k2, by go_num, by omega, HKL.out, below_block B11.out K6.out, HS6.out.below B11.out, below_block B11.out HW6.out, Below.after HB6.out B11.out⟩
            case measure => first | (simp [intOf]; omega) | simp [intOf]
        · have hlt2 : ¬ (i : Int) < (S.length : Int) := by omega
          go_wp2_with fail
          go_ret
          exact ⟨rfl, HB.out⟩
    · have hsl2 : (S.length : Int) > 200 := by omega
      go_enter Try.func8, Try.ntmps8
      go_wp2_with fail
      go_ret
      exact ⟨rfl, Below.refl _ _⟩
  · have hl2 : (M.length : Int) > 100 := by omega
    go_enter Try.func8, Try.ntmps8
    go_wp2_with fail
    go_ret
    exact ⟨rfl, Below.refl _ _⟩
end M
end Go.Proofs.Ytjbllcakaljpgaa
