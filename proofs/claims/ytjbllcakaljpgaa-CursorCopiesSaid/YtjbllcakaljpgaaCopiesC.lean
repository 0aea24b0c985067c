/- CursorCopies: the walk. -/
import Derived.Test.YtjbllcakaljpgaaBegun
import Derived.Test.YtjbllcakaljpgaaAct18
namespace Go.Proofs.Ytjbllcakaljpgaa
open Go.RowKit Go.Lib
namespace M
attribute [local go_sem] Oper.semAt_some
theorem addF_txt {E : List En} (e : En) {i : Nat} (hi : i ≤ E.length) : txt (addF E e).1 i = txt E i ∧ E.length ≤ (addF E e).1.length := by
  unfold addF
  split
  · exact ⟨txt_snoc hi, by simp⟩
  · exact ⟨rfl, Nat.le_refl _⟩
/-- The box of two scripts. -/
def TsC (W : World) (g : Nat) (a b : Value) : Prop := W.heap[g]? = some (.cells #[a, b] 78 (0, 0))
theorem TsC.cells {W : World} {g : Nat} {a b : Value} (h : TsC W g a b) : W.cell? ⟨g, 0, none⟩ = some a ∧ W.cell? ⟨g, 1, none⟩ = some b := by
  unfold TsC at h
  simp [World.cell?, h]
set_option maxRecDepth 100000 in
set_option maxHeartbeats 8000000 in
theorem copies_any {W : World} {v s s2 : Value} {M : List Mk} {S S2 : List Ac} (hM : RowMk W v M) (hS : RowAc W s S) (hS2 : RowAc W s2 S2) (hSL : S.length + S2.length ≤ 4000000000000000) (n : Int) :
    Calls Try.prog 9 #[v, .int .i64 n, .agg #[s, s2]] W fun e w' => e = .returned (.bool true) ∧ Below W.heap.size W w' := by
  have HF : ∀ f, Fence.wide.fn f := fun _ => trivial
  have H := Lib.hid hM
  have HSC := Lib.hid hS
  have HSC2 := Lib.hid hS2
  obtain ⟨va, vc, rfl, -, hcm, -, -⟩ := hM
  unfold maxLen at hcm
  obtain ⟨sa, sc, rfl, hsc1, hsc2, -⟩ := hS
  unfold maxLen at hsc2
  obtain ⟨sa2, sc2, rfl, hsd1, hsd2, -⟩ := hS2
  unfold maxLen at hsd2
  obtain ⟨W1, hW1⟩ : ∃ w, W.alloc (.cells #[.slice sa S.length sc, .slice sa2 S2.length sc2] 78) = w := ⟨_, rfl⟩
  have k1 : TsC W1 W.heap.size (.slice sa S.length sc) (.slice sa2 S2.length sc2) := by rw [← hW1]; exact heap_new' _ _
  have b1 : Below W.heap.size W W1 := by rw [← hW1]; exact (Below.refl _ _).alloc (Nat.le_refl _) _
  have m0 : ∀ w, Below W1.heap.size W1 w → w.cell? ⟨W.heap.size, 0, none⟩ = some (.slice sa S.length sc) := fun w hw => (TsC.cells (below_block hw k1)).1
  have m1 : ∀ w, Below W1.heap.size W1 w → w.cell? ⟨W.heap.size, 1, none⟩ = some (.slice sa2 S2.length sc2) := fun w hw => (TsC.cells (below_block hw k1)).2
  obtain ⟨w2, hw2⟩ : ∃ w, W1.drew = w := ⟨_, rfl⟩
  have S0 : Below W1.heap.size W1 w2 := by rw [← hw2]; exact (Below.refl _ _).drew
  have HB2 := Lib.hid (Below.after b1 S0)
  have hsw : IntKind.i64.wrap ((S.length : Int) + (S2.length : Int)) = (S.length : Int) + (S2.length : Int) := by rw [IntKind.wrap_i64]; omega
  clear k1 b1
  by_cases hl : M.length ≤ 100
  · have hl2 : ¬ (M.length : Int) > 100 := by omega
    by_cases hsl : S.length + S2.length ≤ 200
    · have hsl2 : ¬ (S.length : Int) + (S2.length : Int) > 200 := by omega
      have HG := Lib.hid (begun_any (H.out.below HB2.out) hl n)
      have HWF : Hid (Wf (bldF M [] [0]).1 ∧ (bldF M [] [0]).1.length ≤ 100 ∧ resAt (bldF M [] [0]).2 n ≤ (bldF M [] [0]).1.length) := Lib.hid (by
        obtain ⟨a', cap', ha', -, -, hmb, -⟩ := H.out
        obtain ⟨q1, q2, q3, q4⟩ := bldF_wf M (E := []) (R := [0]) .nil (by simp) (fun m hm => (hmb m hm).1)
        exact ⟨q1, by simp at q2; omega, resAt_le q4 n⟩)
      unfold BegunP at HG
      generalize (bldF M [] [0]).1 = E at *
      generalize resAt (bldF M [] [0]).2 n = id at *
      obtain ⟨hw, hlen⟩ := HWF.out.1.len HWF.out.2.2
      have HE : Hid (E.length ≤ 1048576) := Lib.hid (by have := HWF.out.2.1; omega)
      obtain ⟨t, ht⟩ : ∃ t, txt E id = t := ⟨_, rfl⟩
      have hul : (entAt E id).w.len = t.length := by rw [hw, ← ht]; rfl
      rw [ht] at hlen
      rw [hul] at HG
      have HT := Lib.hid ht
      clear hw hul ht
      obtain ⟨len, hle⟩ : ∃ l, t.length = l := ⟨_, rfl⟩
      rw [hle] at HG hlen
      have HLE := Lib.hid hle
      clear hle
      go_enter Try.func9, Try.ntmps9
      go_wp2_with fail
      refine wp_region_anyH (Below W1.heap.size W1) (by kernel_rfl) ?_
      rw [hw2]
      clear hw2 hW1
      refine AnyH.take (i := 0) (d := some 26) (v := ?_) (by kernel_rfl) rfl rfl HF (fun _ _ _ h => h) (.inl ⟨by rfl, ?_⟩) (by first | assumption | rfl) ?_
      rotate_left
      · intro w hS; try subst hS
        go_simp; try with_reducible rfl
      try simp only [Act.put, List.setIfInBounds_toArray, List.set_cons_zero, List.set_cons_succ]
      refine AnyH.take (i := 1) (d := some 27) (v := ?_) (by kernel_rfl) rfl rfl HF (fun _ _ _ h => h) (.inl ⟨by rfl, ?_⟩) (by first | assumption | rfl) ?_
      rotate_left
      · intro w hS; try subst hS
        go_simp; try with_reducible rfl
      try simp only [Act.put, List.setIfInBounds_toArray, List.set_cons_zero, List.set_cons_succ]
      refine AnyH.take (i := 2) (d := some 28) (v := ?_) (by kernel_rfl) rfl rfl HF (fun _ _ _ h => h) (.inl ⟨by rfl, ?_⟩) (by first | assumption | rfl) ?_
      rotate_left
      · intro w hS; try subst hS
        go_simp; try with_reducible rfl
      try simp only [Act.put, List.setIfInBounds_toArray, List.set_cons_zero, List.set_cons_succ]
      refine AnyH.take (i := 3) (d := some 29) (v := ?_) (by kernel_rfl) rfl rfl HF (fun _ _ _ h => h) (.inl ⟨by rfl, ?_⟩) (by first | assumption | rfl) ?_
      rotate_left
      · intro w hS; try subst hS
        go_simp; try with_reducible rfl
      try simp only [Act.put, List.setIfInBounds_toArray, List.set_cons_zero, List.set_cons_succ]
      refine AnyH.take (i := 4) (d := some 7) (v := ?_) (by kernel_rfl) rfl rfl HF (fun _ _ _ h => h) (.inl ⟨by rfl, ?_⟩) (by first | assumption | rfl) ?_
      rotate_left
      · intro w hS; try subst hS
        go_simp; try with_reducible rfl
      try simp only [Act.put, List.setIfInBounds_toArray, List.set_cons_zero, List.set_cons_succ]
      refine AnyH.take (i := 5) (d := some 8) (v := ?_) (by kernel_rfl) rfl rfl HF (fun _ _ _ h => h) (.inl ⟨by rfl, ?_⟩) (by first | assumption | rfl) ?_
      rotate_left
      · intro w hS; try subst hS
        go_simp; try with_reducible rfl
      try simp only [Act.put, List.setIfInBounds_toArray, List.set_cons_zero, List.set_cons_succ]
      refine AnyH.done (by kernel_rfl) ?_
      clear m0 m1 S0
      go_wp2_with fail
      refine HG.out.mono ?_
      rintro e w3 ⟨B, c, rfl, s3, k3, hc, b3⟩
      have HB3 := Lib.hid (Below.after HB2.out b3)
      have HC : Hid (W.heap.size ≤ c) := Lib.hid (Nat.le_trans HB2.out.size hc)
      have HS3 : Hid (StAt W.heap.size w3 B 1000 E) := Lib.hid (s3.mono HB2.out.size)
      have K3 := Lib.hid k3
      clear s3 k3 b3 hc HG hsw
      go_wp2_with fail
      go_loopw [53] (fun iv wr => ∃ i k : Nat, iv = .int .i64 i ∧ i ≤ S.length ∧ k ≤ len ∧ CuC wr c B id len k ∧ StAt W.heap.size wr B 1000 E ∧ Below W.heap.size W wr) (fun iv _ => S.length - (intOf iv).toNat)
      case atStart => exact ⟨0, 0, rfl, Nat.zero_le _, Nat.zero_le _, K3.out, HS3.out, HB3.out⟩
      case round =>
        clear K3 HS3 HB3
        obtain ⟨i, k, rfl, hi, hk, hkc, hst, hB⟩ := hrel
        have HK := Lib.hid hkc; have HS := Lib.hid hst; have HB := Lib.hid hB; have HKL := Lib.hid hk
        clear hkc hst hB hk
        by_cases hlt : i < S.length
        · have hlt2 : (i : Int) < (S.length : Int) := by omega
          have hlt3 : (0 : Int) ≤ (i : Int) := by omega
          obtain ⟨a', cap', ha', -, -, hSi⟩ := HSC.out
          simp only [Value.slice.injEq] at ha'
          obtain ⟨rfl, -, rfl⟩ := ha'
          obtain ⟨b, rfl, hm⟩ := hSi i hlt
          generalize S[i] = x at *
          obtain ⟨x0, x1⟩ := hm.on HB.out
          obtain ⟨wz, w1, hz, hs, ka, ba, ⟨p0, p1⟩, q0, q1⟩ := newAc wr x
          obtain ⟨ga, hga⟩ : ∃ g, wr.heap.size = g := ⟨_, rfl⟩
          rw [hga] at hs p0 p1 q0 q1 ka
          obtain ⟨z0, z1⟩ := ka.cells
          have K1 : Hid (CuC w1 c B id len k) := Lib.hid (below_block ba HK.out)
          have HS1 := Lib.hid (HS.out.below ba); have HB1 := Lib.hid (Below.after HB.out ba)
          have HDO := Lib.hid (do_any HS1.out HWF.out.1 HE.out K1.out HWF.out.2.2 (by rw [HT.out, HLE.out]) HKL.out x)
          clear ka ba hm hSi HK HS HB
          go_wp2_with fail
          clear hz hs p0 p1 q0 q1 x0 x1 hga
          refine HDO.out.mono ?_
          rintro e w2 ⟨rfl, ⟨k2, hk2, c2⟩, b2⟩
          have K2 := Lib.hid c2; have HS2 := Lib.hid (HS1.out.bc K1.out b2); have HB2 := Lib.hid (below_bc HB1.out b2 HC.out HB1.out.size)
          clear z0 z1 c2 b2 HDO K1 HS1 HB1 HKL
          go_wp2_with fail
          go_roundw
          case rel => exact ⟨i + 1, k2, by go_num, by omega, hk2, K2.out, HS2.out, HB2.out⟩
          case measure => first | (simp [intOf]; omega) | simp [intOf]
        · have hlt2 : ¬ (i : Int) < (S.length : Int) := by omega
          obtain ⟨a, ha⟩ : ∃ a, k = a := ⟨_, rfl⟩
          rw [ha] at HK HKL
          clear ha hlt hi
          go_wp2_with fail
          refine (offset_any HK.out).mono ?_; rintro e w ⟨rfl, h⟩; rw [h]; clear h w
          go_wp2_with fail
          refine (copy_any HK.out).mono ?_
          rintro e w4 ⟨d, rfl, hd, kd, b4⟩
          have KD := Lib.hid kd; have KC : Hid (CuC w4 c B id len a) := Lib.hid (below_block b4 HK.out)
          have HDC : Hid (d ≠ c) := Lib.hid (by have h := HK.out; unfold CuC at h; have := (Array.getElem?_eq_some_iff.1 h).1; omega)
          have HD : Hid (W.heap.size ≤ d) := Lib.hid (Nat.le_trans HB.out.size hd)
          have HS4 := Lib.hid (HS.out.below b4); have HB4 := Lib.hid (Below.after HB.out b4)
          clear kd b4 hd HK HS HB
          go_wp2_with fail
          refine (offset_any KD.out).mono ?_; rintro e w ⟨rfl, h⟩; rw [h]; clear h w
          go_wp2_with fail
          refine (length_any KD.out).mono ?_; rintro e w ⟨rfl, h⟩; rw [h]; clear h w
          go_wp2_with fail
          refine (length_any KC.out).mono ?_; rintro e w ⟨rfl, h⟩; rw [h]; clear h w
          go_wp2_with fail
          go_loopw [82] (fun iv wr => ∃ (i k : Nat) (E' : List En), iv = .int .i64 i ∧ i ≤ S2.length ∧ k ≤ len ∧ CuC wr d B id len k ∧ CuC wr c B id len a ∧ StAt W.heap.size wr B 1000 E' ∧ Wf E' ∧ E'.length ≤ E.length + i ∧ id ≤ E'.length ∧ txt E' id = t ∧ Below W.heap.size W wr) (fun iv _ => S2.length - (intOf iv).toNat)
          case atStart => exact ⟨0, a, E, rfl, Nat.zero_le _, HKL.out, KD.out, KC.out, HS4.out, HWF.out.1, by omega, HWF.out.2.2, HT.out, HB4.out⟩
          case round =>
            clear KD KC HS4 HB4
            obtain ⟨j, k, E', rfl, hi, hk, hkd, hkc, hst, hwf, hE1, hid, htx, hB⟩ := hrel
            have HKD := Lib.hid hkd; have HK := Lib.hid hkc; have HS := Lib.hid hst; have HB := Lib.hid hB; have HK2 := Lib.hid hk
            have HWF' := Lib.hid (And.intro hwf (And.intro hE1 (And.intro hid htx)))
            have HE' : Hid (E'.length ≤ 300) := Lib.hid (by have := HWF.out.2.1; omega)
            clear hkd hkc hst hB hk hwf hE1 hid htx
            by_cases hlt : j < S2.length
            · have hlt2 : (j : Int) < (S2.length : Int) := by omega
              have hlt3 : (0 : Int) ≤ (j : Int) := by omega
              obtain ⟨a', cap', ha', -, -, hSi⟩ := HSC2.out
              simp only [Value.slice.injEq] at ha'
              obtain ⟨rfl, -, rfl⟩ := ha'
              obtain ⟨b, rfl, hm⟩ := hSi j hlt
              generalize S2[j] = x at *
              obtain ⟨x0, x1⟩ := hm.on HB.out
              obtain ⟨wz, w1, hz, hs, ka, ba, ⟨p0, p1⟩, q0, q1⟩ := newAc wr x
              obtain ⟨ga, hga⟩ : ∃ g, wr.heap.size = g := ⟨_, rfl⟩
              rw [hga] at hs p0 p1 q0 q1 ka
              obtain ⟨z0, z1⟩ := ka.cells
              have K1 : Hid (CuC w1 d B id len k) := Lib.hid (below_block ba HKD.out)
              have C1 : Hid (CuC w1 c B id len a) := Lib.hid (below_block ba HK.out)
              have HS1 := Lib.hid (HS.out.below ba); have HB1 := Lib.hid (Below.after HB.out ba)
              have HDO := Lib.hid (do_any HS1.out HWF'.out.1 (by have := HE'.out; omega) K1.out HWF'.out.2.2.1 (by rw [HWF'.out.2.2.2, HLE.out]) HK2.out x)
              obtain ⟨bb, hbb⟩ : ∃ x, j % 256 = x := ⟨_, rfl⟩
              have hbw : IntKind.u8.wrap (j : Int) = (bb : Int) := by rw [IntKind.wrap_u8]; omega
              have hbl : bb < 256 := by omega
              clear ka ba hm hSi HK HKD HS HB hbb
              go_wp2_with fail
              clear hz hs p0 p1 q0 q1 x0 x1 hga
              refine HDO.out.mono ?_
              rintro e w2 ⟨rfl, ⟨k2, hk2, c2⟩, b2⟩
              have K2 := Lib.hid c2; have HS2 := Lib.hid (HS1.out.bc K1.out b2); have HB2 := Lib.hid (below_bc HB1.out b2 HD.out HB1.out.size)
              have C2 := Lib.hid (C1.out.bc b2 (fun e => HDC.out e.symm))
              have HLT := Lib.hid (letter_any HS2.out bb hbl (by have := HE'.out; omega) (by have := HE'.out; omega))
              clear z0 z1 c2 b2 HDO K1 HS1 HB1 HK2 C1
              go_wp2_with fail
              refine HLT.out.mono ?_
              rintro e w5 ⟨rfl, s5, b5, kt5⟩
              obtain ⟨t1, t2⟩ := addF_txt (letE bb) HWF'.out.2.2.1
              obtain ⟨u1, u2, -, -⟩ := addF_wf HWF'.out.1 (letE_ok E' hbl)
              generalize (addF E' (letE bb)).1 = E2 at *
              generalize (addF E' (letE bb)).2 = id2 at *
              have HS5 := Lib.hid s5; have HB5 := Lib.hid (HB2.out.trans b5)
              have K5 : Hid (CuC w5 d B id len k2) := Lib.hid (kt5 _ (by decide) (by decide) _ _ _ K2.out)
              have C5 : Hid (CuC w5 c B id len a) := Lib.hid (kt5 _ (by decide) (by decide) _ _ _ C2.out)
              have HWF5 : Hid (Wf E2 ∧ E2.length ≤ E.length + (j + 1) ∧ id ≤ E2.length ∧ txt E2 id = t) := Lib.hid ⟨u1, by have := HWF'.out.2.1; omega, Nat.le_trans HWF'.out.2.2.1 t2, by rw [t1]; exact HWF'.out.2.2.2⟩
              clear s5 b5 kt5 t1 t2 u1 u2 hbw HLT
              go_wp2_with fail
              go_roundw
              case rel => exact ⟨j + 1, k2, E2, by go_num, by omega, hk2, K5.out, C5.out, HS5.out, HWF5.out.1, HWF5.out.2.1, HWF5.out.2.2.1, HWF5.out.2.2.2, HB5.out⟩
              case measure => first | (simp [intOf]; omega) | simp [intOf]
            · have hlt2 : ¬ (j : Int) < (S2.length : Int) := by omega
              clear hi hlt
              by_cases hkl : k < len
              · obtain ⟨bb, hbb⟩ : ∃ b, t[k]? = some b := ⟨_, List.getElem?_eq_getElem (by rw [HLE.out]; exact hkl)⟩
                have HPK : Hid (∀ (w : World) (y : Nat), StAt W.heap.size w B 1000 E' → CuC w y B id len k → Calls Try.prog 32 #[.pointer (some ⟨y, 0, none⟩)] w fun e w' => e = .returned (.tuple #[.int .u8 bb, .bool true]) ∧ Below w.heap.size w w') := Lib.hid (fun w y h1 h2 => peek_some h1 HWF'.out.1 (by have := HE'.out; omega) h2 HWF'.out.2.2.1 hkl (by rw [HWF'.out.2.2.2]; exact hbb))
                clear hkl hbb
                go_wp2_with fail
                refine (offset_any HKD.out).mono ?_; rintro e w ⟨rfl, h⟩; rw [h]; clear h w
                go_wp2_with fail
                refine (HPK.out wr d HS.out HKD.out).mono ?_
                rintro e w5 ⟨rfl, b5⟩
                have HKD5 : Hid (CuC w5 d B id len k) := Lib.hid (below_block b5 HKD.out)
                have HK5 : Hid (CuC w5 c B id len a) := Lib.hid (below_block b5 HK.out)
                have HS5 := Lib.hid (HS.out.below b5); have HB5 := Lib.hid (Below.after HB.out b5)
                have HSK : Hid (Calls Try.prog 15 #[.pointer (some ⟨c, 0, none⟩), .int .i64 k] w5 fun e w' => e = .returned .nilIface ∧ CuC w' c B id len k ∧ BC c w5 w') := Lib.hid (by
                  refine (seek_any HK5.out (k : Int)).mono ?_
                  rintro e w' (⟨-, -, rfl, rfl⟩ | ⟨hno, -⟩)
                  · exact ⟨rfl, CuC.move HK5.out k, (BC.refl c w5).set (p := ⟨c, 3, none⟩) (.inr rfl) _⟩
                  · exact absurd ⟨by omega, by have := HK2.out; omega⟩ hno)
                clear b5 HKD HK HS HB
                go_wp2_with fail
                refine (offset_any HK5.out).mono ?_; rintro e w ⟨rfl, h⟩; rw [h]; clear h w
                go_wp2_with fail
                refine HSK.out.mono ?_
                rintro e w6 ⟨rfl, k6, b6⟩
                have HK6 := Lib.hid k6
                have HKD6 := Lib.hid (HKD5.out.bc b6 HDC.out)
                have HS6 := Lib.hid (HS5.out.bc HK5.out b6); have HB6 := Lib.hid (below_bc HB5.out b6 HC.out HB5.out.size)
                clear k6 b6 HKD5 HK5 HS5 HB5 HSK
                go_wp2_with fail
                refine (offset_any HKD6.out).mono ?_; rintro e w ⟨rfl, h⟩; rw [h]; clear h w
                go_wp2_with fail
                refine (HPK.out w6 c HS6.out HK6.out).mono ?_
                rintro e w7 ⟨rfl, b7⟩
                have HB7 := Lib.hid (Below.after HB6.out b7)
                clear b7
                go_wp2_with fail
                go_ret
                exact ⟨rfl, HB7.out⟩
              · have hke : k = len := by have := HK2.out; omega
                have HPK : Hid (∀ (w : World) (y : Nat), StAt W.heap.size w B 1000 E' → CuC w y B id len k → Calls Try.prog 32 #[.pointer (some ⟨y, 0, none⟩)] w fun e w' => e = .returned (.tuple #[.int .u8 0, .bool false]) ∧ Below w.heap.size w w') := Lib.hid (fun w y h1 h2 => peek_none (by rw [hke] at h2; exact h2))
                clear hkl hke
                go_wp2_with fail
                refine (offset_any HKD.out).mono ?_; rintro e w ⟨rfl, h⟩; rw [h]; clear h w
                go_wp2_with fail
                refine (HPK.out wr d HS.out HKD.out).mono ?_
                rintro e w5 ⟨rfl, b5⟩
                have HKD5 : Hid (CuC w5 d B id len k) := Lib.hid (below_block b5 HKD.out)
                have HK5 : Hid (CuC w5 c B id len a) := Lib.hid (below_block b5 HK.out)
                have HS5 := Lib.hid (HS.out.below b5); have HB5 := Lib.hid (Below.after HB.out b5)
                have HSK : Hid (Calls Try.prog 15 #[.pointer (some ⟨c, 0, none⟩), .int .i64 k] w5 fun e w' => e = .returned .nilIface ∧ CuC w' c B id len k ∧ BC c w5 w') := Lib.hid (by
                  refine (seek_any HK5.out (k : Int)).mono ?_
                  rintro e w' (⟨-, -, rfl, rfl⟩ | ⟨hno, -⟩)
                  · exact ⟨rfl, CuC.move HK5.out k, (BC.refl c w5).set (p := ⟨c, 3, none⟩) (.inr rfl) _⟩
                  · exact absurd ⟨by omega, by have := HK2.out; omega⟩ hno)
                clear b5 HKD HK HS HB
                go_wp2_with fail
                refine (offset_any HK5.out).mono ?_; rintro e w ⟨rfl, h⟩; rw [h]; clear h w
                go_wp2_with fail
                refine HSK.out.mono ?_
                rintro e w6 ⟨rfl, k6, b6⟩
                have HK6 := Lib.hid k6
                have HKD6 := Lib.hid (HKD5.out.bc b6 HDC.out)
                have HS6 := Lib.hid (HS5.out.bc HK5.out b6); have HB6 := Lib.hid (below_bc HB5.out b6 HC.out HB5.out.size)
                clear k6 b6 HKD5 HK5 HS5 HB5 HSK
                go_wp2_with fail
                refine (offset_any HKD6.out).mono ?_; rintro e w ⟨rfl, h⟩; rw [h]; clear h w
                go_wp2_with fail
                refine (HPK.out w6 c HS6.out HK6.out).mono ?_
                rintro e w7 ⟨rfl, b7⟩
                have HB7 := Lib.hid (Below.after HB6.out b7)
                clear b7
                go_wp2_with fail
                go_ret
                exact ⟨rfl, HB7.out⟩
    · have hsl2 : (S.length : Int) + (S2.length : Int) > 200 := by omega
      go_enter Try.func9, Try.ntmps9
      go_wp2_with fail
      refine wp_region_anyH (Below W1.heap.size W1) (by kernel_rfl) ?_
      rw [hw2]
      clear hw2 hW1
      refine AnyH.take (i := 0) (d := some 26) (v := ?_) (by kernel_rfl) rfl rfl HF (fun _ _ _ h => h) (.inl ⟨by rfl, ?_⟩) (by first | assumption | rfl) ?_
      rotate_left
      · intro w hS; try subst hS
        go_simp; try with_reducible rfl
      try simp only [Act.put, List.setIfInBounds_toArray, List.set_cons_zero, List.set_cons_succ]
      refine AnyH.take (i := 1) (d := some 27) (v := ?_) (by kernel_rfl) rfl rfl HF (fun _ _ _ h => h) (.inl ⟨by rfl, ?_⟩) (by first | assumption | rfl) ?_
      rotate_left
      · intro w hS; try subst hS
        go_simp; try with_reducible rfl
      try simp only [Act.put, List.setIfInBounds_toArray, List.set_cons_zero, List.set_cons_succ]
      refine AnyH.take (i := 2) (d := some 28) (v := ?_) (by kernel_rfl) rfl rfl HF (fun _ _ _ h => h) (.inl ⟨by rfl, ?_⟩) (by first | assumption | rfl) ?_
      rotate_left
      · intro w hS; try subst hS
        go_simp; try with_reducible rfl
      try simp only [Act.put, List.setIfInBounds_toArray, List.set_cons_zero, List.set_cons_succ]
      refine AnyH.take (i := 3) (d := some 29) (v := ?_) (by kernel_rfl) rfl rfl HF (fun _ _ _ h => h) (.inl ⟨by rfl, ?_⟩) (by first | assumption | rfl) ?_
      rotate_left
      · intro w hS; try subst hS
        go_simp; try with_reducible rfl
      try simp only [Act.put, List.setIfInBounds_toArray, List.set_cons_zero, List.set_cons_succ]
      refine AnyH.take (i := 4) (d := some 7) (v := ?_) (by kernel_rfl) rfl rfl HF (fun _ _ _ h => h) (.inl ⟨by rfl, ?_⟩) (by first | assumption | rfl) ?_
      rotate_left
      · intro w hS; try subst hS
        go_simp; try with_reducible rfl
      try simp only [Act.put, List.setIfInBounds_toArray, List.set_cons_zero, List.set_cons_succ]
      refine AnyH.take (i := 5) (d := some 8) (v := ?_) (by kernel_rfl) rfl rfl HF (fun _ _ _ h => h) (.inl ⟨by rfl, ?_⟩) (by first | assumption | rfl) ?_
      rotate_left
      · intro w hS; try subst hS
        go_simp; try with_reducible rfl
      try simp only [Act.put, List.setIfInBounds_toArray, List.set_cons_zero, List.set_cons_succ]
      refine AnyH.done (by kernel_rfl) ?_
      clear m0 m1 S0
      go_wp2_with fail
      go_ret
      exact ⟨rfl, HB2.out⟩
  · have hl2 : (M.length : Int) > 100 := by omega
    go_enter Try.func9, Try.ntmps9
    go_wp2_with fail
    refine wp_region_anyH (Below W1.heap.size W1) (by kernel_rfl) ?_
    rw [hw2]
    clear hw2 hW1
    refine AnyH.take (i := 0) (d := some 26) (v := ?_) (by kernel_rfl) rfl rfl HF (fun _ _ _ h => h) (.inl ⟨by rfl, ?_⟩) (by first | assumption | rfl) ?_
    rotate_left
    · intro w hS; try subst hS
      go_simp; try with_reducible rfl
    try simp only [Act.put, List.setIfInBounds_toArray, List.set_cons_zero, List.set_cons_succ]
    refine AnyH.take (i := 1) (d := some 27) (v := ?_) (by kernel_rfl) rfl rfl HF (fun _ _ _ h => h) (.inl ⟨by rfl, ?_⟩) (by first | assumption | rfl) ?_
    rotate_left
    · intro w hS; try subst hS
      go_simp; try with_reducible rfl
    try simp only [Act.put, List.setIfInBounds_toArray, List.set_cons_zero, List.set_cons_succ]
    refine AnyH.take (i := 2) (d := some 28) (v := ?_) (by kernel_rfl) rfl rfl HF (fun _ _ _ h => h) (.inl ⟨by rfl, ?_⟩) (by first | assumption | rfl) ?_
    rotate_left
    · intro w hS; try subst hS
      go_simp; try with_reducible rfl
    try simp only [Act.put, List.setIfInBounds_toArray, List.set_cons_zero, List.set_cons_succ]
    refine AnyH.take (i := 3) (d := some 29) (v := ?_) (by kernel_rfl) rfl rfl HF (fun _ _ _ h => h) (.inl ⟨by rfl, ?_⟩) (by first | assumption | rfl) ?_
    rotate_left
    · intro w hS; try subst hS
      go_simp; try with_reducible rfl
    try simp only [Act.put, List.setIfInBounds_toArray, List.set_cons_zero, List.set_cons_succ]
    refine AnyH.take (i := 4) (d := some 7) (v := ?_) (by kernel_rfl) rfl rfl HF (fun _ _ _ h => h) (.inl ⟨by rfl, ?_⟩) (by first | assumption | rfl) ?_
    rotate_left
    · intro w hS; try subst hS
      go_simp; try with_reducible rfl
    try simp only [Act.put, List.setIfInBounds_toArray, List.set_cons_zero, List.set_cons_succ]
    refine AnyH.take (i := 5) (d := some 8) (v := ?_) (by kernel_rfl) rfl rfl HF (fun _ _ _ h => h) (.inl ⟨by rfl, ?_⟩) (by first | assumption | rfl) ?_
    rotate_left
    · intro w hS; try subst hS
      go_simp; try with_reducible rfl
    try simp only [Act.put, List.setIfInBounds_toArray, List.set_cons_zero, List.set_cons_succ]
    refine AnyH.done (by kernel_rfl) ?_
    clear m0 m1 S0
    go_wp2_with fail
    go_ret
    exact ⟨rfl, HB2.out⟩
end M
end Go.Proofs.Ytjbllcakaljpgaa
