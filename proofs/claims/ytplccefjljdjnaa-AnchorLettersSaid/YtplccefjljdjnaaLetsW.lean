/- AnchorLetters: the walk. -/
import Derived.Test.YtplccefjljdjnaaLetsC
set_option linter.unusedVariables false
set_option linter.unusedSimpArgs false
namespace Go.Proofs.Ytplccefjljdjnaa
open Go.RowKit Go.Lib
namespace M
attribute [local go_sem] Oper.semAt_some
set_option maxRecDepth 100000 in
set_option maxHeartbeats 8000000 in
theorem letters_any {W : World} (s : ByteArray) (hs : s.size ≤ 9223372036854775807) {c : Value} {S : List Spc} (hS : RowSp W c S) (hlow : LowS W c) (x : Int) :
    Calls Try.prog 12 #[.string s, c, .int .i64 x] W fun e w' => e = .returned (.bool true) ∧ Below W.heap.size W w' := by
  have HS1 := Lib.hid hS
  have HSM := Lib.hid (small_any hS)
  have HLW : Hid (∀ (a : Addr) n k, c = .slice (some a) n k → 0 < n → a.block < W.heap.size) := Lib.hid hlow
  obtain ⟨a, cap, rfl, -⟩ := hS
  obtain ⟨m, hm, hmb⟩ := mask62' x
  clear hlow
  cases hsm : smallF S with
  | false =>
    rw [hsm] at HSM
    go_enter Try.func12, Try.ntmps12
    go_wp2_with fail
    refine HSM.out.mono ?_; rintro e w ⟨rfl, h⟩; rw [h]; clear h w
    go_wp2_with fail
    go_ret
    exact ⟨rfl, Below.refl _ _⟩
  | true =>
    rw [hsm] at HSM
    have HSY := Lib.hid hsm
    clear hsm
    by_cases hl2 : 200 < s.size
    · have hl3 : (s.size : Int) > 200 := by omega
      go_enter Try.func12, Try.ntmps12
      go_wp2_with fail
      refine HSM.out.mono ?_; rintro e w ⟨rfl, h⟩; rw [h]; clear h w
      go_wp2_with fail
      go_ret
      exact ⟨rfl, Below.refl _ _⟩
    have hl3 : ¬ (s.size : Int) > 200 := by omega
    have HL2 := Lib.hid hl2
    have HNW := Lib.hid (snew_any W 1048576 (by omega))
    rw [show ((1048576 : Nat) : Int) = 1048576 from rfl] at HNW
    clear hl2 hs
    go_enter Try.func12, Try.ntmps12
    go_wp2_with fail
    refine HSM.out.mono ?_; rintro e w ⟨rfl, h⟩; rw [h]; clear h w
    go_wp2_with fail
    refine HNW.out.mono ?_
    rintro e w2 ⟨B, rfl, s2, b2⟩
    have HMD := Lib.hid (madeK_any (k := 0) s2 .nil (by simp) (by omega) (HS1.out.below b2) HSY.out b2.size HLW.out)
    have B2 := Lib.hid b2
    clear s2 b2 HNW HSM
    go_wp2_with fail
    refine HMD.out.mono ?_
    rintro e w3 ⟨E, L, v1, v2, rfl, ⟨a2, n2, c2, rfl⟩, hM, -, b3⟩
    have HM3 := Lib.hid hM
    obtain ⟨l1, k1, rfl⟩ := hM.chs.len
    have hb3 := B2.out.trans b3
    have B3 := Lib.hid hb3
    have HN3 : Hid (W.heap.size ≤ w3.heap.size) := Lib.hid hb3.size
    clear hM hb3 b3 HMD B2
    have hcv := Lib.run_convert_string_bytes (P := Try.prog) w3 9 75 5 s Try.underlying9 Try.underlying75 Try.underlying5
    have hb4 := bw_below w3 s
    have hv4 := bw_byv w3 s
    have hgc : s.size ≤ grownCap w3 s.size 0 5 := by have := grownCap_ge w3 s.size 0 5; omega
    have hgm : grownCap w3 s.size 0 5 ≤ maxLen := grownCap_le_maxLen w3 s.size 0 5 (by have := HL2.out; unfold maxLen; omega)
    obtain ⟨w4, hw4⟩ : ∃ w, bytesWorld w3 5 s = w := ⟨_, rfl⟩
    obtain ⟨gc, hgce⟩ : ∃ c, grownCap w3 s.size 0 5 = c := ⟨_, rfl⟩
    rw [hw4] at hcv hb4 hv4
    rw [hgce] at hcv hgc hgm
    have HM4 := Lib.hid (HM3.out.below hb4)
    have HBT := Lib.hid (btxt_any HM4.out.st HM4.out.wf (bts_length s) hv4 hgc hgm (by have := HL2.out; omega) (bts_small s) (by have := HM4.out.few; have := HL2.out; omega) (by have := HM4.out.few; have := HL2.out; omega))
    have HB4 := Lib.hid (B3.out.trans (hb4.mono HN3.out))
    clear hv4 hgc hgm hgce hb4
    go_wp2_with fail
    refine HBT.out.mono ?_
    rintro e w5 ⟨E5, id, rfl, s5, f5, x5, n5, hid, hid0, htx, hev, b5, kt5⟩
    have HM5 : Hid (Mdk W.heap.size B w5 S E5 L (.slice l1 L.length k1) w2.heap.size 1400) := Lib.hid (HM4.out.grow s5 f5 x5 (by have := HM4.out.few; have := HL2.out; rw [bts_length] at n5; omega) kt5)
    have HBL : Hid (Bal0 E5 id (bts s)) := Lib.hid ⟨hid, htx, hev⟩
    have HB5 := Lib.hid (HB4.out.trans b5)
    clear s5 f5 x5 n5 hid hid0 htx hev b5 kt5 HBT hw4 hcv HM3 HM4
    have HAW := Lib.hid (awake_any w5)
    go_wp2_with fail
    refine HAW.out.mono ?_; rintro e w6 ⟨rfl, b6⟩
    have HM6 := Lib.hid (HM5.out.below b6)
    have HB6 : Hid (Below W.heap.size W w6) := Lib.hid (HB5.out.trans (b6.mono HB5.out.size))
    clear b6 HAW
    have hins := insF_le E5 L 40 HM6.out.tl
    have HAP := Lib.hid (apply_any dep13 HM6.out.st HM6.out.wf HBL.out HM6.out.chs HM6.out.mt.2.1 (by have := HM6.out.len; omega) (by have := HM6.out.len; have := HL2.out; rw [bts_length]; omega) (by
      have h1 := HM6.out.len; have h2 := HM6.out.few
      have h3 : appK 13 L.length ≤ appK 13 12 := by unfold appK; have : (2 * L.length + 1) * secK 13 ≤ (2 * 12 + 1) * secK 13 := Nat.mul_le_mul_right _ (by omega); omega
      have h4 : appK 13 12 = 28000 := by decide
      omega) (by
      have h1 := HM6.out.len; have h2 := HM6.out.few
      have h3 : appK 13 L.length ≤ appK 13 12 := by unfold appK; have : (2 * L.length + 1) * secK 13 ≤ (2 * 12 + 1) * secK 13 := Nat.mul_le_mul_right _ (by omega); omega
      have h4 : appK 13 12 = 28000 := by decide
      omega))
    clear hins
    go_wp2_with fail
    refine HAP.out.mono ?_
    rintro e w7 hap
    rcases hap with ⟨hc0, rfl, b7⟩ | ⟨hl0, E7, now, rfl, s7, f7, x7, n7, bl7, b7, kt7⟩
    · have HB7 : Hid (Below W.heap.size W w7) := Lib.hid (HB6.out.trans (b7.mono HB6.out.size))
      generalize (lngF E5 (bts s).length L).2 = ce at *
      unfold err
      clear b7
      go_wp2_with fail
      go_ret
      exact ⟨by simp, HB7.out⟩
    have HM7 : Hid (Mdk W.heap.size B w7 S E7 L (.slice l1 L.length k1) w2.heap.size 30000) := Lib.hid (HM6.out.grow s7 f7 x7 (by
      have h1 := HM6.out.len; have h2 := HM6.out.few
      have h3 : appK 13 L.length ≤ appK 13 12 := by unfold appK; have : (2 * L.length + 1) * secK 13 ≤ (2 * 12 + 1) * secK 13 := Nat.mul_le_mul_right _ (by omega); omega
      have h4 : appK 13 12 = 28000 := by decide
      omega) kt7)
    have hids : ∀ c ∈ L, c.id ≤ E5.length := fun c hc => (HM6.out.mt.2.1 c hc).1
    have hl7 : (lngF E7 (bts s).length L).2 = 0 := by rw [lngF_ext x7 hids]; exact hl0
    have HL7 := Lib.hid hl7
    have HNW7 : Hid (Bal0 E7 now (patF E7 (bts s) 0 L)) := Lib.hid (by rw [patF_ext x7 _ _ _ hids]; exact bl7)
    have HB7 : Hid (Below W.heap.size W w7) := Lib.hid (HB6.out.trans b7)
    clear s7 f7 x7 n7 bl7 b7 kt7 hl0 hids hl7 HAP HM6
    by_cases h0 : s.size = 0
    · have hse : s = ByteArray.empty := by simpa using h0
      subst hse
      clear h0
      go_wp2_with fail
      go_ret
      exact ⟨by simp, HB7.out⟩
    have h0b : ((s.size : Int) == 0) = false := beq_eq_false_iff_ne.2 (by omega)
    have hrem : (m : Int) % (s.size : Int) = ((m % s.size : Nat) : Int) := by omega
    have hq : m % s.size < s.size := Nat.mod_lt _ (by omega)
    obtain ⟨q, hqe⟩ : ∃ q, m % s.size = q := ⟨_, rfl⟩
    rw [hqe] at hrem hq
    have hqw : IntKind.i64.wrap (q : Int) = (q : Int) := by rw [IntKind.wrap_i64]; have := HL2.out; omega
    have hqs : IntKind.i64.wrap ((q : Int) + 1) = (q : Int) + 1 := by rw [IntKind.wrap_i64]; have := HL2.out; omega
    have hsz0 : ¬ (s.size : Int) = 0 := by omega
    have hbl : (bts s).length = s.size := bts_length s
    obtain ⟨p1, p2, p3⟩ := lets_plain HL7.out (x := q) (by rw [hbl]; exact hq)
    have hpa : prepF E7 (s.size : Int) L [((q : Int), true)] = 0 := by
      have h := lngF_ok HL7.out
      rw [prep_one, ← hbl, if_pos ⟨h.1, h.2.1, by omega, by omega⟩]; exact HL7.out
    have hpb : prepF E7 (s.size : Int) L [((q : Int) + 1, false)] = 0 := by
      have h := lngF_ok HL7.out
      rw [prep_one, ← hbl, if_pos ⟨h.1, h.2.1, by omega, by omega⟩]; exact HL7.out
    have HMA := Lib.hid (map_any HM7.out.st HM7.out.wf.wf (Nat.le_trans HM7.out.few (by decide)) HM7.out.chs HM7.out.mt.2.1 (Nat.le_trans HM7.out.len (by decide)) (s.size : Int) (q : Int) true)
    unfold MapP at HMA
    rw [hpa] at HMA
    rw [hbl] at p1 p2 p3
    rw [p1] at HMA
    obtain ⟨⟨ra, rb, rk⟩, hmp⟩ : ∃ r, mapF E7 (q : Int) 0 L = r := ⟨_, rfl⟩
    rw [hmp] at HMA p2 p3
    dsimp only at HMA p2 p3
    obtain ⟨⟨la, lk⟩, hlr⟩ : ∃ r, ancF (mvsF E7 0 L) (lngF E7 (s.size : Int) L).1 (s.size : Int) ((q : Int) + 1) false = r := ⟨_, rfl⟩
    have HLR := Lib.hid hlr
    rw [hlr] at p2 p3
    dsimp only at p2 p3
    subst p2
    have HPB := Lib.hid hpb
    have HP3 := Lib.hid p3
    have HQ := Lib.hid hq
    clear hqe hbl p1 p3 hpa hpb hmp hlr h0 hmb
    go_wp2_with fail
    refine HMA.out.mono ?_
    rintro e w8 ⟨⟨-, rfl⟩ | ⟨h, -⟩, b8⟩
    rotate_left
    · exact absurd rfl h
    clear HMA
    obtain ⟨wz, w9, hz, hs1, ka, ba, ⟨z0, z1⟩, f0, f1⟩ := newAn w8 rb true
    obtain ⟨gA, hg⟩ : ∃ g, w8.heap.size = g := ⟨_, rfl⟩
    rw [hg] at hs1 z0 z1 f0 f1 ka
    have bb := Below.after b8 ba
    have HM9 := Lib.hid (HM7.out.below bb)
    have HB9 : Hid (Below W.heap.size W w9) := Lib.hid (HB7.out.trans (bb.mono HB7.out.size))
    have KA := Lib.hid ka
    have HMB := Lib.hid (map_any HM9.out.st HM9.out.wf.wf (Nat.le_trans HM9.out.few (by decide)) HM9.out.chs HM9.out.mt.2.1 (Nat.le_trans HM9.out.len (by decide)) (s.size : Int) ((q : Int) + 1) false)
    unfold MapP at HMB
    rw [HPB.out, HLR.out] at HMB
    dsimp only at HMB
    clear ka ba bb b8 HM7
    go_wp2_with fail
    clear hz hs1 z0 z1 f0 f1 hg
    refine HMB.out.mono ?_
    rintro e w10 ⟨⟨-, rfl⟩ | ⟨h, -⟩, b10⟩
    rotate_left
    · exact absurd rfl h
    clear HMB
    obtain ⟨wz, w11, hz, hs1, kb, ba, ⟨z0, z1⟩, f0, f1⟩ := newAn w10 la false
    obtain ⟨gB, hg⟩ : ∃ g, w10.heap.size = g := ⟨_, rfl⟩
    rw [hg] at hs1 z0 z1 f0 f1 kb
    have bb := Below.after b10 ba
    have HM11 := Lib.hid (HM9.out.below bb)
    have HB11 : Hid (Below W.heap.size W w11) := Lib.hid (HB9.out.trans (bb.mono HB9.out.size))
    have KA11 := Lib.hid (show AnC w11 gA rb true from below_block bb KA.out)
    have KB11 := Lib.hid kb
    obtain ⟨ay0, ay1, -, -⟩ := KA11.out.cells
    obtain ⟨by0, by1, -, -⟩ := KB11.out.cells
    clear kb ba bb b10 HM9
    cases lk with
    | false =>
      go_wp2_with fail
      go_ret
      exact ⟨rfl, HB11.out⟩
    | true =>
      obtain ⟨hr0, hrt, hra⟩ := HP3.out rfl
      obtain ⟨k, rfl⟩ : ∃ k : Nat, rb = (k : Int) := ⟨rb.toNat, by omega⟩
      subst hra
      rw [Int.toNat_natCast] at hrt
      have hql : q < (bts s).length := by rw [bts_length]; exact HQ.out
      rw [List.getElem?_eq_getElem hql] at hrt
      have HAT := Lib.hid (at_some HM11.out.st HM11.out.wf.wf (Nat.le_trans HM11.out.few (by decide)) HNW7.out.le (k := k) (by rw [HNW7.out.txt]; exact hrt))
      have hbv : (bts s)[q] = (s[q]'HQ.out).toNat := by simp [bts]; rfl
      rw [hbv] at HAT
      have hkb : k ≤ 1152921504606846976 := by
        have h1 := (List.getElem?_eq_some_iff.1 hrt).1
        have h2 := (HNW7.out.len HM11.out.wf).1
        omega
      clear hr0 hrt hbv
      go_wp2_with fail
      refine HAT.out.mono ?_
      rintro e w12 ⟨rfl, b12⟩
      have HB12 : Hid (Below W.heap.size W w12) := Lib.hid (HB11.out.trans (b12.mono HB11.out.size))
      have KA12 := Lib.hid (show AnC w12 gA (k : Int) true from below_block b12 KA11.out)
      have KB12 := Lib.hid (show AnC w12 gB ((k : Int) + 1) false from below_block b12 KB11.out)
      clear ay0 ay1 by0 by1
      obtain ⟨ay0, ay1, -, -⟩ := KA12.out.cells
      obtain ⟨by0, by1, -, -⟩ := KB12.out.cells
      clear b12
      go_wp2_with fail
      go_ret
      exact ⟨by simp, HB12.out⟩
end M
end Go.Proofs.Ytplccefjljdjnaa
