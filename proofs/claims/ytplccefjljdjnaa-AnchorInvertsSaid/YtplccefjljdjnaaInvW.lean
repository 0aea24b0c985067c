/- AnchorInverts: the walk. -/
import Derived.Test.YtplccefjljdjnaaInvP
set_option linter.unusedVariables false
set_option linter.unusedSimpArgs false
namespace Go.Proofs.Ytplccefjljdjnaa
open Go.RowKit Go.Lib
namespace M
attribute [local go_sem] Oper.semAt_some
set_option maxRecDepth 100000 in
set_option maxHeartbeats 8000000 in
theorem inverts_any {W : World} (s : ByteArray) (hs : s.size ≤ 9223372036854775807) {c : Value} {S : List Spc} (hS : RowSp W c S) (hlow : LowS W c) (x : Int) :
    Calls Try.prog 11 #[.string s, c, .int .i64 x] W fun e w' => e = .returned (.bool true) ∧ Below W.heap.size W w' := by
  have HS1 := Lib.hid hS
  have HSM := Lib.hid (small_any hS)
  have HLW : Hid (∀ (a : Addr) n k, c = .slice (some a) n k → 0 < n → a.block < W.heap.size) := Lib.hid hlow
  obtain ⟨a, cap, rfl, -⟩ := hS
  clear hlow
  cases hsm : smallF S with
  | false =>
    rw [hsm] at HSM
    go_enter Try.func11, Try.ntmps11
    go_wp2_with fail
    refine HSM.out.mono ?_; rintro e w ⟨rfl, h⟩; rw [h]; clear h w
    go_wp2_with fail
    go_ret
    exact ⟨rfl, Below.refl _ _⟩
  | true =>
    rw [hsm] at HSM
    have HSY := Lib.hid hsm
    clear hsm
    by_cases hl2 : 200 < s.size
    · have hl3 : (s.size : Int) > 200 := by omega
      go_enter Try.func11, Try.ntmps11
      go_wp2_with fail
      refine HSM.out.mono ?_; rintro e w ⟨rfl, h⟩; rw [h]; clear h w
      go_wp2_with fail
      go_ret
      exact ⟨rfl, Below.refl _ _⟩
    have hl3 : ¬ (s.size : Int) > 200 := by omega
    have HL2 := Lib.hid hl2
    have HNW := Lib.hid (snew_any W 1048576 (by omega))
    rw [show ((1048576 : Nat) : Int) = 1048576 from rfl] at HNW
    clear hl2 hs
    go_enter Try.func11, Try.ntmps11
    go_wp2_with fail
    refine HSM.out.mono ?_; rintro e w ⟨rfl, h⟩; rw [h]; clear h w
    go_wp2_with fail
    refine HNW.out.mono ?_
    rintro e w2 ⟨B, rfl, s2, b2⟩
    have HMD := Lib.hid (madeK_any (k := 0) s2 .nil (by simp) (by omega) (HS1.out.below b2) HSY.out b2.size HLW.out)
    have B2 := Lib.hid b2
    clear s2 b2 HNW HSM
    go_wp2_with fail
    refine HMD.out.mono ?_
    rintro e w3 ⟨E, L, v1, v2, rfl, ⟨a2, n2, c2, rfl⟩, hM, -, b3⟩
    have HM3 := Lib.hid hM
    obtain ⟨l1, k1, rfl⟩ := hM.chs.len
    have hb3 := B2.out.trans b3
    have B3 := Lib.hid hb3
    have HN3 : Hid (W.heap.size ≤ w3.heap.size) := Lib.hid hb3.size
    clear hM hb3 b3 HMD B2
    have hcv := Lib.run_convert_string_bytes (P := Try.prog) w3 9 75 5 s Try.underlying9 Try.underlying75 Try.underlying5
    have hb4 := bw_below w3 s
    have hv4 := bw_byv w3 s
    have hgc : s.size ≤ grownCap w3 s.size 0 5 := by have := grownCap_ge w3 s.size 0 5; omega
    have hgm : grownCap w3 s.size 0 5 ≤ maxLen := grownCap_le_maxLen w3 s.size 0 5 (by have := HL2.out; unfold maxLen; omega)
    obtain ⟨w4, hw4⟩ : ∃ w, bytesWorld w3 5 s = w := ⟨_, rfl⟩
    obtain ⟨gc, hgce⟩ : ∃ c, grownCap w3 s.size 0 5 = c := ⟨_, rfl⟩
    rw [hw4] at hcv hb4 hv4
    rw [hgce] at hcv hgc hgm
    have HM4 := Lib.hid (HM3.out.below hb4)
    have HBT := Lib.hid (btxt_any HM4.out.st HM4.out.wf (bts_length s) hv4 hgc hgm (by have := HL2.out; omega) (bts_small s) (by have := HM4.out.few; have := HL2.out; omega) (by have := HM4.out.few; have := HL2.out; omega))
    have HB4 := Lib.hid (B3.out.trans (hb4.mono HN3.out))
    clear hv4 hgc hgm hgce hb4
    go_wp2_with fail
    refine HBT.out.mono ?_
    rintro e w5 ⟨E5, id, rfl, s5, f5, x5, n5, hid, hid0, htx, hev, b5, kt5⟩
    have HM5 : Hid (Mdk W.heap.size B w5 S E5 L (.slice l1 L.length k1) w2.heap.size 1400) := Lib.hid (HM4.out.grow s5 f5 x5 (by have := HM4.out.few; have := HL2.out; rw [bts_length] at n5; omega) kt5)
    have HBL : Hid (Bal0 E5 id (bts s)) := Lib.hid ⟨hid, htx, hev⟩
    have HB5 := Lib.hid (HB4.out.trans b5)
    clear s5 f5 x5 n5 hid hid0 htx hev b5 kt5 HBT hw4 hcv HM3 HM4
    have HAW := Lib.hid (awake_any w5)
    go_wp2_with fail
    refine HAW.out.mono ?_; rintro e w6 ⟨rfl, b6⟩
    have HM6 := Lib.hid (HM5.out.below b6)
    have HB6 : Hid (Below W.heap.size W w6) := Lib.hid (HB5.out.trans (b6.mono HB5.out.size))
    clear b6 HAW
    have HIV := Lib.hid (invert_any dep13 HM6.out.st HM6.out.wf HBL.out HM6.out.chs HM6.out.mt.2.1 (by have := HM6.out.len; omega) (by have := HL2.out; rw [bts_length]; omega) (by
      have h1 := HM6.out.len; have h2 := HM6.out.few
      have h3 : L.length * secK 13 ≤ 12 * secK 13 := Nat.mul_le_mul_right _ h1
      have h4 : 12 * secK 13 = 12960 := by decide
      omega) (by
      have h1 := HM6.out.len; have h2 := HM6.out.few
      have h3 : L.length * secK 13 ≤ 12 * secK 13 := Nat.mul_le_mul_right _ h1
      have h4 : 12 * secK 13 = 12960 := by decide
      omega))
    go_wp2_with fail
    refine HIV.out.mono ?_
    rintro e w7 hap
    rcases hap with ⟨hc0, rfl, b7⟩ | ⟨hl0, E7, R, vR, rfl, s7, f7, x7, n7, cR, hI, b7, kt7⟩
    · have HB7 : Hid (Below W.heap.size W w7) := Lib.hid (HB6.out.trans (b7.mono HB6.out.size))
      generalize (lngF E5 (bts s).length L).2 = ce at *
      unfold err
      clear b7
      go_wp2_with fail
      go_ret
      exact ⟨by simp, HB7.out⟩
    have HM7 : Hid (Mdk W.heap.size B w7 S E7 L (.slice l1 L.length k1) w2.heap.size 30000) := Lib.hid (HM6.out.grow s7 f7 x7 (by
      have h1 := HM6.out.len; have h2 := HM6.out.few
      have h3 : L.length * secK 13 ≤ 12 * secK 13 := Nat.mul_le_mul_right _ h1
      have h4 : 12 * secK 13 = 12960 := by decide
      omega) kt7)
    have hids : ∀ c ∈ L, c.id ≤ E5.length := fun c hc => (HM6.out.mt.2.1 c hc).1
    have hl7 : (lngF E7 (bts s).length L).2 = 0 := by rw [lngF_ext x7 hids]; exact hl0
    have HL7 := Lib.hid hl7
    have HI := Lib.hid hI
    have hrl := hI.len
    have HRL := Lib.hid hrl
    obtain ⟨r1, k2, rfl⟩ := cR.len
    rw [hrl] at cR ⊢
    have HCR := Lib.hid cR
    have HB7 : Hid (Below W.heap.size W w7) := Lib.hid (HB6.out.trans b7)
    have HZ : Hid (∀ c ∈ L, txt E7 c.id = [] → c.id = 0) := Lib.hid (fun c hc h => (HM7.out.mt.2.2 c hc).2 h)
    have HLN := Lib.hid (plength_any HM7.out.st HM7.out.wf.wf (Nat.le_trans HM7.out.few (by decide)) HM7.out.chs HM7.out.mt.2.1 (Nat.le_trans HM7.out.len (by decide)) ((bts s).length : Int))
    rw [hl7, bts_length, show errV 0 = .nilIface from rfl] at HLN
    obtain ⟨nl, hnl⟩ : ∃ n, (lngF E7 (s.size : Int) L).1 = n := ⟨_, rfl⟩
    rw [hnl] at HLN
    have HNL := Lib.hid hnl
    clear s7 f7 x7 n7 cR b7 kt7 hl0 hids hl7 HIV HM6 hI hrl hnl
    go_wp2_with fail
    refine HLN.out.mono ?_; rintro e w8 ⟨rfl, b8⟩
    have HM8 := Lib.hid (HM7.out.below b8)
    have HCR8 := Lib.hid (HCR.out.below b8)
    have HB8 : Hid (Below W.heap.size W w8) := Lib.hid (HB7.out.trans (b8.mono HB7.out.size))
    clear b8 HLN HM7
    obtain ⟨m, hm, hmb⟩ := mask62' (x / 2)
    obtain ⟨r, hr⟩ : ∃ r, (bits .and .i64 x 1 == 1) = r := ⟨_, rfl⟩
    have hq : m % (s.size + 1) ≤ s.size := Nat.le_of_lt_succ (Nat.mod_lt _ (by omega))
    have hr1 : (m : Int).tmod ((s.size : Int) + 1) = ((m % (s.size + 1) : Nat) : Int) := rfl
    have hr2 : (m : Int) % ((s.size : Int) + 1) = ((m % (s.size + 1) : Nat) : Int) := rfl
    obtain ⟨q, hqe⟩ : ∃ q, m % (s.size + 1) = q := ⟨_, rfl⟩
    rw [hqe] at hr1 hr2 hq
    have hbl : (bts s).length = s.size := bts_length s
    have hlk := lngF_ok HL7.out
    have hqw : IntKind.i64.wrap (q : Int) = (q : Int) := by rw [IntKind.wrap_i64]; have := HL2.out; omega
    have hpa : prepF E7 (s.size : Int) L [((q : Int), r)] = 0 := by
      rw [prep_one, ← hbl, if_pos ⟨hlk.1, hlk.2.1, by omega, by omega⟩]; exact HL7.out
    obtain ⟨w9, hw9⟩ : ∃ w, w8.alloc (.cells #[.int .i64 (q : Int), .bool r] 33) = w := ⟨_, rfl⟩
    obtain ⟨gO, hgo⟩ : ∃ g, w8.heap.size = g := ⟨_, rfl⟩
    have b9 : Below w8.heap.size w8 w9 := by rw [← hw9]; exact (Below.refl _ _).alloc (Nat.le_refl _) _
    have kO : AnC w9 gO (q : Int) r := by rw [← hw9, ← hgo]; exact heap_new' _ _
    have HM9 := Lib.hid (HM8.out.below b9)
    have HCR9 := Lib.hid (HCR8.out.below b9)
    have HB9 : Hid (Below W.heap.size W w9) := Lib.hid (HB8.out.trans (b9.mono HB8.out.size))
    have KO := Lib.hid kO
    obtain ⟨oy0, oy1, -, -⟩ := kO.cells
    have HMA := Lib.hid (map_any HM9.out.st HM9.out.wf.wf (Nat.le_trans HM9.out.few (by decide)) HM9.out.chs HM9.out.mt.2.1 (Nat.le_trans HM9.out.len (by decide)) (s.size : Int) (q : Int) r)
    unfold MapP at HMA
    rw [hpa] at HMA
    obtain ⟨⟨ra, rk⟩, hlr⟩ : ∃ z, ancF (mvsF E7 0 L) (lngF E7 (s.size : Int) L).1 (s.size : Int) (q : Int) r = z := ⟨_, rfl⟩
    rw [hlr] at HMA
    dsimp only at HMA
    have HPL := Lib.hid (fun hk => inv_plain HM9.out.wf (L := L) (R := R) HL7.out HI.out HZ.out (x := (q : Int)) ⟨by omega, by omega⟩ r hk)
    rw [hbl, hlr, HNL.out] at HPL
    dsimp only at HPL
    have HNB : Hid (nl ≤ 1152921504606846976 ∧ 0 ≤ nl) := Lib.hid (by
      have h1 := hlk.2.2.2.2; rw [hbl, HNL.out] at h1
      have h2 := hlk.2.2.2.1; rw [hbl] at h2
      have h3 := del_le hlk.1 hlk.2.2.1; rw [hbl] at h3
      omega)
    clear hqe hbl hpa hlr hmb hlk kO b9 HM8 HCR8
    go_wp2_with fail
    clear hw9 oy0 oy1
    refine HMA.out.mono ?_
    rintro e w10 ⟨⟨-, rfl⟩ | ⟨h, -⟩, b10⟩
    rotate_left
    · exact absurd rfl h
    clear HMA
    obtain ⟨wz, w11, hz, hs1, ka, ba, ⟨z0, z1⟩, f0, f1⟩ := newAn w10 ra r
    obtain ⟨gA, hg⟩ : ∃ g, w10.heap.size = g := ⟨_, rfl⟩
    rw [hg] at hs1 z0 z1 f0 f1 ka
    have bb := Below.after b10 ba
    have HM11 := Lib.hid (HM9.out.below bb)
    have HCR11 := Lib.hid (HCR9.out.below bb)
    have HB11 : Hid (Below W.heap.size W w11) := Lib.hid (HB9.out.trans (bb.mono HB9.out.size))
    have KA := Lib.hid ka
    have KO11 := Lib.hid (show AnC w11 gO (q : Int) r from below_block bb KO.out)
    obtain ⟨ay0, ay1, -, -⟩ := ka.cells
    clear ka ba bb b10 HM9 HCR9
    cases rk with
    | false =>
      go_wp2_with fail
      go_ret
      exact ⟨rfl, HB11.out⟩
    | true =>
      obtain ⟨p1, p2, p3, p4⟩ := HPL.out rfl
      rw [p2] at p4
      have hpb : prepF E7 nl R [(ra, r)] = 0 := by
        have := HNB.out
        rw [prep_one, if_pos ⟨by omega, by omega, p3.1, p3.2⟩]; exact p1
      have HMB := Lib.hid (map_any HM11.out.st HM11.out.wf.wf (Nat.le_trans HM11.out.few (by decide)) HCR11.out HI.out.txs (by have := HRL.out; have := HM11.out.len; omega) nl ra r)
      unfold MapP at HMB
      rw [hpb, p2] at HMB
      rw [p4] at HMB
      dsimp only at HMB
      clear p1 p2 p3 p4 hpb HPL
      go_wp2_with fail
      clear hz hs1 z0 z1 f0 f1 hg ay0 ay1
      refine HMB.out.mono ?_
      rintro e w12 ⟨⟨-, rfl⟩ | ⟨h, -⟩, b12⟩
      rotate_left
      · exact absurd rfl h
      clear HMB
      obtain ⟨wz, w13, hz, hs1, kb, ba, ⟨z0, z1⟩, f0, f1⟩ := newAn w12 (q : Int) r
      obtain ⟨gB, hg⟩ : ∃ g, w12.heap.size = g := ⟨_, rfl⟩
      rw [hg] at hs1 z0 z1 f0 f1 kb
      have bb := Below.after b12 ba
      have HB13 : Hid (Below W.heap.size W w13) := Lib.hid (HB11.out.trans (bb.mono HB11.out.size))
      have KO13 := Lib.hid (show AnC w13 gO (q : Int) r from below_block bb KO11.out)
      obtain ⟨oy0, oy1, -, -⟩ := KO13.out.cells
      obtain ⟨by0, by1, -, -⟩ := kb.cells
      have hgd : Try.prog.eqGuardType Try.prog.depth 33 = false := by kernel_rfl
      have hae : ∀ w, (Op.equal 33 (.agg #[.int .i64 (q : Int), .bool r]) (.agg #[.int .i64 (q : Int), .bool r])).run Try.prog w = .ok true w := fun w => by rw [an_eq]; simp
      clear kb ba bb b12
      go_wp2_with fail
      go_ret
      exact ⟨by simp, HB13.out⟩
end M
end Go.Proofs.Ytplccefjljdjnaa
