/- CursorPlays: the walk. -/
import Derived.Test.YtjbllcakaljpgaaCur0
import Derived.Test.YtjbllcakaljpgaaStoreNew
import Derived.Test.YtjbllcakaljpgaaCur2
import Derived.Test.YtjbllcakaljpgaaLawBuild
import Derived.Test.YtjbllcakaljpgaaStep
import Derived.Test.YtjbllcakaljpgaaRefTxt2
namespace Go.Proofs.Ytjbllcakaljpgaa
open Go.RowKit Go.Lib
namespace M
attribute [local go_sem] Oper.semAt_some
set_option maxRecDepth 100000 in
set_option maxHeartbeats 1000000 in
theorem cnew_any {n0 B most : Nat} {W : World} {E : List En} (h : StAt n0 W B most E) {i : Nat} (hi : i ≤ E.length) (hE : E.length ≤ 1048576) :
    Calls Try.prog 35 #[.pointer (some ⟨B, 0, none⟩), .int .i64 i] W fun e w' => ∃ c, e = .returned (.tuple #[.pointer (some ⟨c, 0, none⟩), .nilIface]) ∧ W.heap.size ≤ c ∧ CuC w' c B i (entAt E i).w.len 0 ∧ Below W.heap.size W w' := by
  have HW := Lib.hid (weight_any h hi hE)
  obtain ⟨u, hu⟩ : ∃ u, (entAt E i).w = u := ⟨_, rfl⟩
  rw [hu] at HW ⊢
  unfold wtV at HW
  clear hu h
  go_enter Try.func35, Try.ntmps35
  go_wp2_with fail
  refine HW.out.mono ?_; rintro e w1 ⟨rfl, b1⟩
  obtain ⟨wg, hwg⟩ : ∃ g, w1.heap.size = g := ⟨_, rfl⟩
  obtain ⟨Ww, hWw⟩ : ∃ w, w1.alloc (.cells #[.int .i64 0, .int .i64 0, .int .i64 0, .int .i64 0, .int .u64 0, .int .u64 0] 52) = w := ⟨_, rfl⟩
  have kw0 : WtC Ww wg w0 := by rw [← hWw, ← hwg]; exact heap_new' _ _
  have bw0 : Below w1.heap.size w1 Ww := by rw [← hWw]; exact (Below.refl _ _).alloc (Nat.le_refl _) _
  obtain ⟨p0, p1, p2, p3, p4, p5⟩ := kw0.cells
  have q0 := kw0.free 0; have q1 := kw0.free 1; have q2 := kw0.free 2; have q3 := kw0.free 3; have q4 := kw0.free 4; have q5 := kw0.free 5
  simp only [w0] at p0 p1 p2 p3 p4 p5
  obtain ⟨w2, hw2⟩ : ∃ w, setW Ww wg u = w := ⟨_, rfl⟩
  have k2 : WtC w2 wg u := by rw [← hw2]; exact kw0.set u
  have b2 : Below w1.heap.size w1 w2 := by rw [← hw2]; exact setW_below bw0 (by omega) u
  simp only [setW] at hw2
  obtain ⟨x0, x1, x2, x3, x4, x5⟩ := k2.cells
  have B2 := Lib.hid (Below.after b1 b2)
  clear kw0 bw0 k2 b1 b2
  go_wp2_with fail
  go_ret2
  exact ⟨_, rfl, B2.out.size, heap_new' _ _, B2.out.alloc B2.out.size _⟩
end M
end Go.Proofs.Ytjbllcakaljpgaa
namespace Go.Proofs.Ytjbllcakaljpgaa
open Go.RowKit Go.Lib
namespace M
attribute [local go_sem] Oper.semAt_some
theorem StAt.mono {n0 n1 B most : Nat} {W : World} {E : List En} (h : StAt n1 W B most E) (hn : n0 ≤ n1) : StAt n0 W B most E := by
  obtain ⟨lv, mb, h1, h2, h3, h4, h5⟩ := h
  exact ⟨lv, mb, h1, h2.mono hn, h3, Nat.le_trans hn h4, Nat.le_trans hn h5⟩
theorem addF_first (b : Nat) : addF [] (letE b) = ([letE b], 1) := rfl
/-- What has begun. -/
def BegunP (W : World) (M : List Mk) (n : Int) (e : Ending) (w' : World) : Prop := ∃ B c, e = .returned (.tuple #[.pointer (some ⟨B, 0, none⟩), .pointer (some ⟨c, 0, none⟩), .int .i64 (resAt (bldF M [] [0]).2 n), .bool true]) ∧ StAt W.heap.size w' B 1000 (bldF M [] [0]).1 ∧ CuC w' c B (resAt (bldF M [] [0]).2 n) (entAt (bldF M [] [0]).1 (resAt (bldF M [] [0]).2 n)).w.len 0 ∧ W.heap.size ≤ c ∧ Below W.heap.size W w'
set_option maxRecDepth 100000 in
set_option maxHeartbeats 4000000 in
theorem begun_any {W : World} {v : Value} {M : List Mk} (hM : RowMk W v M) (hl : M.length ≤ 100) (n : Int) : Calls Try.prog 11 #[v, .int .i64 n] W (BegunP W M n) := by
  have HF : ∀ f, Fence.wide.fn f := fun _ => trivial
  have H := Lib.hid hM
  obtain ⟨a, cap, rfl, hc1, hc2, hlt, -⟩ := hM
  have HBW : Hid (Wf (bldF M [] [0]).1 ∧ (bldF M [] [0]).1.length ≤ M.length ∧ (bldF M [] [0]).2.length = 1 + M.length ∧ ∀ x ∈ (bldF M [] [0]).2, x ≤ (bldF M [] [0]).1.length) := Lib.hid (by
    have := bldF_wf M (E := []) (R := [0]) .nil (by simp) (fun m hm => (hlt m hm).1)
    simpa using this)
  unfold BegunP
  have HLB := Lib.hid (fun (W1 : World) (B : Nat) (hb : Below W.heap.size W W1) (h : StAt W.heap.size W1 B 1000 []) => lawBuild_any H.out (by omega) hb h (by omega) (by omega))
  obtain ⟨A, hA⟩ : ∃ A, bldF M [] [0] = A := ⟨_, rfl⟩
  simp only [hA] at HBW HLB ⊢
  obtain ⟨E, S⟩ := A
  dsimp only at HBW HLB ⊢
  obtain ⟨id, hid⟩ : ∃ i, resAt S n = i := ⟨_, rfl⟩
  rw [hid]
  have HID := Lib.hid hid
  clear hA hlt hc1 hc2 hid
  go_enter Try.func11, Try.ntmps11
  go_wp2_with fail
  have HS := Lib.hid (snew_any W 10 (by omega))
  rw [show ((10 : Nat) : Int) = 10 from rfl] at HS
  refine HS.out.mono ?_
  rintro e w1 ⟨B1, rfl, s1, b1⟩
  clear HS
  have B1' := Lib.hid b1
  have HLT := Lib.hid (letter_any (s1.mono (Nat.le_refl W.heap.size)) 97 (by omega) (by simp) (by simp))
  rw [addF_first, show ((97 : Nat) : Int) = 97 from rfl] at HLT
  clear s1 b1
  go_wp2_with fail
  refine HLT.out.mono ?_
  rintro e w2 ⟨rfl, s2, b2, -⟩
  have HB2 := Lib.hid (B1'.out.trans b2)
  have hwf1 : Wf [letE 97] := .snoc (E := []) .nil (letE_ok [] (by omega))
  have HCN := Lib.hid (cnew_any s2 (i := 1) (by simp) (by simp))
  have hS2 := Lib.hid s2
  clear s2 b2 HLT
  rw [show (entAt [letE 97] 1).w.len = 1 from rfl] at HCN
  go_wp2_with fail
  refine HCN.out.mono ?_
  rintro e w3 ⟨c, rfl, hc, k3, b3⟩
  clear HCN
  have HB3 := Lib.hid (HB2.out.trans (b3.mono HB2.out.size))
  have HS3 := Lib.hid (hS2.out.below b3)
  have HL3 := Lib.hid (length_any k3)
  rw [show ((1 : Nat) : Int) = 1 from rfl] at HL3
  have HN3 := Lib.hid (next_some HS3.out hwf1 (by simp) (id := 1) (k := 0) (b := 97) k3 (by simp) (by omega) (by omega) rfl)
  rw [show ((97 : Nat) : Int) = 97 from rfl] at HN3
  have K3 := Lib.hid k3; have HC := Lib.hid hc
  clear b3 k3 hc
  go_wp2_with fail
  refine HL3.out.mono ?_; rintro e w ⟨rfl, h⟩; rw [h]; clear h w
  go_wp2_with fail
  refine HN3.out.mono ?_
  rintro e w ⟨rfl, w4, b4, rfl⟩
  have k4 : CuC (w4.setCell ⟨c, 3, none⟩ (.int .i64 ((0 + 1 : Nat) : Int))) c B1 1 1 1 := CuC.move (below_block b4 K3.out) 1
  have HO := Lib.hid (offset_any k4)
  have hc0 : W.heap.size ≤ c := Nat.le_trans HB2.out.size HC.out
  have b5 : Below W.heap.size W (w4.setCell ⟨c, 3, none⟩ (.int .i64 ((0 + 1 : Nat) : Int))) := (HB3.out.trans (b4.mono HB3.out.size)).setCell (p := ⟨c, 3, none⟩) hc0 _
  obtain ⟨w5, hw5⟩ : ∃ w, w4.setCell ⟨c, 3, none⟩ (.int .i64 ((0 + 1 : Nat) : Int)) = w := ⟨_, rfl⟩
  rw [hw5] at HO b5 ⊢
  rw [show ((1 : Nat) : Int) = 1 from rfl] at HO
  have HB5 := Lib.hid b5
  clear b4 k4 b5 hw5 HL3 HN3 hc0
  go_wp2_with fail
  refine HO.out.mono ?_; rintro e w ⟨rfl, h⟩; rw [h]; clear h w
  have HS5 := Lib.hid (snew_any w5 1000 (by omega))
  rw [show ((1000 : Nat) : Int) = 1000 from rfl] at HS5
  go_wp2_with fail
  refine HS5.out.mono ?_
  rintro e w6 ⟨B, rfl, s6, b6⟩
  have HB6 := Lib.hid (HB5.out.trans (b6.mono HB5.out.size))
  have s6' : StAt W.heap.size w6 B 1000 [] := s6.mono HB5.out.size
  have HLB6 := Lib.hid (HLB.out w6 B HB6.out s6')
  clear s6 b6 s6'
  go_wp2_with fail
  refine HLB6.out.mono ?_
  rintro e w7 ⟨rv, rfl, hI, s7, b7⟩
  dsimp only at hI s7
  have hp := pk_lt n (show 0 < S.length by have := HBW.out.2.2.1; omega)
  obtain ⟨g, cp, rfl, -, -, hcell⟩ := hI.at hp
  have c0 := hcell w7 (Below.refl _ _) _ hp
  have HR : Hid (resAt S n = S[pk n S.length]) := Lib.hid (by unfold resAt; rw [List.getElem?_eq_getElem hp]; rfl)
  have HX : Hid (resAt S n ≤ E.length) := Lib.hid (by rw [HR.out]; exact HBW.out.2.2.2 _ (List.getElem_mem hp))
  rw [← HR.out, HID.out] at c0
  rw [HID.out] at HX
  have HPK := Lib.hid (pick_any w7 n S.length (by have := HBW.out.2.2.1; omega) (by have := HBW.out.2.2.1; omega))
  rw [pk_cast n (show 0 < S.length by have := HBW.out.2.2.1; omega)] at HPK
  have HCN := Lib.hid (cnew_any s7 (i := id) HX.out (by have := HBW.out.2.1; omega))
  have HS7 := Lib.hid s7; have HB7 := Lib.hid b7
  have hpi : ((pk n S.length : Nat) : Int) < (S.length : Int) := by omega
  generalize pk n S.length = p at *
  clear hcell HR hI s7 b7 hp
  go_wp2_with fail
  refine HPK.out.mono ?_; rintro e w ⟨rfl, h⟩; rw [h]; clear h w
  go_wp2_with fail
  refine HCN.out.mono ?_
  rintro e w8 ⟨c8, rfl, hc8, k8, b8⟩
  have HB8 := Lib.hid (HB7.out.trans (b8.mono HB7.out.size))
  have HS8 := Lib.hid (HS7.out.below b8)
  have K8 := Lib.hid k8; have HC8 := Lib.hid hc8
  clear b8 k8 hc8 c0
  go_wp2_with fail
  exact bodyPost_ret (v := .tuple #[.pointer (some ⟨B, 0, none⟩), .pointer (some ⟨c8, 0, none⟩), .int .i64 id, .bool true]) (by simp [results, Try.results11, go_sem]) rfl ⟨_, _, rfl, HS8.out, K8.out, Nat.le_trans HB7.out.size HC8.out, HB8.out⟩
end M
end Go.Proofs.Ytjbllcakaljpgaa
namespace Go.Proofs.Ytjbllcakaljpgaa
open Go.RowKit Go.Lib
namespace M
attribute [local go_sem] Oper.semAt_some
set_option maxRecDepth 100000 in
set_option maxHeartbeats 8000000 in
theorem plays_any {W : World} {v s : Value} {M : List Mk} {S : List Ac} (hM : RowMk W v M) (hS : RowAc W s S) (n : Int) :
    Calls Try.prog 7 #[v, .int .i64 n, s] W fun e w' => e = .returned (.bool true) ∧ Below W.heap.size W w' := by
  have HF : ∀ f, Fence.wide.fn f := fun _ => trivial
  have H := Lib.hid hM
  have HSC := Lib.hid hS
  obtain ⟨va, vc, rfl, -, hcm, -, -⟩ := hM
  unfold maxLen at hcm
  obtain ⟨sa, sc, rfl, hsc1, hsc2, -⟩ := hS
  unfold maxLen at hsc2
  by_cases hl : M.length ≤ 100
  · have hl2 : ¬ (M.length : Int) > 100 := by omega
    by_cases hsl : S.length ≤ 200
    · have hsl2 : ¬ (S.length : Int) > 200 := by omega
      have HG := Lib.hid (begun_any H.out hl n)
      have HRB : Hid (∀ w, Below W.heap.size W w → Calls Try.prog 27 #[.slice va M.length vc] w fun e w' => ∃ v' u' rv, e = .returned (.tuple #[.agg #[v', u'], rv]) ∧ Rus 0 w' v' ((bldF M [] [0]).1.map En.ru) ∧ Lns 0 w' u' (lens (bldF M [] [0]).1) ∧ Ids 0 w' rv (bldF M [] [0]).2 ∧ Below w.heap.size w w') := Lib.hid (fun w hw => refBuild_any (H.out.below hw) (by omega))
      have HWF : Hid (Wf (bldF M [] [0]).1 ∧ (bldF M [] [0]).1.length ≤ 100 ∧ resAt (bldF M [] [0]).2 n ≤ (bldF M [] [0]).1.length) := Lib.hid (by
        obtain ⟨a', cap', ha', -, -, hmb, -⟩ := H.out
        obtain ⟨q1, q2, q3, q4⟩ := bldF_wf M (E := []) (R := [0]) .nil (by simp) (fun m hm => (hmb m hm).1)
        exact ⟨q1, by simp at q2; omega, resAt_le q4 n⟩)
      unfold BegunP at HG
      generalize (bldF M [] [0]).1 = E at *
      generalize hid0 : resAt (bldF M [] [0]).2 n = id at *
      clear hid0
      generalize (bldF M [] [0]).2 = RV at *
      obtain ⟨hw, hlen⟩ := HWF.out.1.len HWF.out.2.2
      have HE : Hid (E.length ≤ 1048576) := Lib.hid (by have := HWF.out.2.1; omega)
      obtain ⟨t, ht⟩ : ∃ t, txt E id = t := ⟨_, rfl⟩
      have hul : (entAt E id).w.len = t.length := by rw [hw, ← ht]; rfl
      rw [ht] at hlen
      rw [hul] at HG
      have HT := Lib.hid ht
      clear hw hul ht
      obtain ⟨len, hle⟩ : ∃ l, t.length = l := ⟨_, rfl⟩
      rw [hle] at HG hlen
      have HLE := Lib.hid hle
      clear hle
      go_enter Try.func7, Try.ntmps7
      go_wp2_with fail
      refine HG.out.mono ?_
      rintro e w3 ⟨B, c, rfl, s3, k3, hc, b3⟩
      have HB3 := Lib.hid b3
      have HC : Hid (W.heap.size ≤ c) := Lib.hid hc
      have HS3 := Lib.hid s3
      have K3 := Lib.hid k3
      clear s3 k3 b3 hc HG
      go_wp2_with fail
      refine (HRB.out w3 HB3.out).mono ?_
      rintro e w4 ⟨v', u', rv, rfl, hR, hL, hI, b4⟩
      obtain ⟨ra, rc, rfl⟩ := hR.len
      obtain ⟨la, lc, rfl⟩ := hL.len
      obtain ⟨ia, ic, rfl⟩ := hI.len
      obtain ⟨n1, hn1⟩ : ∃ y, (E.map En.ru).length = y := ⟨_, rfl⟩
      obtain ⟨n2, hn2⟩ : ∃ y, (lens E).length = y := ⟨_, rfl⟩
      obtain ⟨n3, hn3⟩ : ∃ y, RV.length = y := ⟨_, rfl⟩
      rw [hn1] at hR ⊢
      rw [hn2, hn3]
      obtain ⟨g5, hg5⟩ : ∃ g, w4.heap.size = g := ⟨_, rfl⟩
      obtain ⟨w5, hw5⟩ : ∃ w, w4.alloc (.cells #[.slice ra n1 rc, .slice la n2 lc] 61) = w := ⟨_, rfl⟩
      have k5 : RsC w5 g5 (.slice ra n1 rc) (.slice la n2 lc) := by rw [← hw5, ← hg5]; exact heap_new' _ _
      have b5 : Below w4.heap.size w4 w5 := by rw [← hw5]; exact (Below.refl _ _).alloc (Nat.le_refl _) _
      obtain ⟨y0, y1, -, -⟩ := k5.cells
      have b35 := Below.after b4 b5
      have K5 : Hid (CuC w5 c B id len 0) := Lib.hid (below_block b35 K3.out)
      have HS5 := Lib.hid (HS3.out.below b35)
      have HB5 := Lib.hid (Below.after HB3.out b35)
      have HTX := Lib.hid (text_any HWF.out.1 HE.out (u := .slice la n2 lc) (hR.below b5) HWF.out.2.2)
      clear k5 b4 b5 b35 hR hL hI hn1 hn2 hn3 K3 HS3 HB3 HRB
      go_wp2_with fail
      clear y0 y1 hw5 hg5
      refine HTX.out.mono ?_
      rintro e w6 (⟨hs3, tv, rfl, hby, b6⟩ | ⟨-, rfl, b6⟩)
      rotate_left
      · have HB6 := Lib.hid (Below.after HB5.out b6)
        clear b6 HTX
        go_wp2_with fail
        go_ret
        exact ⟨rfl, HB6.out⟩
      rw [HT.out] at hs3 hby
      obtain ⟨ta, tc, rfl⟩ := hby.len
      rw [HLE.out] at hs3 hby ⊢
      obtain ⟨g7, hg7⟩ : ∃ g, w6.heap.size = g := ⟨_, rfl⟩
      obtain ⟨wz, hwz⟩ : ∃ w, w6.alloc zeroC = w := ⟨_, rfl⟩
      have kz : RcC wz g7 (.slice none 0 0) 0 := by rw [← hwz, ← hg7]; exact heap_new' _ _
      obtain ⟨p0, p1, p2, p3⟩ := kz.cells
      obtain ⟨w7, hw7⟩ : ∃ w, (wz.setCell ⟨g7, 0, none⟩ (.slice ta len tc)).setCell ⟨g7, 1, none⟩ (.int .i64 0) = w := ⟨_, rfl⟩
      have k7 : RcC w7 g7 (.slice ta len tc) ((0 : Nat) : Int) := by rw [← hw7]; exact kz.set _ _
      have b7 : Below w6.heap.size w6 w7 := by
        rw [← hw7, ← hwz]
        exact (((Below.refl _ _).alloc (Nat.le_refl _) _).setCell (p := ⟨g7, 0, none⟩) (by rw [hg7]; exact Nat.le_refl _) _).setCell (p := ⟨g7, 1, none⟩) (by rw [hg7]; exact Nat.le_refl _) _
      obtain ⟨y0, y1, -, -⟩ := k7.cells
      have b57 := Below.after b6 b7
      have K7 : Hid (CuC w7 c B id len 0) := Lib.hid (below_block b57 K5.out)
      have HS7 := Lib.hid (HS5.out.below b57)
      have HB7 := Lib.hid (Below.after HB5.out b57)
      have HBY := Lib.hid (SlA.mono (hby.below b7) (Nat.zero_le _))
      have HR7 := Lib.hid k7
      have HG7 : Hid (g7 ≠ c ∧ W.heap.size ≤ g7) := Lib.hid ⟨by rw [← hg7]; have := (Array.getElem?_eq_some_iff.1 (show w6.heap[c]? = _ from below_block b6 K5.out)).1; omega, by rw [← hg7]; exact (Below.after HB5.out b6).size⟩
      have HS300 : Hid (len ≤ 300) := Lib.hid hs3
      clear k7 kz b6 b7 b57 hby K5 HS5 HB5 HTX hs3
      go_wp2_with fail
      clear y0 y1 hw7 hg7 hwz p0 p1 p2 p3
      go_loopw [55] (fun iv wr => ∃ i k : Nat, iv = .int .i64 i ∧ i ≤ S.length ∧ k ≤ len ∧ CuC wr c B id len k ∧ StAt W.heap.size wr B 1000 E ∧ RcC wr g7 (.slice ta len tc) ((k : Nat) : Int) ∧ Bys 0 wr (.slice ta len tc) t ∧ Below W.heap.size W wr) (fun iv _ => S.length - (intOf iv).toNat)
      case atStart => exact ⟨0, 0, rfl, Nat.zero_le _, Nat.zero_le _, K7.out, HS7.out, HR7.out, HBY.out, HB7.out⟩
      case round =>
        clear K7 HS7 HR7 HBY HB7
        obtain ⟨i, k, rfl, hi, hk, hkc, hst, hrc, hby, hB⟩ := hrel
        have HK := Lib.hid hkc; have HS := Lib.hid hst; have HR := Lib.hid hrc; have HBY := Lib.hid hby; have HB := Lib.hid hB; have HKL := Lib.hid hk
        clear hkc hst hrc hby hB hk
        by_cases hlt : i < S.length
        · have hlt2 : (i : Int) < (S.length : Int) := by omega
          have hlt3 : (0 : Int) ≤ (i : Int) := by omega
          obtain ⟨a', cap', ha', -, -, hSi⟩ := HSC.out
          simp only [Value.slice.injEq] at ha'
          obtain ⟨rfl, -, rfl⟩ := ha'
          obtain ⟨b, rfl, hm⟩ := hSi i hlt
          generalize S[i] = x at *
          obtain ⟨x0, x1⟩ := hm.on HB.out
          obtain ⟨wz, w1, hz, hs, ka, ba, ⟨p0, p1⟩, q0, q1⟩ := newAc wr x
          obtain ⟨ga, hga⟩ : ∃ g, wr.heap.size = g := ⟨_, rfl⟩
          rw [hga] at hs p0 p1 q0 q1 ka
          obtain ⟨z0, z1⟩ := ka.cells
          have K1 : Hid (CuC w1 c B id len k) := Lib.hid (below_block ba HK.out)
          have HR1 : Hid (RcC w1 g7 (.slice ta len tc) ((k : Nat) : Int)) := Lib.hid (below_block ba HR.out)
          obtain ⟨r0, r1, -, -⟩ := HR1.out.cells
          have HS1 := Lib.hid (HS.out.below ba); have HBY1 := Lib.hid (SlA.below HBY.out ba); have HB1 := Lib.hid (Below.after HB.out ba)
          have HST := Lib.hid (step_any HS1.out HWF.out.1 HE.out K1.out HWF.out.2.2 (by rw [HT.out, HLE.out]) HKL.out (by have := HS300.out; omega) (by rw [HT.out]; exact HBY1.out) x.kind x.n)
          clear ka ba hm hSi HK HS HR HBY HB
          go_wp2_with fail
          clear hz hs p0 p1 q0 q1 x0 x1 hga z0 z1 r0 r1
          refine HST.out.mono ?_
          rintro e w2 ⟨k2, hk2, rfl, c2, b2⟩
          obtain ⟨g8, hg8⟩ : ∃ g, w2.heap.size = g := ⟨_, rfl⟩
          obtain ⟨w8, hw8⟩ : ∃ w, w2.alloc (.cells #[.slice ta len tc, .int .i64 ((k2 : Nat) : Int)] 68) = w := ⟨_, rfl⟩
          have k8 : RcC w8 g8 (.slice ta len tc) ((k2 : Nat) : Int) := by rw [← hw8, ← hg8]; exact heap_new' _ _
          have b8 : Below w2.heap.size w2 w8 := by rw [← hw8]; exact (Below.refl _ _).alloc (Nat.le_refl _) _
          have K8 : Hid (CuC w8 c B id len k2) := Lib.hid (below_block b8 c2)
          have HS8 := Lib.hid ((HS1.out.bc K1.out b2).below b8)
          have HBY8 := Lib.hid (SlA.below (Bys.bc c HBY1.out K1.out b2) b8)
          have HR8 : Hid (RcC w8 g7 (.slice ta len tc) ((k : Nat) : Int)) := Lib.hid (below_block b8 (b2.obj HG7.out.1 HR1.out))
          have HB8 := Lib.hid (Below.after (below_bc HB1.out b2 HC.out HB1.out.size) b8)
          have HN8 := Lib.hid k8
          have HG8 : Hid (g8 ≠ g7) := Lib.hid (by rw [← hg8]; have := (Array.getElem?_eq_some_iff.1 (show w2.heap[g7]? = _ from b2.obj HG7.out.1 HR1.out)).1; omega)
          have HKL2 := Lib.hid hk2
          clear c2 b2 k8 b8 HST K1 HS1 HR1 HBY1 HB1 HKL hk2
          go_wp2_with fail
          clear hw8 hg8
          have m1 : ∀ w, Below w8.heap.size w8 w → w.cell? ⟨g8, 1, none⟩ = some (.int .i64 ((k2 : Nat) : Int)) := fun w hw => (RcC.cells (below_block hw HN8.out)).2.1
          have d3 : IntKind.i64.wrap ((len : Int) - (k2 : Int)) = (len : Int) - (k2 : Int) := by rw [IntKind.wrap_i64]; have := HKL2.out; omega
          refine wp_region_anyH (Below w8.heap.size w8) (by kernel_rfl) ?_
          obtain ⟨wd, hwd⟩ : ∃ w, w8.drew = w := ⟨_, rfl⟩
          have SD : Below w8.heap.size w8 wd := by rw [← hwd]; exact (Below.refl _ _).drew
          rw [hwd]
          clear hwd
          have HCD : Hid (CuC wd c B id len k2) := Lib.hid (below_block SD K8.out)
          refine AnyH.take (i := 0) (d := some 66) (v := ?_) (by kernel_rfl) rfl rfl HF (fun _ _ _ h => h) (.inl ⟨by rfl, ?_⟩) (by first | assumption | rfl) ?_
          rotate_left
          · intro w hS; try subst hS
            go_simp; try with_reducible rfl
          try simp only [Act.put, List.setIfInBounds_toArray, List.set_cons_zero, List.set_cons_succ]
          refine AnyH.take (i := 1) (d := some 67) (v := ?_) (by kernel_rfl) rfl rfl HF (fun _ _ _ h => h) (.inl ⟨by rfl, ?_⟩) (by first | assumption | rfl) ?_
          rotate_left
          · intro w hS; try subst hS
            go_simp; try with_reducible rfl
          try simp only [Act.put, List.setIfInBounds_toArray, List.set_cons_zero, List.set_cons_succ]
          refine AnyH.take (i := 2) (d := some 68) (v := ?_) (by kernel_rfl) rfl rfl HF (fun _ _ _ h => h) (.inl ⟨by rfl, ?_⟩) (by first | assumption | rfl) ?_
          rotate_left
          · intro w hS; try subst hS
            go_simp; try with_reducible rfl
          try simp only [Act.put, List.setIfInBounds_toArray, List.set_cons_zero, List.set_cons_succ]
          refine AnyH.take (i := 3) (d := some 69) (v := ?_) (by kernel_rfl) rfl rfl HF (fun _ _ _ h => h) (.inl ⟨by rfl, ?_⟩) (by first | assumption | rfl) ?_
          rotate_left
          · intro w hS; try subst hS
            go_simp; try with_reducible rfl
          try simp only [Act.put, List.setIfInBounds_toArray, List.set_cons_zero, List.set_cons_succ]
          refine AnyH.take (i := 5) (d := some 71) (v := ?_) (by kernel_rfl) rfl rfl HF (fun _ _ _ h => h) (.inl ⟨by rfl, ?_⟩) (by first | assumption | rfl) ?_
          rotate_left
          · intro w hS; try subst hS
            go_simp; try with_reducible rfl
          try simp only [Act.put, List.setIfInBounds_toArray, List.set_cons_zero, List.set_cons_succ]
          refine AnyH.take (i := 6) (d := some 72) (v := ?_) (by kernel_rfl) rfl rfl HF (fun _ _ _ h => h) (.inl ⟨by rfl, ?_⟩) (by first | assumption | rfl) ?_
          rotate_left
          · intro w hS; try subst hS
            go_simp; try with_reducible rfl
          try simp only [Act.put, List.setIfInBounds_toArray, List.set_cons_zero, List.set_cons_succ]
          refine AnyH.one (i := 4) (by kernel_rfl) (by kernel_rfl) rfl HF (by rfl) (fun K hK => ?_)
          go_simp
          first | ((with_reducible refine And.intro ?hdep ?_); (case hdep => first | rfl | (intro h; cases h))) | skip
          refine callsIn_wide.2 ((offset_any HCD.out).mono ?_)
          rintro e w ⟨rfl, h⟩; rw [h]; clear h w
          refine hK _ _ SD ?_
          clear hK K
          try simp only [Act.put, List.setIfInBounds_toArray, List.set_cons_zero, List.set_cons_succ]
          refine AnyH.take (i := 7) (d := some 73) (v := ?_) (by kernel_rfl) rfl rfl HF (fun _ _ _ h => h) (.inl ⟨by rfl, ?_⟩) (by first | assumption | rfl) ?_
          rotate_left
          · intro w hS; try subst hS
            go_simp; try with_reducible rfl
          try simp only [Act.put, List.setIfInBounds_toArray, List.set_cons_zero, List.set_cons_succ]
          refine AnyH.take (i := 8) (d := some 74) (v := ?_) (by kernel_rfl) rfl rfl HF (fun _ _ _ h => h) (.inl ⟨by rfl, ?_⟩) (by first | assumption | rfl) ?_
          rotate_left
          · intro w hS; try subst hS
            go_simp; try with_reducible rfl
          try simp only [Act.put, List.setIfInBounds_toArray, List.set_cons_zero, List.set_cons_succ]
          refine AnyH.take (i := 9) (d := some 75) (v := ?_) (by kernel_rfl) rfl rfl HF (fun _ _ _ h => h) (.inl ⟨by rfl, ?_⟩) (by first | assumption | rfl) ?_
          rotate_left
          · intro w hS; try subst hS
            go_simp; try with_reducible rfl
          try simp only [Act.put, List.setIfInBounds_toArray, List.set_cons_zero, List.set_cons_succ]
          refine AnyH.take (i := 10) (d := some 76) (v := ?_) (by kernel_rfl) rfl rfl HF (fun _ _ _ h => h) (.inl ⟨by rfl, ?_⟩) (by first | assumption | rfl) ?_
          rotate_left
          · intro w hS; try subst hS
            go_simp; try with_reducible rfl
          try simp only [Act.put, List.setIfInBounds_toArray, List.set_cons_zero, List.set_cons_succ]
          refine AnyH.take (i := 12) (d := some 78) (v := ?_) (by kernel_rfl) rfl rfl HF (fun _ _ _ h => h) (.inl ⟨by rfl, ?_⟩) (by first | assumption | rfl) ?_
          rotate_left
          · intro w hS; try subst hS
            go_simp; try with_reducible rfl
          try simp only [Act.put, List.setIfInBounds_toArray, List.set_cons_zero, List.set_cons_succ]
          refine AnyH.take (i := 13) (d := some 79) (v := ?_) (by kernel_rfl) rfl rfl HF (fun _ _ _ h => h) (.inl ⟨by rfl, ?_⟩) (by first | assumption | rfl) ?_
          rotate_left
          · intro w hS; try subst hS
            go_simp; try with_reducible rfl
          try simp only [Act.put, List.setIfInBounds_toArray, List.set_cons_zero, List.set_cons_succ]
          refine AnyH.one (i := 11) (by kernel_rfl) (by kernel_rfl) rfl HF (by rfl) (fun K hK => ?_)
          go_simp
          first | ((with_reducible refine And.intro ?hdep ?_); (case hdep => first | rfl | (intro h; cases h))) | skip
          refine callsIn_wide.2 ((length_any HCD.out).mono ?_)
          rintro e w ⟨rfl, h⟩; rw [h]; clear h w
          refine hK _ _ SD ?_
          clear hK K
          try simp only [Act.put, List.setIfInBounds_toArray, List.set_cons_zero, List.set_cons_succ]
          refine AnyH.take (i := 14) (d := some 80) (v := ?_) (by kernel_rfl) rfl rfl HF (fun _ _ _ h => h) (.inl ⟨by rfl, ?_⟩) (by first | assumption | rfl) ?_
          rotate_left
          · intro w hS; try subst hS
            go_simp; try with_reducible rfl
          try simp only [Act.put, List.setIfInBounds_toArray, List.set_cons_zero, List.set_cons_succ]
          refine AnyH.take (i := 15) (d := some 81) (v := ?_) (by kernel_rfl) rfl rfl HF (fun _ _ _ h => h) (.inl ⟨by rfl, ?_⟩) (by first | assumption | rfl) ?_
          rotate_left
          · intro w hS; try subst hS
            go_simp; try with_reducible rfl
          try simp only [Act.put, List.setIfInBounds_toArray, List.set_cons_zero, List.set_cons_succ]
          refine AnyH.take (i := 16) (d := some 82) (v := ?_) (by kernel_rfl) rfl rfl HF (fun _ _ _ h => h) (.inl ⟨by rfl, ?_⟩) (by first | assumption | rfl) ?_
          rotate_left
          · intro w hS; try subst hS
            go_simp; try with_reducible rfl
          try simp only [Act.put, List.setIfInBounds_toArray, List.set_cons_zero, List.set_cons_succ]
          refine AnyH.take (i := 17) (d := some 83) (v := ?_) (by kernel_rfl) rfl rfl HF (fun _ _ _ h => h) (.inl ⟨by rfl, ?_⟩) (by first | assumption | rfl) ?_
          rotate_left
          · intro w hS; try subst hS
            go_simp; try with_reducible rfl
          try simp only [Act.put, List.setIfInBounds_toArray, List.set_cons_zero, List.set_cons_succ]
          refine AnyH.take (i := 19) (d := some 85) (v := ?_) (by kernel_rfl) rfl rfl HF (fun _ _ _ h => h) (.inl ⟨by rfl, ?_⟩) (by first | assumption | rfl) ?_
          rotate_left
          · intro w hS; try subst hS
            go_simp; try with_reducible rfl
          try simp only [Act.put, List.setIfInBounds_toArray, List.set_cons_zero, List.set_cons_succ]
          refine AnyH.take (i := 20) (d := some 86) (v := ?_) (by kernel_rfl) rfl rfl HF (fun _ _ _ h => h) (.inl ⟨by rfl, ?_⟩) (by first | assumption | rfl) ?_
          rotate_left
          · intro w hS; try subst hS
            go_simp; try with_reducible rfl
          try simp only [Act.put, List.setIfInBounds_toArray, List.set_cons_zero, List.set_cons_succ]
          refine AnyH.take (i := 21) (d := some 87) (v := ?_) (by kernel_rfl) rfl rfl HF (fun _ _ _ h => h) (.inl ⟨by rfl, ?_⟩) (by first | assumption | rfl) ?_
          rotate_left
          · intro w hS; try subst hS
            go_simp; try with_reducible rfl
          try simp only [Act.put, List.setIfInBounds_toArray, List.set_cons_zero, List.set_cons_succ]
          refine AnyH.take (i := 22) (d := some 88) (v := ?_) (by kernel_rfl) rfl rfl HF (fun _ _ _ h => h) (.inl ⟨by rfl, ?_⟩) (by first | assumption | rfl) ?_
          rotate_left
          · intro w hS; try subst hS
            go_simp; try with_reducible rfl
          try simp only [Act.put, List.setIfInBounds_toArray, List.set_cons_zero, List.set_cons_succ]
          refine AnyH.take (i := 23) (d := some 89) (v := ?_) (by kernel_rfl) rfl rfl HF (fun _ _ _ h => h) (.inl ⟨by rfl, ?_⟩) (by first | assumption | rfl) ?_
          rotate_left
          · intro w hS; try subst hS
            go_simp; try with_reducible rfl
          try simp only [Act.put, List.setIfInBounds_toArray, List.set_cons_zero, List.set_cons_succ]
          refine AnyH.one (i := 18) (by kernel_rfl) (by kernel_rfl) rfl HF (by rfl) (fun K hK => ?_)
          go_simp
          first | ((with_reducible refine And.intro ?hdep ?_); (case hdep => first | rfl | (intro h; cases h))) | skip
          refine callsIn_wide.2 ((left_any HCD.out HKL2.out hlen).mono ?_)
          rintro e w9 ⟨rfl, b9⟩
          have SD9 := Below.after SD b9
          clear b9
          refine hK _ _ SD9 ?_
          clear hK K
          try simp only [Act.put, List.setIfInBounds_toArray, List.set_cons_zero, List.set_cons_succ]
          refine AnyH.take (i := 24) (d := some 90) (v := ?_) (by kernel_rfl) rfl rfl HF (fun _ _ _ h => h) (.inl ⟨by rfl, ?_⟩) (by first | assumption | rfl) ?_
          rotate_left
          · intro w hS; try subst hS
            go_simp; try with_reducible rfl
          try simp only [Act.put, List.setIfInBounds_toArray, List.set_cons_zero, List.set_cons_succ]
          refine AnyH.take (i := 25) (d := some 91) (v := ?_) (by kernel_rfl) rfl rfl HF (fun _ _ _ h => h) (.inl ⟨by rfl, ?_⟩) (by first | assumption | rfl) ?_
          rotate_left
          · intro w hS; try subst hS
            go_simp; try with_reducible rfl
          try simp only [Act.put, List.setIfInBounds_toArray, List.set_cons_zero, List.set_cons_succ]
          refine AnyH.done (by kernel_rfl) ?_
          obtain ⟨y0, y1, -, -⟩ := RcC.cells (show RcC w9 g8 (.slice ta len tc) ((k2 : Nat) : Int) from below_block SD9 HN8.out)
          have HR9 : Hid (RcC w9 g7 (.slice ta len tc) ((k : Nat) : Int)) := Lib.hid (below_block SD9 HR8.out)
          obtain ⟨z0, z1, z2, z3⟩ := HR9.out.cells
          obtain ⟨wf, hwf⟩ : ∃ w, (w9.setCell ⟨g7, 0, none⟩ (.slice ta len tc)).setCell ⟨g7, 1, none⟩ (.int .i64 ((k2 : Nat) : Int)) = w := ⟨_, rfl⟩
          have HZ : Hid (CuC wf c B id len k2 ∧ StAt W.heap.size wf B 1000 E ∧ RcC wf g7 (.slice ta len tc) ((k2 : Nat) : Int) ∧ Bys 0 wf (.slice ta len tc) t ∧ Below W.heap.size W wf) := Lib.hid (by
            have e1 : ∀ u, RcC (w9.setCell ⟨g7, 0, none⟩ u) g7 u ((k : Nat) : Int) := fun u => by
              have h := HR9.out
              unfold RcC at h ⊢
              exact heap_set0 _ h
            rw [← hwf]
            refine ⟨set_other (Ne.symm HG7.out.1) (set_other (Ne.symm HG7.out.1) (below_block SD9 K8.out)), ((HS8.out.below SD9).set HR9.out (by decide) (by decide) _).set (e1 _) (by decide) (by decide) _, HR9.out.set _ _, SlA.setCell (a := ⟨g7, 1, none⟩) (SlA.setCell (a := ⟨g7, 0, none⟩) (SlA.below HBY8.out SD9) _ HR9.out (by decide)) _ (e1 _) (by decide), ?_⟩
            exact ((Below.after HB8.out SD9).setCell (p := ⟨g7, 0, none⟩) HG7.out.2 _).setCell (p := ⟨g7, 1, none⟩) HG7.out.2 _)
          clear m1 d3 SD SD9 HCD K8 HS8 HBY8 HR8 HB8 HN8 HR9
          go_wp2_with fail
          clear y0 y1 z0 z1 z2 z3 hwf
          go_roundw
          case rel => exact ⟨i + 1, k2, by go_num, by omega, HKL2.out, HZ.out⟩
          case measure => first | (simp [intOf]; omega) | simp [intOf]
        · have hlt2 : ¬ (i : Int) < (S.length : Int) := by omega
          go_wp2_with fail
          go_ret
          exact ⟨rfl, HB.out⟩
    · have hsl2 : (S.length : Int) > 200 := by omega
      go_enter Try.func7, Try.ntmps7
      go_wp2_with fail
      go_ret
      exact ⟨rfl, Below.refl _ _⟩
  · have hl2 : (M.length : Int) > 100 := by omega
    go_enter Try.func7, Try.ntmps7
    go_wp2_with fail
    go_ret
    exact ⟨rfl, Below.refl _ _⟩
end M
end Go.Proofs.Ytjbllcakaljpgaa
