/- The law's begun: a store with the rules of a list, a cursor. -/
import Derived.Test.YtjbllcakaljpgaaCur0
import Derived.Test.YtjbllcakaljpgaaStoreNew
import Derived.Test.YtjbllcakaljpgaaCur2
import Derived.Test.YtjbllcakaljpgaaLawBuild
namespace Go.Proofs.Ytjbllcakaljpgaa
open Go.RowKit Go.Lib
namespace M
attribute [local go_sem] Oper.semAt_some
set_option maxRecDepth 100000 in
set_option maxHeartbeats 1000000 in
theorem cnew_any {n0 B most : Nat} {W : World} {E : List En} (h : StAt n0 W B most E) {i : Nat} (hi : i ≤ E.length) (hE : E.length ≤ 1048576) :
    Calls Try.prog 35 #[.pointer (some ⟨B, 0, none⟩), .int .i64 i] W fun e w' => ∃ c, e = .returned (.tuple #[.pointer (some ⟨c, 0, none⟩), .nilIface]) ∧ W.heap.size ≤ c ∧ CuC w' c B i (entAt E i).w.len 0 ∧ Below W.heap.size W w' := by
  have HW := Lib.hid (weight_any h hi hE)
  obtain ⟨u, hu⟩ : ∃ u, (entAt E i).w = u := ⟨_, rfl⟩
  rw [hu] at HW ⊢
  unfold wtV at HW
  clear hu h
  go_enter Try.func35, Try.ntmps35
  go_wp2_with fail
  refine HW.out.mono ?_; rintro e w1 ⟨rfl, b1⟩
  obtain ⟨wg, hwg⟩ : ∃ g, w1.heap.size = g := ⟨_, rfl⟩
  obtain ⟨Ww, hWw⟩ : ∃ w, w1.alloc (.cells #[.int .i64 0, .int .i64 0, .int .i64 0, .int .i64 0, .int .u64 0, .int .u64 0] 52) = w := ⟨_, rfl⟩
  have kw0 : WtC Ww wg w0 := by rw [← hWw, ← hwg]; exact heap_new' _ _
  have bw0 : Below w1.heap.size w1 Ww := by rw [← hWw]; exact (Below.refl _ _).alloc (Nat.le_refl _) _
  obtain ⟨p0, p1, p2, p3, p4, p5⟩ := kw0.cells
  have q0 := kw0.free 0; have q1 := kw0.free 1; have q2 := kw0.free 2; have q3 := kw0.free 3; have q4 := kw0.free 4; have q5 := kw0.free 5
  simp only [w0] at p0 p1 p2 p3 p4 p5
  obtain ⟨w2, hw2⟩ : ∃ w, setW Ww wg u = w := ⟨_, rfl⟩
  have k2 : WtC w2 wg u := by rw [← hw2]; exact kw0.set u
  have b2 : Below w1.heap.size w1 w2 := by rw [← hw2]; exact setW_below bw0 (by omega) u
  simp only [setW] at hw2
  obtain ⟨x0, x1, x2, x3, x4, x5⟩ := k2.cells
  have B2 := Lib.hid (Below.after b1 b2)
  clear kw0 bw0 k2 b1 b2
  go_wp2_with fail
  go_ret2
  exact ⟨_, rfl, B2.out.size, heap_new' _ _, B2.out.alloc B2.out.size _⟩
end M
end Go.Proofs.Ytjbllcakaljpgaa
namespace Go.Proofs.Ytjbllcakaljpgaa
open Go.RowKit Go.Lib
namespace M
attribute [local go_sem] Oper.semAt_some
theorem StAt.mono {n0 n1 B most : Nat} {W : World} {E : List En} (h : StAt n1 W B most E) (hn : n0 ≤ n1) : StAt n0 W B most E := by
  obtain ⟨lv, mb, h1, h2, h3, h4, h5⟩ := h
  exact ⟨lv, mb, h1, h2.mono hn, h3, Nat.le_trans hn h4, Nat.le_trans hn h5⟩
theorem addF_first (b : Nat) : addF [] (letE b) = ([letE b], 1) := rfl
/-- What has begun. -/
def BegunP (W : World) (M : List Mk) (n : Int) (e : Ending) (w' : World) : Prop := ∃ B c, e = .returned (.tuple #[.pointer (some ⟨B, 0, none⟩), .pointer (some ⟨c, 0, none⟩), .int .i64 (resAt (bldF M [] [0]).2 n), .bool true]) ∧ StAt W.heap.size w' B 1000 (bldF M [] [0]).1 ∧ CuC w' c B (resAt (bldF M [] [0]).2 n) (entAt (bldF M [] [0]).1 (resAt (bldF M [] [0]).2 n)).w.len 0 ∧ W.heap.size ≤ c ∧ Below W.heap.size W w'
set_option maxRecDepth 100000 in
set_option maxHeartbeats 4000000 in
theorem begun_any {W : World} {v : Value} {M : List Mk} (hM : RowMk W v M) (hl : M.length ≤ 100) (n : Int) : Calls Try.prog 11 #[v, .int .i64 n] W (BegunP W M n) := by
  have HF : ∀ f, Fence.wide.fn f := fun _ => trivial
  have H := Lib.hid hM
  obtain ⟨a, cap, rfl, hc1, hc2, hlt, -⟩ := hM
  have HBW : Hid (Wf (bldF M [] [0]).1 ∧ (bldF M [] [0]).1.length ≤ M.length ∧ (bldF M [] [0]).2.length = 1 + M.length ∧ ∀ x ∈ (bldF M [] [0]).2, x ≤ (bldF M [] [0]).1.length) := Lib.hid (by
    have := bldF_wf M (E := []) (R := [0]) .nil (by simp) (fun m hm => (hlt m hm).1)
    simpa using this)
  unfold BegunP
  have HLB := Lib.hid (fun (W1 : World) (B : Nat) (hb : Below W.heap.size W W1) (h : StAt W.heap.size W1 B 1000 []) => lawBuild_any H.out (by omega) hb h (by omega) (by omega))
  obtain ⟨A, hA⟩ : ∃ A, bldF M [] [0] = A := ⟨_, rfl⟩
  simp only [hA] at HBW HLB ⊢
  obtain ⟨E, S⟩ := A
  dsimp only at HBW HLB ⊢
  obtain ⟨id, hid⟩ : ∃ i, resAt S n = i := ⟨_, rfl⟩
  rw [hid]
  have HID := Lib.hid hid
  clear hA hlt hc1 hc2 hid
  go_enter Try.func11, Try.ntmps11
  go_wp2_with fail
  have HS := Lib.hid (snew_any W 10 (by omega))
  rw [show ((10 : Nat) : Int) = 10 from rfl] at HS
  refine HS.out.mono ?_
  rintro e w1 ⟨B1, rfl, s1, b1⟩
  clear HS
  have B1' := Lib.hid b1
  have HLT := Lib.hid (letter_any (s1.mono (Nat.le_refl W.heap.size)) 97 (by omega) (by simp) (by simp))
  rw [addF_first, show ((97 : Nat) : Int) = 97 from rfl] at HLT
  clear s1 b1
  go_wp2_with fail
  refine HLT.out.mono ?_
  rintro e w2 ⟨rfl, s2, b2, -⟩
  have HB2 := Lib.hid (B1'.out.trans b2)
  have hwf1 : Wf [letE 97] := .snoc (E := []) .nil (letE_ok [] (by omega))
  have HCN := Lib.hid (cnew_any s2 (i := 1) (by simp) (by simp))
  have hS2 := Lib.hid s2
  clear s2 b2 HLT
  rw [show (entAt [letE 97] 1).w.len = 1 from rfl] at HCN
  go_wp2_with fail
  refine HCN.out.mono ?_
  rintro e w3 ⟨c, rfl, hc, k3, b3⟩
  clear HCN
  have HB3 := Lib.hid (HB2.out.trans (b3.mono HB2.out.size))
  have HS3 := Lib.hid (hS2.out.below b3)
  have HL3 := Lib.hid (length_any k3)
  rw [show ((1 : Nat) : Int) = 1 from rfl] at HL3
  have HN3 := Lib.hid (next_some HS3.out hwf1 (by simp) (id := 1) (k := 0) (b := 97) k3 (by simp) (by omega) (by omega) rfl)
  rw [show ((97 : Nat) : Int) = 97 from rfl] at HN3
  have K3 := Lib.hid k3; have HC := Lib.hid hc
  clear b3 k3 hc
  go_wp2_with fail
  refine HL3.out.mono ?_; rintro e w ⟨rfl, h⟩; rw [h]; clear h w
  go_wp2_with fail
  refine HN3.out.mono ?_
  rintro e w ⟨rfl, w4, b4, rfl⟩
  have k4 : CuC (w4.setCell ⟨c, 3, none⟩ (.int .i64 ((0 + 1 : Nat) : Int))) c B1 1 1 1 := CuC.move (below_block b4 K3.out) 1
  have HO := Lib.hid (offset_any k4)
  have hc0 : W.heap.size ≤ c := Nat.le_trans HB2.out.size HC.out
  have b5 : Below W.heap.size W (w4.setCell ⟨c, 3, none⟩ (.int .i64 ((0 + 1 : Nat) : Int))) := (HB3.out.trans (b4.mono HB3.out.size)).setCell (p := ⟨c, 3, none⟩) hc0 _
  obtain ⟨w5, hw5⟩ : ∃ w, w4.setCell ⟨c, 3, none⟩ (.int .i64 ((0 + 1 : Nat) : Int)) = w := ⟨_, rfl⟩
  rw [hw5] at HO b5 ⊢
  rw [show ((1 : Nat) : Int) = 1 from rfl] at HO
  have HB5 := Lib.hid b5
  clear b4 k4 b5 hw5 HL3 HN3 hc0
  go_wp2_with fail
  refine HO.out.mono ?_; rintro e w ⟨rfl, h⟩; rw [h]; clear h w
  have HS5 := Lib.hid (snew_any w5 1000 (by omega))
  rw [show ((1000 : Nat) : Int) = 1000 from rfl] at HS5
  go_wp2_with fail
  refine HS5.out.mono ?_
  rintro e w6 ⟨B, rfl, s6, b6⟩
  have HB6 := Lib.hid (HB5.out.trans (b6.mono HB5.out.size))
  have s6' : StAt W.heap.size w6 B 1000 [] := s6.mono HB5.out.size
  have HLB6 := Lib.hid (HLB.out w6 B HB6.out s6')
  clear s6 b6 s6'
  go_wp2_with fail
  refine HLB6.out.mono ?_
  rintro e w7 ⟨rv, rfl, hI, s7, b7⟩
  dsimp only at hI s7
  have hp := pk_lt n (show 0 < S.length by have := HBW.out.2.2.1; omega)
  obtain ⟨g, cp, rfl, -, -, hcell⟩ := hI.at hp
  have c0 := hcell w7 (Below.refl _ _) _ hp
  have HR : Hid (resAt S n = S[pk n S.length]) := Lib.hid (by unfold resAt; rw [List.getElem?_eq_getElem hp]; rfl)
  have HX : Hid (resAt S n ≤ E.length) := Lib.hid (by rw [HR.out]; exact HBW.out.2.2.2 _ (List.getElem_mem hp))
  rw [← HR.out, HID.out] at c0
  rw [HID.out] at HX
  have HPK := Lib.hid (pick_any w7 n S.length (by have := HBW.out.2.2.1; omega) (by have := HBW.out.2.2.1; omega))
  rw [pk_cast n (show 0 < S.length by have := HBW.out.2.2.1; omega)] at HPK
  have HCN := Lib.hid (cnew_any s7 (i := id) HX.out (by have := HBW.out.2.1; omega))
  have HS7 := Lib.hid s7; have HB7 := Lib.hid b7
  have hpi : ((pk n S.length : Nat) : Int) < (S.length : Int) := by omega
  generalize pk n S.length = p at *
  clear hcell HR hI s7 b7 hp
  go_wp2_with fail
  refine HPK.out.mono ?_; rintro e w ⟨rfl, h⟩; rw [h]; clear h w
  go_wp2_with fail
  refine HCN.out.mono ?_
  rintro e w8 ⟨c8, rfl, hc8, k8, b8⟩
  have HB8 := Lib.hid (HB7.out.trans (b8.mono HB7.out.size))
  have HS8 := Lib.hid (HS7.out.below b8)
  have K8 := Lib.hid k8; have HC8 := Lib.hid hc8
  clear b8 k8 hc8 c0
  go_wp2_with fail
  exact bodyPost_ret (v := .tuple #[.pointer (some ⟨B, 0, none⟩), .pointer (some ⟨c8, 0, none⟩), .int .i64 id, .bool true]) (by simp [results, Try.results11, go_sem]) rfl ⟨_, _, rfl, HS8.out, K8.out, Nat.le_trans HB7.out.size HC8.out, HB8.out⟩
end M
end Go.Proofs.Ytjbllcakaljpgaa
