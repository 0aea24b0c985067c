/- The player's begin. -/
import Derived.Test.YtlfodhejpbjfcaaPlayIs
import Derived.Test.YtlfodhejpbjfcaaCom2
set_option linter.unusedVariables false
set_option linter.unusedSimpArgs false
namespace Go.Proofs.Ytlfodhejpbjfcaa
open Go.RowKit
namespace S
attribute [local go_sem] Oper.semAt_some
/-- What begin answers. -/
def BeginPost (W : World) (L : List (ByteArray × Int)) (e : Ending) (w' : World) : Prop :=
  ((newR L []).1 = 0 ∧ ∃ p b m q s, e = .returned (.tuple #[.pointer (some ⟨p, 0, none⟩), .bool true, .bool true]) ∧ W.heap.size ≤ p ∧ W.heap.size ≤ b ∧ W.heap.size ≤ m ∧
    PlC w' p b s (fun _ => none) (fun _ => (0, sl0, sl0, sl0, false)) ∧ BxAt w' ⟨b, m, 0, q, (newF L .nil).2, []⟩ ∧ VersAt w' (slV s) [((newR L []).2, [])] ∧ Below W.heap.size W w') ∨
  ((newR L []).1 ≠ 0 ∧ ∃ p : Option Addr, e = .returned (.tuple #[.pointer p, .bool false, .bool true]) ∧ Below W.heap.size W w')
set_option maxRecDepth 100000 in
set_option maxHeartbeats 4000000 in
theorem begin11_any {W : World} {v : Value} {L : List (ByteArray × Int)} (hL : RowNm W v L) (hl : L.length ≤ 1000) :
    Calls Try.prog 11 #[v] W (BeginPost W L) := by
  have H := Lib.hid hL
  have hq := (inv_new L 0 0 none).1
  obtain ⟨c, hc⟩ : ∃ c, (newR L []).1 = c := ⟨_, rfl⟩
  have HC := Lib.hid hc
  have HQ := Lib.hid (hq.trans hc)
  have HN := Lib.hid (New_any hL hl)
  clear hL hq hc
  go_enter Try.func11, Try.ntmps11
  go_wp2_with fail
  refine HN.out.mono ?_
  rintro e w1 hp
  have HR := fun (hb : Below W.heap.size W w1) => Lib.hid (refNew_any (H.out.below hb) hl)
  have hHR := Lib.hid HR
  clear HR HN
  rcases hp with ⟨h0, b, m, q, rfl, g1, g2, k1, k2, k3, hb⟩ | ⟨h0, rfl, hb⟩
  · have hc0 : c = 0 := by rw [← HQ.out]; exact h0
    subst hc0
    have HR := hHR.out hb
    have HB1 := Lib.hid hb; have HX1 := Lib.hid (show BxAt w1 ⟨b, m, 0, q, (newF L .nil).2, []⟩ from ⟨k1, k2, k3⟩); have HG := Lib.hid (And.intro g1 g2)
    clear h0 g1 g2 k1 k2 k3 hb hHR
    go_wp2_with fail
    refine HR.out.mono ?_
    rintro e w2 ⟨v2, he, hV, ⟨sa, sn, sc, rfl⟩, hb2⟩
    rw [HC.out] at he
    subst he
    have HV2 := Lib.hid (hV HC.out)
    have HB2 := Lib.hid (Below.step HB1.out hb2); have HX2 := Lib.hid (HX1.out.below hb2)
    clear hV hb2
    obtain ⟨wy, hwy⟩ : ∃ w, w2.alloc (.cells #[.slice none 0 0] 35) = w := ⟨_, rfl⟩
    have hby : Below w2.heap.size w2 wy := by rw [← hwy]; exact (Below.refl _ _).alloc (Nat.le_refl _) _
    have ky : BxC wy w2.heap.size (none, 0, 0) := by rw [← hwy]; exact heap_new _ _
    obtain ⟨y0, y1⟩ := ky.cells
    simp only [slV] at y0
    obtain ⟨w3, hw3⟩ : ∃ w, wy.setCell ⟨w2.heap.size, 0, none⟩ (.slice sa sn sc) = w := ⟨_, rfl⟩
    have k3 : BxC w3 w2.heap.size (sa, sn, sc) := by rw [← hw3]; exact ky.put (sa, sn, sc)
    have hb3 : Below w2.heap.size w2 w3 := by rw [← hw3]; exact hby.setCell (p := ⟨w2.heap.size, 0, none⟩) (Nat.le_refl _) _
    obtain ⟨z0, -⟩ := k3.cells
    simp only [slV] at z0
    have HB3 := Lib.hid (Below.step HB2.out hb3); have HX3 := Lib.hid (HX2.out.below hb3); have HV3 := Lib.hid (HV2.out.below hb3)
    clear hby ky k3 hb3
    go_wp2_with fail
    refine (num_nil w3).mono ?_; rintro e w4 ⟨rfl, h⟩; rw [h]; clear h w4
    clear y0 y1 hw3 hwy
    go_wp2_with fail
    refine (bodyPost_ret (v := .tuple #[.pointer (some ⟨w3.heap.size, 0, none⟩), .bool true, .bool true]) (by simp [results, Try.results11, go_sem]) rfl ?_)
    have hbf : Below w3.heap.size w3 (w3.alloc (.cells (plCells b (sa, sn, sc) (fun _ => none) (fun _ => (0, sl0, sl0, sl0, false))).toArray 43)) := (Below.refl _ _).alloc (Nat.le_refl _) _
    have hpc : PlC (w3.alloc (.cells (plCells b (sa, sn, sc) (fun _ => none) (fun _ => (0, sl0, sl0, sl0, false))).toArray 43)) w3.heap.size b (sa, sn, sc) (fun _ => none) (fun _ => (0, sl0, sl0, sl0, false)) := heap_new _ _
    exact .inl ⟨HC.out, w3.heap.size, b, m, q, (sa, sn, sc), rfl, HB3.out.size, HG.out.1, HG.out.2, hpc, HX3.out.below hbf, HV3.out.below hbf, Below.step HB3.out hbf⟩
  · have hc0 : c ≠ 0 := by rw [← HQ.out]; exact h0
    have hcb : (c != 0) = true := by simpa using hc0
    have hce : (c == 0) = false := by simpa using hc0
    have HC0 := Lib.hid hc0
    rw [HQ.out]
    have HR := hHR.out hb
    have HB1 := Lib.hid hb
    clear h0 hb hHR hc0
    go_wp2_with fail
    refine HR.out.mono ?_
    rintro e w2 ⟨v2, he, -, ⟨sa, sn, sc, rfl⟩, hb2⟩
    rw [HC.out] at he
    subst he
    have HB2 := Lib.hid (Below.step HB1.out hb2)
    clear hb2
    obtain ⟨wy, hwy⟩ : ∃ w, w2.alloc (.cells #[.slice none 0 0] 35) = w := ⟨_, rfl⟩
    have hby : Below w2.heap.size w2 wy := by rw [← hwy]; exact (Below.refl _ _).alloc (Nat.le_refl _) _
    have ky : BxC wy w2.heap.size (none, 0, 0) := by rw [← hwy]; exact heap_new _ _
    obtain ⟨y0, y1⟩ := ky.cells
    simp only [slV] at y0
    obtain ⟨w3, hw3⟩ : ∃ w, wy.setCell ⟨w2.heap.size, 0, none⟩ (.slice sa sn sc) = w := ⟨_, rfl⟩
    have k3 : BxC w3 w2.heap.size (sa, sn, sc) := by rw [← hw3]; exact ky.put (sa, sn, sc)
    have hb3 : Below w2.heap.size w2 w3 := by rw [← hw3]; exact hby.setCell (p := ⟨w2.heap.size, 0, none⟩) (Nat.le_refl _) _
    obtain ⟨z0, -⟩ := k3.cells
    simp only [slV] at z0
    have HB3 := Lib.hid (Below.step HB2.out hb3)
    clear hby ky k3 hb3
    go_wp2_with fail
    refine (num_err w3 c).mono ?_; rintro e w4 ⟨rfl, h⟩; rw [h]; clear h w4
    clear y0 y1 hw3 hwy
    go_wp2_with fail
    refine (bodyPost_ret (v := .tuple #[.pointer (some ⟨w3.heap.size, 0, none⟩), .bool false, .bool true]) (by simp [results, Try.results11, go_sem]) rfl ?_)
    exact .inr ⟨by rw [HC.out]; exact HC0.out, _, rfl, HB3.out.alloc HB3.out.size _⟩
end S
end Go.Proofs.Ytlfodhejpbjfcaa
