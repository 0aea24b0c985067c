/- The moves: anchor. -/
import Derived.Test.YtplccefjljdjnaaLetter
set_option linter.unusedVariables false
set_option linter.unusedSimpArgs false
namespace Go.Proofs.Ytplccefjljdjnaa
open Go.RowKit Go.Lib
namespace M
attribute [local go_sem] Oper.semAt_some
/-- An anchor in a box. -/
def AnC (W : World) (g : Nat) (x : Int) (r : Bool) : Prop := W.heap[g]? = some (.cells #[.int .i64 x, .bool r] 33 (0, 0))
theorem AnC.cells {W : World} {g : Nat} {x : Int} {r : Bool} (h : AnC W g x r) : W.cell? ⟨g, 0, none⟩ = some (.int .i64 x) ∧ W.cell? ⟨g, 1, none⟩ = some (.bool r) ∧ W.frozen? ⟨g, 0, none⟩ = false ∧ W.frozen? ⟨g, 1, none⟩ = false := by
  unfold AnC at h
  simp [World.cell?, World.frozen?, h]
theorem AnC.set {W : World} {g : Nat} {x : Int} {r : Bool} (h : AnC W g x r) (y : Int) (q : Bool) : AnC ((W.setCell ⟨g, 0, none⟩ (.int .i64 y)).setCell ⟨g, 1, none⟩ (.bool q)) g y q := by
  unfold AnC at h ⊢
  exact heap_set0 _ (heap_set0 _ h)
/-- Letters lie within so much. -/
def InB (M : List Mv) : Prop := ∀ m ∈ M, (-1152921504606846976 ≤ m.to ∧ m.to ≤ 1152921504606846976) ∧ (-2305843009213693952 ≤ m.nt ∧ m.nt ≤ 2305843009213693952) ∧ (-2305843009213693952 ≤ m.nf ∧ m.nf ≤ 2305843009213693952)
theorem letG_in {M : List Mv} (h : InB M) {x : Int} (hx : 0 ≤ x ∧ x ≤ 1152921504606846976) : -4611686018427387904 ≤ (letG 0 M x).1 ∧ (letG 0 M x).1 ≤ 4611686018427387904 := by
  unfold letG
  split
  · dsimp only; omega
  · rename_i m hm
    have hmem : m ∈ M := (List.takeWhile_sublist _).subset (List.mem_of_getLast? hm)
    obtain ⟨a, b, c⟩ := h m hmem
    split <;> (dsimp only; omega)
set_option maxRecDepth 100000 in
set_option maxHeartbeats 4000000 in
theorem anchor_any {b0 : Nat} {W : World} {v : Value} {nl len x : Int} {right : Bool} {M : List Mv} (hM : Mvs b0 W v M) (hS : M.Pairwise (fun a b => a.to < b.frm ∧ a.frm ≤ b.frm)) (hl : M.length ≤ 1000000) (hx : 0 ≤ x ∧ x ≤ len ∧ len ≤ 1152921504606846976) (hB : InB M) :
    Calls Try.prog 42 #[.agg #[v, .int .i64 nl], .int .i64 len, .agg #[.int .i64 x, .bool right]] W fun e w' => e = .returned (.tuple #[.agg #[.int .i64 (ancF M nl len x right).1, .bool right], .bool (ancF M nl len x right).2]) ∧ Below W.heap.size W w' := by
  obtain ⟨va, vc, rfl⟩ := hM.len
  obtain ⟨W1, hW1⟩ : ∃ w, ((W.alloc (.cells #[.slice va M.length vc, .int .i64 nl] 96)).alloc (.cells #[.int .i64 x, .bool right] 33)).alloc (.cells #[.int .i64 0, .bool false] 33) = w := ⟨_, rfl⟩
  have b1 : Below W.heap.size W W1 := by rw [← hW1]; exact (((Below.refl _ W).alloc (Nat.le_refl _) _).alloc (by simp) _).alloc (by simp; omega) _
  have k1 : MsC W1 W.heap.size (.slice va M.length vc) nl := by rw [← hW1]; exact below_block ((Below.refl _ _).alloc (Nat.le_refl _) _) (below_block ((Below.refl _ _).alloc (Nat.le_refl _) _) (heap_new' W _))
  have k2 : AnC W1 (W.heap.size + 1) x right := by
    rw [← hW1]
    have := heap_new' (W.alloc (.cells #[.slice va M.length vc, .int .i64 nl] 96)) (.cells #[.int .i64 x, .bool right] 33)
    rw [World.size_alloc] at this
    exact below_block ((Below.refl _ _).alloc (Nat.le_refl _) _) this
  have k3 : AnC W1 (W.heap.size + 1 + 1) 0 false := by
    rw [← hW1]
    have := heap_new' ((W.alloc (.cells #[.slice va M.length vc, .int .i64 nl] 96)).alloc (.cells #[.int .i64 x, .bool right] 33)) (.cells #[.int .i64 0, .bool false] 33)
    rw [World.size_alloc, World.size_alloc] at this
    exact this
  obtain ⟨c0, c1, -, -⟩ := k1.cells
  obtain ⟨d0, d1, -, -⟩ := k2.cells
  obtain ⟨e0, e1, f0, f1⟩ := k3.cells
  have HM := Lib.hid (hM.below b1); have K3 := Lib.hid k3; have B1 := Lib.hid b1
  have HL := Lib.hid (fun (w : World) (y : Int) (hw : Below W1.heap.size W1 w) (hy : 0 ≤ y ∧ y ≤ 1152921504606846976) => letter_any' (n := nl) (SlA.below HM.out hw) hS hl hy (fun m hm => ⟨(hB m hm).1, (hB m hm).2.1⟩))
  have HIN := Lib.hid (fun y hy => letG_in hB (x := y) hy)
  obtain ⟨res, hres⟩ : ∃ r, ancF M nl len x right = r := ⟨_, rfl⟩
  have HRS := Lib.hid hres
  rw [hres]
  have HEND : Hid (∀ (w : World) (y : Int) (q : Bool), Below W1.heap.size W1 w → ∃ w2, (w.setCell ⟨W.heap.size + 1 + 1, 0, none⟩ (.int .i64 y)).setCell ⟨W.heap.size + 1 + 1, 1, none⟩ (.bool q) = w2 ∧ AnC w2 (W.heap.size + 1 + 1) y q ∧ AnC w (W.heap.size + 1 + 1) 0 false ∧ Below W.heap.size W w2) := Lib.hid (fun w y q hw => by
    have h := below_block hw K3.out
    exact ⟨_, rfl, AnC.set h y q, h, ((Below.after B1.out hw).setCell (p := ⟨W.heap.size + 1 + 1, 0, none⟩) (by simp; omega) _).setCell (p := ⟨W.heap.size + 1 + 1, 1, none⟩) (by simp; omega) _⟩)
  clear hM hS hl hB k1 k2 k3 b1 hres
  cases right with
  | false =>
    by_cases hx0 : x = 0
    · have HRE : Hid (res = (0, true)) := Lib.hid (by rw [← HRS.out]; unfold ancF; simp [hx0])
      subst hx0
      obtain ⟨w2, hw2, k2', -, hb2⟩ := HEND.out W1 0 false (Below.refl _ _)
      obtain ⟨h0, h1, -, -⟩ := k2'.cells
      have HB2 := Lib.hid hb2
      clear k2' hb2 HEND
      go_enter Try.func42, Try.ntmps42
      go_wp2_with fail
      exact bodyPost_ret (v := .tuple #[.agg #[.int .i64 0, .bool false], .bool true]) (by simp [results, Try.results42, go_sem, h0, h1]) rfl ⟨by rw [HRE.out], HB2.out⟩
    · have hxb : (x == 0) = false := by simp [hx0]
      have hws : IntKind.i64.wrap (x - 1) = x - 1 := by rw [IntKind.wrap_i64]; omega
      obtain ⟨R, hR⟩ : ∃ r, letG 0 M (x - 1) = r := ⟨_, rfl⟩
      have HLT := Lib.hid (HL.out W1 (x - 1) (Below.refl _ _) ⟨by omega, by omega⟩)
      have HI := Lib.hid (HIN.out (x - 1) ⟨by omega, by omega⟩)
      have HRE : Hid (res = (if R.2.2 then R.1 + 1 else R.1, R.2.2)) := Lib.hid (by rw [← HRS.out]; unfold ancF; simp [hx0, hR])
      rw [hR] at HLT HI
      obtain ⟨r1, r2, r3⟩ := R
      dsimp only at HLT HI HRE
      have hrw : IntKind.i64.wrap (r1 + 1) = r1 + 1 := by have := HI.out; rw [IntKind.wrap_i64]; omega
      clear hR hx0 HL HIN
      cases r3 with
      | true =>
        go_enter Try.func42, Try.ntmps42
        go_wp2_with fail
        refine HLT.out.mono ?_; rintro e w2 ⟨rfl, b2⟩
        obtain ⟨w3, hw3, k3', k4', hb3⟩ := HEND.out w2 (r1 + 1) false b2
        obtain ⟨h0, h1, -, -⟩ := k3'.cells
        obtain ⟨g0, g1, g2, g3⟩ := k4'.cells
        have HB3 := Lib.hid hb3
        clear k3' k4' hb3 HEND b2 hW1 c0 c1 d0 d1 e0 e1 f0 f1
        go_wp2_with fail
        exact bodyPost_ret (v := .tuple #[.agg #[.int .i64 (r1 + 1), .bool false], .bool true]) (by simp [results, Try.results42, go_sem, h0, h1]) rfl ⟨by rw [HRE.out]; rfl, HB3.out⟩
      | false =>
        go_enter Try.func42, Try.ntmps42
        go_wp2_with fail
        refine HLT.out.mono ?_; rintro e w2 ⟨rfl, b2⟩
        obtain ⟨w3, hw3, k3', k4', hb3⟩ := HEND.out w2 r1 false b2
        obtain ⟨h0, h1, -, -⟩ := k3'.cells
        obtain ⟨g0, g1, g2, g3⟩ := k4'.cells
        have HB3 := Lib.hid hb3
        clear k3' k4' hb3 HEND b2 hW1 c0 c1 d0 d1 e0 e1 f0 f1
        go_wp2_with fail
        exact bodyPost_ret (v := .tuple #[.agg #[.int .i64 r1, .bool false], .bool false]) (by simp [results, Try.results42, go_sem, h0, h1]) rfl ⟨by rw [HRE.out]; rfl, HB3.out⟩
  | true =>
    by_cases hxl : x = len
    · have HRE : Hid (res = (nl, true)) := Lib.hid (by rw [← HRS.out]; unfold ancF; simp [hxl])
      subst hxl
      obtain ⟨w2, hw2, k2', -, hb2⟩ := HEND.out W1 nl true (Below.refl _ _)
      obtain ⟨h0, h1, -, -⟩ := k2'.cells
      have HB2 := Lib.hid hb2
      clear k2' hb2 HEND
      go_enter Try.func42, Try.ntmps42
      go_wp2_with fail
      exact bodyPost_ret (v := .tuple #[.agg #[.int .i64 nl, .bool true], .bool true]) (by simp [results, Try.results42, go_sem, h0, h1]) rfl ⟨by rw [HRE.out], HB2.out⟩
    · have hxb : (x == len) = false := by simp [hxl]
      obtain ⟨R, hR⟩ : ∃ r, letG 0 M x = r := ⟨_, rfl⟩
      have HLT := Lib.hid (HL.out W1 x (Below.refl _ _) ⟨by omega, by omega⟩)
      have HRE : Hid (res = (R.2.1, R.2.2)) := Lib.hid (by rw [← HRS.out]; unfold ancF; simp [hxl, hR])
      rw [hR] at HLT
      obtain ⟨r1, r2, r3⟩ := R
      dsimp only at HLT HRE
      clear hR hxl HL HIN
      go_enter Try.func42, Try.ntmps42
      go_wp2_with fail
      refine HLT.out.mono ?_; rintro e w2 ⟨rfl, b2⟩
      obtain ⟨w3, hw3, k3', k4', hb3⟩ := HEND.out w2 r2 true b2
      obtain ⟨h0, h1, -, -⟩ := k3'.cells
      obtain ⟨g0, g1, g2, g3⟩ := k4'.cells
      have HB3 := Lib.hid hb3
      clear k3' k4' hb3 HEND b2 hW1 c0 c1 d0 d1 e0 e1 f0 f1
      go_wp2_with fail
      exact bodyPost_ret (v := .tuple #[.agg #[.int .i64 r2, .bool true], .bool r3]) (by simp [results, Try.results42, go_sem, h0, h1]) rfl ⟨by rw [HRE.out], HB3.out⟩
end M
end Go.Proofs.Ytplccefjljdjnaa
