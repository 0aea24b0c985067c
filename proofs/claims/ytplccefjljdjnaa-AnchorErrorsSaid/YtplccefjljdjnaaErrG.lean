/- What fails: prepare, Map, MapSpan, MapAll, Back. -/
import Derived.Test.YtplccefjljdjnaaErrF
namespace Go.Proofs.Ytplccefjljdjnaa
open Go.RowKit Go.Lib
namespace M
attribute [local go_sem] Oper.semAt_some
abbrev zMs : Value := .agg #[.slice none 0 0, .int .i64 0]
set_option maxRecDepth 100000 in
set_option maxHeartbeats 2000000 in
theorem prepareN_any {W : World} {a : Option Addr} {n k : Nat} {va : Value} (len : Int) :
    Calls Try.prog 41 #[.pointer none, .int .i64 len, .slice a n k, va] W (ErrP W (.tuple #[zMs, err 5])) := by
  obtain ⟨W1, hW1⟩ : ∃ w, W.alloc (.cells #[.slice none 0 0, .int .i64 0] 96) = w := ⟨_, rfl⟩
  have k1 : MsC W1 W.heap.size (.slice none 0 0) 0 := by rw [← hW1]; exact heap_new' _ _
  have b1 : Below W.heap.size W W1 := by rw [← hW1]; exact (Below.refl _ _).alloc (Nat.le_refl _) _
  obtain ⟨w2, hw2⟩ : ∃ w, (W1.setCell ⟨W.heap.size, 0, none⟩ (.slice none 0 0)).setCell ⟨W.heap.size, 1, none⟩ (.int .i64 0) = w := ⟨_, rfl⟩
  have k2 : MsC w2 W.heap.size (.slice none 0 0) 0 := by rw [← hw2]; exact k1.set _ _
  have b2 : Below W.heap.size W w2 := by rw [← hw2]; exact (b1.setCell (p := ⟨W.heap.size, 0, none⟩) (Nat.le_refl _) _).setCell (p := ⟨W.heap.size, 1, none⟩) (Nat.le_refl _) _
  obtain ⟨h0, h1, -, -⟩ := k2.cells
  obtain ⟨c0, c1, f0, f1⟩ := k1.cells
  have HB2 := Lib.hid b2
  clear k1 k2 b1 b2
  go_enter Try.func41, Try.ntmps41
  go_wp2_with fail
  exact bodyPost_ret (v := .tuple #[zMs, err 5]) (by simp [results, Try.results41, go_sem, h0, h1, err, zMs]) rfl ⟨rfl, HB2.out⟩
set_option maxRecDepth 100000 in
set_option maxHeartbeats 4000000 in
theorem prepareE_any {W : World} {s : Addr} {a : Option Addr} {n k : Nat} {c : Int} (hL : ∀ w, Below W.heap.size W w → Calls Try.prog 24 #[.pointer (some s), .int .i64 8, .slice a n k] w (ErrP w (.tuple #[.int .i64 0, err c]))) {va : Value} {A : List (Int × Bool)} (hA : RowAn W va A) (hA8 : ∀ q ∈ A, 0 ≤ q.1 ∧ q.1 ≤ 8) (hAb : A.length ≤ 1000) :
    Calls Try.prog 41 #[.pointer (some s), .int .i64 8, .slice a n k, va] W (ErrP W (.tuple #[zMs, err c])) := by
  have HA := Lib.hid hA; have HA8 := Lib.hid hA8; have HPL := Lib.hid hL
  have HV := Lib.hid (fun w => valid_any w 8)
  rw [decide_eq_true (by omega)] at HV
  obtain ⟨aa, ac, rfl, -, -, -⟩ := hA
  obtain ⟨W1, hW1⟩ : ∃ w, W.alloc (.cells #[.slice none 0 0, .int .i64 0] 96) = w := ⟨_, rfl⟩
  have k1 : MsC W1 W.heap.size (.slice none 0 0) 0 := by rw [← hW1]; exact heap_new' _ _
  have b1 : Below W.heap.size W W1 := by rw [← hW1]; exact (Below.refl _ _).alloc (Nat.le_refl _) _
  have B1 := Lib.hid b1; have K1 := Lib.hid k1
  have HEND : Hid (∀ (w : World), MsC w W.heap.size (.slice none 0 0) 0 → Below W.heap.size W w → ∃ w2, (w.setCell ⟨W.heap.size, 0, none⟩ (.slice none 0 0)).setCell ⟨W.heap.size, 1, none⟩ (.int .i64 0) = w2 ∧ MsC w2 W.heap.size (.slice none 0 0) 0 ∧ Below W.heap.size W w2) := Lib.hid (fun w h hb => ⟨_, rfl, h.set _ _, (hb.setCell (p := ⟨W.heap.size, 0, none⟩) (Nat.le_refl _) _).setCell (p := ⟨W.heap.size, 1, none⟩) (Nat.le_refl _) _⟩)
  clear hL hA8 k1 b1
  unfold err at HPL
  go_enter Try.func41, Try.ntmps41
  go_wp2_with fail
  refine (HV.out W1).mono ?_; rintro e w ⟨rfl, h⟩; rw [h]; clear h w
  clear hW1
  go_wp2_with fail
  go_loopw [32] (fun iv wr => ∃ i : Nat, iv = .int .i64 i ∧ i ≤ A.length ∧ Below W1.heap.size W1 wr) (fun iv _ => A.length - (intOf iv).toNat)
  case atStart => exact ⟨0, rfl, Nat.zero_le _, Below.refl _ _⟩
  case round =>
    obtain ⟨i, rfl, hi, hB⟩ := hrel
    have HB := Lib.hid hB
    have K2 := Lib.hid (show MsC wr W.heap.size (.slice none 0 0) 0 from below_block hB K1.out)
    clear hB
    by_cases hlt : i < A.length
    · have hlt2 : (i : Int) < (A.length : Int) := by omega
      have hlt3 : (0 : Int) ≤ (i : Int) := by omega
      obtain ⟨a', cap', ha', -, -, hAi⟩ := (HA.out.below B1.out).below HB.out
      simp only [Value.slice.injEq] at ha'
      obtain ⟨rfl, -, rfl⟩ := ha'
      obtain ⟨b, rfl, q0, q1⟩ := hAi i hlt
      have hq := HA8.out A[i] (List.getElem_mem hlt)
      generalize A[i] = ax at *
      obtain ⟨x, r⟩ := ax
      dsimp only at q0 q1 hq
      obtain ⟨wz, w1, hz, hs1, ka, ba, ⟨p0, p1⟩, f0, f1⟩ := newAn wr x r
      obtain ⟨ga, hga⟩ : ∃ g, wr.heap.size = g := ⟨_, rfl⟩
      rw [hga] at hs1 p0 p1 f0 f1 ka
      obtain ⟨y0, y1, -, -⟩ := ka.cells
      have HB1 := Lib.hid (Below.after HB.out ba)
      have o3 : ¬ x < 0 := by omega
      have o4 : ¬ x > 8 := by omega
      clear ka ba hAi hq
      go_wp2_with fail
      clear hz hs1 p0 p1 f0 f1 y0 y1 q0 q1 hga
      go_roundw
      case rel => exact ⟨i + 1, by go_num, by omega, HB1.out⟩
      case measure => first | (simp [intOf]; omega) | simp [intOf]
    · have hlt2 : ¬ (i : Int) < (A.length : Int) := by omega
      have HPW := Lib.hid (HPL.out wr (Below.after B1.out HB.out))
      clear hlt hi
      go_wp2_with fail
      refine HPW.out.mono ?_; rintro e w3 ⟨rfl, b3⟩
      have K3 := Lib.hid (show MsC w3 W.heap.size (.slice none 0 0) 0 from below_block b3 K2.out)
      obtain ⟨w2, hw2, k2, hb2⟩ := HEND.out w3 K3.out (Below.after (Below.after B1.out HB.out) b3)
      obtain ⟨h0, h1, -, -⟩ := k2.cells
      obtain ⟨c0, c1, g0, g1⟩ := K3.out.cells
      have HB2 := Lib.hid hb2
      clear k2 hb2 b3 HEND HPW
      go_wp2_with fail
      exact bodyPost_ret (v := .tuple #[zMs, err c]) (by simp [results, Try.results41, go_sem, h0, h1, err, zMs]) rfl ⟨rfl, HB2.out⟩
/-- prepare fails, for lists of at most one anchor. -/
def PrE (W : World) (s : Option Addr) (v : Value) (x : Int) (c : Int) : Prop := ∀ (w : World) (va : Value) (A : List (Int × Bool)), Below W.heap.size W w → RowAn w va A → A = [] ∨ A = [(x, false)] → Calls Try.prog 41 #[.pointer s, .int .i64 8, v, va] w (ErrP w (.tuple #[zMs, err c]))
/-- The moves' box behind an error. -/
theorem boxMs (w : World) : ∃ w4 w5, w.alloc (.cells #[.slice none 0 0, .int .i64 0] 96) = w4 ∧ (w4.setCell ⟨w.heap.size, 0, none⟩ (.slice none 0 0)).setCell ⟨w.heap.size, 1, none⟩ (.int .i64 0) = w5 ∧ Below w.heap.size w w5 ∧ (w4.cell? ⟨w.heap.size, 0, none⟩ = some (.slice none 0 0) ∧ w4.cell? ⟨w.heap.size, 1, none⟩ = some (.int .i64 0) ∧ w4.frozen? ⟨w.heap.size, 0, none⟩ = false ∧ w4.frozen? ⟨w.heap.size, 1, none⟩ = false) := by
  have k4 : MsC (w.alloc (.cells #[.slice none 0 0, .int .i64 0] 96)) w.heap.size (.slice none 0 0) 0 := heap_new' _ _
  have b4 : Below w.heap.size w (w.alloc (.cells #[.slice none 0 0, .int .i64 0] 96)) := (Below.refl _ _).alloc (Nat.le_refl _) _
  exact ⟨_, _, rfl, rfl, (b4.setCell (p := ⟨w.heap.size, 0, none⟩) (Nat.le_refl _) _).setCell (p := ⟨w.heap.size, 1, none⟩) (Nat.le_refl _) _, k4.cells⟩
set_option maxRecDepth 100000 in
set_option maxHeartbeats 4000000 in
theorem mapE_any {W : World} {s a : Option Addr} {n k : Nat} {x c : Int} (hP : PrE W s (.slice a n k) x c) :
    Calls Try.prog 17 #[.pointer s, .int .i64 8, .slice a n k, .agg #[.int .i64 x, .bool false]] W (ErrP W (.tuple #[.agg #[.int .i64 0, .bool false], .bool false, err c])) := by
  obtain ⟨W1, hW1⟩ : ∃ w, (W.alloc (.cells #[.int .i64 x, .bool false] 33)).alloc (.cells #[.int .i64 0, .bool false] 33) = w := ⟨_, rfl⟩
  have b1 : Below W.heap.size W W1 := by rw [← hW1]; exact ((Below.refl _ W).alloc (Nat.le_refl _) _).alloc (by simp) _
  have k1 : AnC W1 W.heap.size x false := by rw [← hW1]; exact below_block ((Below.refl _ _).alloc (Nat.le_refl _) _) (heap_new' W _)
  have k2 : AnC W1 (W.heap.size + 1) 0 false := by
    rw [← hW1]
    have := heap_new' (W.alloc (.cells #[.int .i64 x, .bool false] 33)) (.cells #[.int .i64 0, .bool false] 33)
    rw [World.size_alloc] at this
    exact this
  obtain ⟨W2, hW2⟩ : ∃ w, W1.alloc (.cells #[.int .i64 x, .bool false] 33) = w := ⟨_, rfl⟩
  have b2 : Below W1.heap.size W1 W2 := by rw [← hW2]; exact (Below.refl _ _).alloc (Nat.le_refl _) _
  have b12 := Below.after b1 b2
  have hz1 : W1.heap.size = W.heap.size + 2 := by rw [← hW1]; simp
  have hA : RowAn W2 (.slice (some ⟨W1.heap.size, 0, none⟩) 1 1) [(x, false)] := by
    refine ⟨_, 1, rfl, by simp, by unfold maxLen; omega, fun i hi => ⟨_, rfl, ?_⟩⟩
    simp only [List.length_singleton] at hi
    obtain rfl : i = 0 := by omega
    have h := heap_new' W1 (.cells #[.int .i64 x, .bool false] 33)
    rw [hW2] at h
    simp [World.cell?, Addr.add, h]
  rw [hz1] at hA
  have HPR := Lib.hid (hP W2 _ _ b12 hA (.inr rfl))
  obtain ⟨c0, c1, f0, f1⟩ := k1.cells
  have K2 := Lib.hid (show AnC W2 (W.heap.size + 1) 0 false from below_block b2 k2); have B2' := Lib.hid b12
  have HEND : Hid (∀ (w : World), AnC w (W.heap.size + 1) 0 false → Below W.heap.size W w → ∃ w2, (w.setCell ⟨W.heap.size + 1, 0, none⟩ (.int .i64 0)).setCell ⟨W.heap.size + 1, 1, none⟩ (.bool false) = w2 ∧ AnC w2 (W.heap.size + 1) 0 false ∧ Below W.heap.size W w2) := Lib.hid (fun w h hb => ⟨_, rfl, h.set _ _, (hb.setCell (p := ⟨W.heap.size + 1, 0, none⟩) (by simp) _).setCell (p := ⟨W.heap.size + 1, 1, none⟩) (by simp) _⟩)
  clear hP k1 k2 b1 b2 b12 hA
  unfold err zMs at HPR
  go_enter Try.func17, Try.ntmps17
  go_wp2_with fail
  refine HPR.out.mono ?_
  rintro e w3 ⟨rfl, b3⟩
  have K23 := Lib.hid (show AnC w3 (W.heap.size + 1) 0 false from below_block b3 K2.out)
  have B3 := Lib.hid (Below.after B2'.out b3)
  obtain ⟨w4, w5, hw4, hw5, b5, e0, e1, e2, e3⟩ := boxMs w3
  have K24 : AnC w5 (W.heap.size + 1) 0 false := below_block b5 K23.out
  obtain ⟨z0, z1, z2, z3⟩ := K24.cells
  obtain ⟨w7, hw7, k7, hb7⟩ := HEND.out w5 K24 (Below.after B3.out b5)
  obtain ⟨h0, h1, -, -⟩ := k7.cells
  have HB7 := Lib.hid hb7
  clear b3 b5 K24 k7 hb7 HEND HPR hW1 hW2 c0 c1 f0 f1 hz1
  go_wp2_with fail
  exact bodyPost_ret (v := .tuple #[.agg #[.int .i64 0, .bool false], .bool false, err c]) (by simp [results, Try.results17, go_sem, h0, h1, err]) rfl ⟨rfl, HB7.out⟩
set_option maxRecDepth 100000 in
set_option maxHeartbeats 4000000 in
theorem allE_any {W : World} {s a : Option Addr} {n k : Nat} {x c : Int} (hP : PrE W s (.slice a n k) x c) {va : Value} (hA : RowAn W va [(x, false)]) :
    Calls Try.prog 25 #[.pointer s, .int .i64 8, .slice a n k, va] W (ErrP W (.tuple #[.slice none 0 0, err c])) := by
  have HPR := Lib.hid (hP W _ _ (Below.refl _ _) hA (.inr rfl))
  obtain ⟨aa, ac, rfl, -⟩ := hA
  clear hP
  unfold err zMs at HPR
  go_enter Try.func25, Try.ntmps25
  go_wp2_with fail
  refine HPR.out.mono ?_
  rintro e w3 ⟨rfl, b3⟩
  obtain ⟨w4, w5, hw4, hw5, b5, e0, e1, e2, e3⟩ := boxMs w3
  have HB5 := Lib.hid (Below.after b3 b5)
  clear b3 b5 HPR
  go_wp2_with fail
  go_ret2
  exact ⟨rfl, HB5.out⟩
set_option maxRecDepth 100000 in
set_option maxHeartbeats 4000000 in
theorem backE_any {W : World} {s a : Option Addr} {n k : Nat} {x c : Int} (hP : PrE W s (.slice a n k) x c) :
    Calls Try.prog 28 #[.pointer s, .int .i64 8, .slice a n k, .int .i64 x] W (ErrP W (.tuple #[.int .i64 0, .bool false, err c])) := by
  obtain ⟨W1, hW1⟩ : ∃ w, W.alloc (.cells #[.int .i64 x] 3) = w := ⟨_, rfl⟩
  have b1 : Below W.heap.size W W1 := by rw [← hW1]; exact (Below.refl _ W).alloc (Nat.le_refl _) _
  have HPR := Lib.hid (hP W1 _ _ b1 (RowAn.none W1) (.inl rfl))
  have B1 := Lib.hid b1
  clear hP b1
  unfold err zMs at HPR
  go_enter Try.func28, Try.ntmps28
  go_wp2_with fail
  refine HPR.out.mono ?_
  rintro e w3 ⟨rfl, b3⟩
  obtain ⟨w4, w5, hw4, hw5, b5, e0, e1, e2, e3⟩ := boxMs w3
  have HB5 := Lib.hid (Below.after B1.out (Below.after b3 b5))
  clear b3 b5 HPR hW1
  go_wp2_with fail
  go_ret3
  exact ⟨rfl, HB5.out⟩
set_option maxRecDepth 100000 in
set_option maxHeartbeats 4000000 in
theorem spanN_any {W : World} {a : Option Addr} {n k : Nat} {x : Int} :
    Calls Try.prog 27 #[.pointer none, .int .i64 8, .slice a n k, .agg #[.int .i64 x, .int .i64 0]] W (ErrP W (.tuple #[.agg #[.int .i64 0, .int .i64 0], err 5])) := by
  obtain ⟨W1, hW1⟩ : ∃ w, (W.alloc (.cells #[.int .i64 x, .int .i64 0] 57)).alloc (.cells #[.int .i64 0, .int .i64 0] 57) = w := ⟨_, rfl⟩
  have b1 : Below W.heap.size W W1 := by rw [← hW1]; exact ((Below.refl _ W).alloc (Nat.le_refl _) _).alloc (by simp) _
  have k2 : SnC W1 (W.heap.size + 1) 0 0 := by
    rw [← hW1]
    have := heap_new' (W.alloc (.cells #[.int .i64 x, .int .i64 0] 57)) (.cells #[.int .i64 0, .int .i64 0] 57)
    rw [World.size_alloc] at this
    exact this
  obtain ⟨w2, hw2⟩ : ∃ w, (W1.setCell ⟨W.heap.size + 1, 0, none⟩ (.int .i64 0)).setCell ⟨W.heap.size + 1, 1, none⟩ (.int .i64 0) = w := ⟨_, rfl⟩
  have k3 : SnC w2 (W.heap.size + 1) 0 0 := by rw [← hw2]; exact k2.set _ _
  have hb2 : Below W.heap.size W w2 := by rw [← hw2]; exact (b1.setCell (p := ⟨W.heap.size + 1, 0, none⟩) (by simp) _).setCell (p := ⟨W.heap.size + 1, 1, none⟩) (by simp) _
  obtain ⟨h0, h1, -, -⟩ := k3.cells
  obtain ⟨e0, e1, g0, g1⟩ := k2.cells
  have HB2 := Lib.hid hb2
  clear k2 k3 b1 hb2
  go_enter Try.func27, Try.ntmps27
  go_wp2_with fail
  exact bodyPost_ret (v := .tuple #[.agg #[.int .i64 0, .int .i64 0], err 5]) (by simp [results, Try.results27, go_sem, h0, h1, err]) rfl ⟨rfl, HB2.out⟩
set_option maxRecDepth 100000 in
set_option maxHeartbeats 4000000 in
theorem spanE_any {W : World} {s : Addr} {a : Option Addr} {n k : Nat} {x c : Int} (hx : 0 ≤ x ∧ x ≤ 8) (hP : PrE W (some s) (.slice a n k) x c) :
    Calls Try.prog 27 #[.pointer (some s), .int .i64 8, .slice a n k, .agg #[.int .i64 x, .int .i64 0]] W (ErrP W (.tuple #[.agg #[.int .i64 0, .int .i64 0], err c])) := by
  obtain ⟨W1, hW1⟩ : ∃ w, (W.alloc (.cells #[.int .i64 x, .int .i64 0] 57)).alloc (.cells #[.int .i64 0, .int .i64 0] 57) = w := ⟨_, rfl⟩
  have b1 : Below W.heap.size W W1 := by rw [← hW1]; exact ((Below.refl _ W).alloc (Nat.le_refl _) _).alloc (by simp) _
  have k1 : SnC W1 W.heap.size x 0 := by rw [← hW1]; exact below_block ((Below.refl _ _).alloc (Nat.le_refl _) _) (heap_new' W _)
  have k2 : SnC W1 (W.heap.size + 1) 0 0 := by
    rw [← hW1]
    have := heap_new' (W.alloc (.cells #[.int .i64 x, .int .i64 0] 57)) (.cells #[.int .i64 0, .int .i64 0] 57)
    rw [World.size_alloc] at this
    exact this
  have HRG := Lib.hid (rng_any W1 x 0 8)
  rw [show rngB x 0 8 = true from rngB_iff.2 ⟨by omega, by unfold maxL; omega, hx.1, by omega, hx.2, by omega⟩] at HRG
  have HPR := Lib.hid (hP W1 _ _ b1 (RowAn.none W1) (.inl rfl))
  obtain ⟨c0, c1, f0, f1⟩ := k1.cells
  have K2 := Lib.hid k2; have B1 := Lib.hid b1
  have HEND : Hid (∀ (w : World), SnC w (W.heap.size + 1) 0 0 → Below W.heap.size W w → ∃ w2, (w.setCell ⟨W.heap.size + 1, 0, none⟩ (.int .i64 0)).setCell ⟨W.heap.size + 1, 1, none⟩ (.int .i64 0) = w2 ∧ SnC w2 (W.heap.size + 1) 0 0 ∧ Below W.heap.size W w2) := Lib.hid (fun w h hb => ⟨_, rfl, h.set _ _, (hb.setCell (p := ⟨W.heap.size + 1, 0, none⟩) (by simp) _).setCell (p := ⟨W.heap.size + 1, 1, none⟩) (by simp) _⟩)
  clear hP k1 k2 b1
  unfold err zMs at HPR
  go_enter Try.func27, Try.ntmps27
  go_wp2_with fail
  refine HRG.out.mono ?_; rintro e w ⟨rfl, h⟩; rw [h]; clear h w
  simp only [if_true]
  go_wp2_with fail
  refine HPR.out.mono ?_
  clear c0 c1 f0 f1
  rintro e w3 ⟨rfl, b3⟩
  have K23 := Lib.hid (show SnC w3 (W.heap.size + 1) 0 0 from below_block b3 K2.out)
  have B3 := Lib.hid (Below.after B1.out b3)
  obtain ⟨w4, w5, hw4, hw5, b5, e0, e1, e2, e3⟩ := boxMs w3
  have K24 : SnC w5 (W.heap.size + 1) 0 0 := below_block b5 K23.out
  obtain ⟨z0, z1, z2, z3⟩ := K24.cells
  obtain ⟨w7, hw7, k7, hb7⟩ := HEND.out w5 K24 (Below.after B3.out b5)
  obtain ⟨h0, h1, -, -⟩ := k7.cells
  have HB7 := Lib.hid hb7
  clear b3 b5 K24 k7 hb7 HEND HPR hW1
  go_wp2_with fail
  exact bodyPost_ret (v := .tuple #[.agg #[.int .i64 0, .int .i64 0], err c]) (by simp [results, Try.results27, go_sem, h0, h1, err]) rfl ⟨rfl, HB7.out⟩
end M
end Go.Proofs.Ytplccefjljdjnaa
