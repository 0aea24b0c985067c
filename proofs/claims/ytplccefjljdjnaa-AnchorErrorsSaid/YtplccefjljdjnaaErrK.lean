/- AnchorErrors: the walk. -/
import Derived.Test.YtplccefjljdjnaaErrG
import Derived.Test.YtplccefjljdjnaaSpansC
import Derived.Test.YtplccefjljdjnaaStoreOps
import Derived.Laws.BitsLemmas
namespace Go.Proofs.Ytplccefjljdjnaa
open Go.RowKit Go.Lib
namespace M
attribute [local go_sem] Oper.semAt_some
set_option maxRecDepth 100000 in
set_option maxHeartbeats 4000000 in
theorem fails_any {W : World} {s a : Option Addr} {n k : Nat} {x c : Int} (hc : c ≠ 0) (hP : PrE W s (.slice a n k) x c) (hS : ∀ w, Below W.heap.size W w → Calls Try.prog 27 #[.pointer s, .int .i64 8, .slice a n k, .agg #[.int .i64 x, .int .i64 0]] w (ErrP w (.tuple #[.agg #[.int .i64 0, .int .i64 0], err c]))) :
    Calls Try.prog 33 #[.pointer s, .slice a n k, .int .i64 x, .int .i64 c] W fun e w' => e = .returned (.bool true) ∧ Below W.heap.size W w' := by
  have HPE : Hid (∀ w, Below W.heap.size W w → PrE w s (.slice a n k) x c) := Lib.hid (fun w hw w2 va A hb => hP w2 va A (Below.after hw hb))
  have HS := Lib.hid hS
  have HM := Lib.hid (mapE_any hP)
  have HI := Lib.hid (fun w => is_err w c c hc)
  rw [decide_eq_true rfl] at HI
  have heq := an_eq 0 0 false false
  rw [decide_eq_true (show (0 : Int) = 0 ∧ false = false from ⟨rfl, rfl⟩)] at heq
  have heq2 := sn_eq 0 0 0 0
  rw [decide_eq_true (show (0 : Int) = 0 ∧ (0 : Int) = 0 from ⟨rfl, rfl⟩)] at heq2
  have hgd : Try.prog.eqGuardType Try.prog.depth 33 = false := by kernel_rfl
  have hgs : Try.prog.eqGuardType Try.prog.depth 57 = false := by kernel_rfl
  clear hP hS
  unfold err at HM HI HS
  go_enter Try.func33, Try.ntmps33
  go_wp2_with fail
  refine HM.out.mono ?_
  rintro e w1 ⟨rfl, b1⟩
  obtain ⟨wz, w2, hz, hs1, ka, ba, ⟨p0, p1⟩, f0, f1⟩ := newAn w1 0 false
  obtain ⟨ga, hga⟩ : ∃ g, w1.heap.size = g := ⟨_, rfl⟩
  rw [hga] at hs1 p0 p1 f0 f1 ka
  have HB2 := Lib.hid (Below.after b1 ba)
  have KA := Lib.hid ka
  have HS2 := Lib.hid (HS.out w2 HB2.out)
  clear b1 ka ba HM HS
  go_wp2_with fail
  clear hz hs1 p0 p1 f0 f1 hga
  refine HS2.out.mono ?_
  rintro e w3 ⟨rfl, b3⟩
  obtain ⟨wz, w4, hz, hs1, kb, bb, ⟨p0, p1⟩, f0, f1⟩ := newSn w3 0 0
  obtain ⟨gb, hgb⟩ : ∃ g, w3.heap.size = g := ⟨_, rfl⟩
  rw [hgb] at hs1 p0 p1 f0 f1 kb
  have b4 := Below.after b3 bb
  have HB4 := Lib.hid (Below.after HB2.out b4)
  have KA4 := Lib.hid (show AnC w4 ga 0 false from below_block b4 KA.out)
  have KB := Lib.hid kb
  obtain ⟨w5, hw5⟩ : ∃ w, w4.alloc (.cells #[.int .i64 x, .bool false] 33) = w := ⟨_, rfl⟩
  have hnew := heap_new' w4 (.cells #[.int .i64 x, .bool false] 33)
  rw [hw5] at hnew
  have b5 : Below w4.heap.size w4 w5 := by rw [← hw5]; exact (Below.refl _ _).alloc (Nat.le_refl _) _
  have hA : RowAn w5 (.slice (some ⟨w4.heap.size, 0, none⟩) 1 1) [(x, false)] := by
    refine ⟨_, 1, rfl, by simp, by unfold maxLen; omega, fun i hi => ⟨_, rfl, ?_⟩⟩
    simp only [List.length_singleton] at hi
    obtain rfl : i = 0 := by omega
    simp [World.cell?, Addr.add, hnew]
  have HAL := Lib.hid (allE_any (HPE.out w5 (Below.after HB4.out b5)) hA)
  unfold err at HAL
  have HB5 := Lib.hid b5
  clear b3 bb b4 kb hnew b5 hA HS2 KA
  go_wp2_with fail
  clear hz hs1 p0 p1 f0 f1 hgb hw5
  refine HAL.out.mono ?_
  rintro e w6 ⟨rfl, b6⟩
  have HB6 := Lib.hid (Below.after HB5.out b6)
  have HBK := Lib.hid (backE_any (HPE.out w6 (Below.after HB4.out HB6.out)))
  unfold err at HBK
  clear b6 HAL
  go_wp2_with fail
  refine HBK.out.mono ?_
  rintro e w7 ⟨rfl, b7⟩
  have b47 := Below.after HB6.out b7
  obtain ⟨x0, x1, -, -⟩ := AnC.cells (show AnC w7 ga 0 false from below_block b47 KA4.out)
  obtain ⟨y0, y1, -, -⟩ := SnC.cells (show SnC w7 gb 0 0 from below_block b47 KB.out)
  have HB7 := Lib.hid (Below.after HB4.out b47)
  clear b7 b47 HBK
  go_wp2_with fail
  refine (HI.out w7).mono ?_; rintro e w ⟨rfl, h⟩; rw [h]; clear h w
  go_wp2_with fail
  refine (HI.out w7).mono ?_; rintro e w ⟨rfl, h⟩; rw [h]; clear h w
  go_wp2_with fail
  refine (HI.out w7).mono ?_; rintro e w ⟨rfl, h⟩; rw [h]; clear h w
  go_wp2_with fail
  refine (HI.out w7).mono ?_; rintro e w ⟨rfl, h⟩; rw [h]; clear h w
  go_wp2_with fail
  go_ret
  exact ⟨rfl, HB7.out⟩
theorem mask62 (x : Int) : ∃ m : Nat, bits .and .i64 x 4611686018427387903 = (m : Int) ∧ m ≤ 4611686018427387903 := by
  have h : (BitVec.ofInt 64 x &&& BitVec.ofInt 64 4611686018427387903).toNat ≤ 4611686018427387903 := by
    rw [BitVec.toNat_and]
    exact Nat.le_trans Nat.and_le_right (by decide)
  have e : bits .and .i64 x 4611686018427387903 = IntKind.i64.wrap ((BitVec.ofInt 64 x &&& BitVec.ofInt 64 4611686018427387903).toNat : Int) := rfl
  generalize (BitVec.ofInt 64 x &&& BitVec.ofInt 64 4611686018427387903).toNat = m at h e
  refine ⟨m, ?_, h⟩
  rw [e, IntKind.wrap_i64]
  omega
/-- A store of a letter and its power. -/
def ErS (n0 B : Nat) (w : World) : Prop := ∃ E, StAt n0 w B 99 E ∧ E.length = 2 ∧ (entAt E 2).even = false
theorem ErS.below {n0 B : Nat} {w w' : World} (h : ErS n0 B w) (hb : Below w.heap.size w w') : ErS n0 B w' := by
  obtain ⟨E, h1, h2⟩ := h
  exact ⟨E, h1.below hb, h2⟩
theorem ErS.form {n0 B g : Nat} {w : World} (h : ErS n0 B w) (hC : w.heap[g]? = some (.cells #[.int .i64 2, .int .i64 1, .int .i64 2] 71 (0, 0))) (x : Int) (hx : 0 ≤ x ∧ x ≤ 8) : PrE w (some ⟨B, 0, none⟩) (.slice (some ⟨g, 0, none⟩) 1 1) x 4 := by
  intro w2 va A hb hA hA1
  obtain ⟨E, h1, h2, h3⟩ := h
  refine prepareE_any (fun w3 hw => plengthE_any (checkF_any (id := 2) ((h1.below hb).below hw) (by omega) (by omega) (by omega) h3 (below_block hw (below_block hb hC)))) hA ?_ ?_
  · rcases hA1 with rfl | rfl
    · intro q hq; cases hq
    · intro q hq; simp only [List.mem_singleton] at hq; subst hq; exact hx
  · rcases hA1 with rfl | rfl <;> simp
theorem ErS.unk {n0 B g : Nat} {w : World} (h : ErS n0 B w) {raw : Int} (hr : raw < 0 ∨ 2 < raw) (hC : ChU w g raw) (x : Int) (hx : 0 ≤ x ∧ x ≤ 8) : PrE w (some ⟨B, 0, none⟩) (.slice (some ⟨g, 0, none⟩) 2 2) x 1 := by
  intro w2 va A hb hA hA1
  obtain ⟨E, h1, h2, h3⟩ := h
  refine prepareE_any (fun w3 hw => plengthE_any (checkU_any ((h1.below hb).below hw) (by rw [h2]; exact hr) (below_block hw (below_block hb hC)))) hA ?_ ?_
  · rcases hA1 with rfl | rfl
    · intro q hq; cases hq
    · intro q hq; simp only [List.mem_singleton] at hq; subst hq; exact hx
  · rcases hA1 with rfl | rfl <;> simp
set_option maxRecDepth 100000 in
set_option maxHeartbeats 8000000 in
theorem errors_any {W : World} (x raw : Int) :
    Calls Try.prog 10 #[.int .i64 x, .int .i64 raw] W fun e w' => e = .returned (.bool true) ∧ Below W.heap.size W w' := by
  have HNW := Lib.hid (snew_any W 99 (by omega))
  rw [show ((99 : Nat) : Int) = 99 from rfl] at HNW
  obtain ⟨m, hm, hmb⟩ := mask62 x
  have hrem : (m : Int).tmod 9 = ((m % 9 : Nat) : Int) := rfl
  have hin : (0 : Int) ≤ ((m % 9 : Nat) : Int) ∧ ((m % 9 : Nat) : Int) ≤ 8 := by omega
  generalize m % 9 = q at *
  have HIN := Lib.hid hin
  have hqw : IntKind.i64.wrap (q : Int) = (q : Int) := by rw [IntKind.wrap_i64]; omega
  clear hin
  go_enter Try.func10, Try.ntmps10
  go_wp2_with fail
  refine HNW.out.mono ?_
  rintro e w1 ⟨B, rfl, s1, b1⟩
  have HLT := Lib.hid (letter_any s1 97 (by omega) (by simp) (by simp))
  rw [show addF [] (letE 97) = ([letE 97], 1) from rfl, show ((97 : Nat) : Int) = 97 from rfl] at HLT
  have B1 := Lib.hid b1
  clear s1 b1 HNW
  go_wp2_with fail
  refine HLT.out.mono ?_
  rintro e w2 ⟨rfl, s2, b2, -⟩
  have hwf1 : Wf [letE 97] := .snoc (E := []) .nil (letE_ok [] (by omega))
  have HPW := Lib.hid (power_any s2 hwf1 (l := 1) (k := 3) (by simp) (by omega) (by simp) (by simp))
  rw [show powF [letE 97] 1 3 = ([letE 97, powE [letE 97] 1 3], 2, 0) from rfl, errV_0, show ((1 : Nat) : Int) = 1 from rfl, show ((3 : Nat) : Int) = 3 from rfl] at HPW
  have B2 := Lib.hid (B1.out.trans b2)
  clear s2 b2 HLT hwf1
  dsimp only
  rw [show ((1 : Nat) : Int) = 1 from rfl]
  go_wp2_with fail
  refine HPW.out.mono ?_
  rintro e w3 ⟨rfl, s3, b3, -⟩
  have HE3 : Hid (ErS W.heap.size B w3) := Lib.hid ⟨_, s3, rfl, rfl⟩
  have B3 := Lib.hid (B2.out.trans b3)
  have HAW := Lib.hid (awake_any w3)
  clear s3 b3 HPW
  dsimp only
  rw [show ((2 : Nat) : Int) = 2 from rfl]
  go_wp2_with fail
  refine HAW.out.mono ?_
  rintro e w4 ⟨rfl, b4⟩
  have HE4 := Lib.hid (HE3.out.below b4)
  have B4 := Lib.hid (B3.out.trans (b4.mono B3.out.size))
  have HFN := Lib.hid (fails_any (W := w4) (s := none) (a := none) (n := 0) (k := 0) (x := x) (c := 5) (by omega) (fun w va A _ _ _ => prepareN_any 8) (fun w _ => spanN_any))
  clear b4 HAW HE3
  go_wp2_with fail
  refine HFN.out.mono ?_
  rintro e w5 ⟨rfl, b5⟩
  have HE5 := Lib.hid (HE4.out.below b5)
  have B5 := Lib.hid (B4.out.trans (b5.mono B4.out.size))
  obtain ⟨w6, hw6⟩ : ∃ w, w5.alloc (.cells #[.int .i64 2, .int .i64 1, .int .i64 2] 71) = w := ⟨_, rfl⟩
  have hnew := heap_new' w5 (.cells #[.int .i64 2, .int .i64 1, .int .i64 2] 71)
  rw [hw6] at hnew
  have b6 : Below w5.heap.size w5 w6 := by rw [← hw6]; exact (Below.refl _ _).alloc (Nat.le_refl _) _
  have HE6 := Lib.hid (HE5.out.below b6)
  have B6 := Lib.hid (B5.out.trans (b6.mono B5.out.size))
  have HPF := Lib.hid (HE6.out.form hnew (q : Int) HIN.out)
  have HFF := Lib.hid (fails_any (by omega) HPF.out (fun w hw => spanE_any HIN.out (fun w2 va A hb => HPF.out w2 va A (Below.after hw hb))))
  clear b5 hnew b6 HFN HE4 HE5
  go_wp2_with fail
  clear hw6
  refine HFF.out.mono ?_
  rintro e w7 ⟨rfl, b7⟩
  have HE7 := Lib.hid (HE6.out.below b7)
  have B7 := Lib.hid (B6.out.trans (b7.mono B6.out.size))
  have HLN : Hid (Calls Try.prog 34 #[.pointer (some ⟨B, 0, none⟩)] w7 fun e w' => e = .returned (.int .i64 2) ∧ w' = w7) := Lib.hid (by
    obtain ⟨E, h1, h2, -⟩ := HE7.out
    have := slen_any h1
    rw [h2] at this
    exact this)
  clear b7 HFF HPF HE6
  obtain ⟨w8, hw8⟩ : ∃ w, w7.alloc (.cells #[.int .i64 99, .int .i64 (-1), .int .i64 0, .int .i64 2, .int .i64 1, .int .i64 raw] 71) = w := ⟨_, rfl⟩
  have hnew := heap_new' w7 (.cells #[.int .i64 99, .int .i64 (-1), .int .i64 0, .int .i64 2, .int .i64 1, .int .i64 raw] 71)
  rw [hw8] at hnew
  have b8 : Below w7.heap.size w7 w8 := by rw [← hw8]; exact (Below.refl _ _).alloc (Nat.le_refl _) _
  have HE8 := Lib.hid (HE7.out.below b8)
  have B8 := Lib.hid (B7.out.trans (b8.mono B7.out.size))
  have HUU : Hid (raw < 0 ∨ 2 < raw → Calls Try.prog 33 #[.pointer (some ⟨B, 0, none⟩), .slice (some ⟨w7.heap.size, 0, none⟩) 2 2, .int .i64 q, .int .i64 1] w8 fun e w' => e = .returned (.bool true) ∧ Below w8.heap.size w8 w') := Lib.hid (fun hr => by
    have hp := HE8.out.unk hr hnew (q : Int) HIN.out
    exact fails_any (by omega) hp (fun w hw => spanE_any HIN.out (fun w2 va A hb => hp w2 va A (Below.after hw hb))))
  clear b8 hnew
  by_cases h0 : raw ≥ 0
  · by_cases h2 : raw ≤ 2
    · go_wp2_with fail
      refine HLN.out.mono ?_; rintro e w ⟨rfl, h⟩; rw [h]; clear h w
      go_wp2_with fail
      go_ret
      exact ⟨rfl, B7.out⟩
    · have HU := Lib.hid (HUU.out (.inr (by omega)))
      go_wp2_with fail
      refine HLN.out.mono ?_; rintro e w ⟨rfl, h⟩; rw [h]; clear h w
      go_wp2_with fail
      refine HU.out.mono ?_
      rintro e w9 ⟨rfl, b9⟩
      have B9 := Lib.hid (B8.out.trans (b9.mono B8.out.size))
      clear b9
      go_wp2_with fail
      go_ret
      exact ⟨rfl, B9.out⟩
  · have HU := Lib.hid (HUU.out (.inl (by omega)))
    go_wp2_with fail
    refine HU.out.mono ?_
    rintro e w9 ⟨rfl, b9⟩
    have B9 := Lib.hid (B8.out.trans (b9.mono B8.out.size))
    clear b9
    go_wp2_with fail
    go_ret
    exact ⟨rfl, B9.out⟩
end M
end Go.Proofs.Ytplccefjljdjnaa
