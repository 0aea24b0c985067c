/- The fixed example. -/
import Derived.Test.YtlfodhejpbjfcaaCom2
set_option linter.unusedVariables false
set_option linter.unusedSimpArgs false
namespace Go.Proofs.Ytlfodhejpbjfcaa
open Go.RowKit
namespace S
attribute [local go_sem] Oper.semAt_some
abbrev sa : ByteArray := ⟨#[97]⟩
abbrev sb : ByteArray := ⟨#[98]⟩
theorem RowNm.one (W : World) (s : ByteArray) (x : Int) (hs : s.size ≤ maxLen) : RowNm (W.alloc (.cells #[.string s, .int .i64 x] 49)) (.slice (some ⟨W.heap.size, 0, none⟩) 1 1) [(s, x)] := by
  refine ⟨_, 1, rfl, Nat.le_refl _, by unfold maxLen; omega, by simpa using hs, fun i hi => ⟨_, rfl, ?_⟩⟩
  obtain rfl : i = 0 := by simpa using hi
  have h := heap_new W (.cells #[.string s, .int .i64 x] 49)
  generalize W.alloc (.cells #[.string s, .int .i64 x] 49) = W1 at *
  simp [World.cell?, Addr.add, h]
theorem new_a : newF [(sa, 1)] .nil = (0, putF sd.lt sa 1 .nil) := by kernel_rfl
theorem left_fresh {W W0 w' : World} {X X' : Bx} {x x' : Tx} (h : Left W w' X X' x x') (hb : Below W0.heap.size W0 W) (h1 : W0.heap.size ≤ x.t) (h2 : W0.heap.size ≤ x.r) (h3 : W0.heap.size ≤ x.c) (h4 : W0.heap.size ≤ X.b) (h5 : W0.heap.size ≤ X.m) : Below W0.heap.size W0 w' :=
  hb.trans (h.2.2.2.below (by simp [h1, h2, h3, h4, h5]) hb.size)
set_option maxRecDepth 100000 in
set_option maxHeartbeats 4000000 in
theorem awake_any (W : World) : Calls Try.prog 10 #[] W fun e w' => e = .returned (.bool true) ∧ Below W.heap.size W w' := by
  obtain ⟨T1, hT1⟩ : ∃ T, putF sd.lt sa (1 : Int) .nil = T := ⟨_, rfl⟩
  have HT1 := Lib.hid hT1
  have HTS : Hid (T1.sz = 1) := Lib.hid (by rw [← hT1]; kernel_rfl)
  have b1 : Below W.heap.size W (W.alloc (.cells #[.string sa, .int .i64 1] 49)) := (Below.refl _ _).alloc (Nat.le_refl _) _
  have hN := New_any (RowNm.one W sa 1 (by unfold maxLen; decide)) (by decide)
  rw [new_a, hT1] at hN
  have HN := Lib.hid hN; have B1 := Lib.hid b1
  clear hN b1 hT1
  go_enter Try.func10, Try.ntmps10
  go_wp2_with fail
  refine HN.out.mono ?_
  rintro e w1 hp
  rcases hp with ⟨-, b, m, q, rfl, g1, g2, hB, hI, hM, hb⟩ | ⟨h, -⟩
  case inr => exact absurd rfl h
  have HX1 : Hid (BxAt w1 ⟨b, m, 0, q, T1, []⟩) := Lib.hid ⟨hB, hI, hM⟩
  have B2 := Lib.hid (Below.step B1.out hb)
  have hz := B1.out.size
  have hbm : W.heap.size ≤ b ∧ W.heap.size ≤ m ∧ m < w1.heap.size := ⟨by omega, by omega, hM.lt⟩
  have HBM := Lib.hid hbm
  clear hB hI hM hb g1 g2 hz hbm
  go_wp2_with fail
  refine (tx_begin HX1.out).mono ?_
  rintro e w2 ⟨t, r, c, rfl, f1, f2, f3, hx, hX, -, hb⟩
  have HZ2 := Lib.hid hb.size
  have HX2 := Lib.hid hX; have HT2 := Lib.hid hx; have B3 := Lib.hid (Below.step B2.out hb)
  have hz := B2.out.size
  have ht1 : W.heap.size ≤ t ∧ W.heap.size ≤ r ∧ W.heap.size ≤ c ∧ t < w2.heap.size ∧ r < w2.heap.size ∧ c < w2.heap.size := ⟨by omega, by omega, by omega, (Array.getElem?_eq_some_iff.1 hx.1).1, hx.2.2.1.lt, hx.2.2.2.1.lt⟩
  have HA1 : Hid (Bx.apart ⟨b, m, 0, q, T1, []⟩ ⟨t, r, c, 0, q, T1, false, [], []⟩) := Lib.hid (by have := HBM.out; constructor <;> dsimp only <;> omega)
  have HL1 := Lib.hid ht1
  clear hX hx hb f1 f2 f3 hz ht1
  go_wp2_with fail
  refine (tx_begin HX2.out).mono ?_
  rintro e w3 ⟨t', r', c', rfl, f1, f2, f3, hx, hX, ho, hb⟩
  have HX3 := Lib.hid hX; have HU3 := Lib.hid hx; have HT3 := Lib.hid (ho _ HT2.out); have B4 := Lib.hid (Below.step B3.out hb)
  have hl := HL1.out; have hm := HBM.out; have hz := B3.out.size; have hz2 := HZ2.out
  have HA2 : Hid (Bx.apart ⟨b, m, 0, q, T1, []⟩ ⟨t', r', c', 0, q, T1, false, [], []⟩) := Lib.hid (by constructor <;> dsimp only <;> omega)
  have HA3 : Hid (Tx.apart ⟨t, r, c, 0, q, T1, false, [], []⟩ ⟨t', r', c', 0, q, T1, false, [], []⟩) := Lib.hid (by refine ⟨?_, ?_, ?_, ?_, ?_⟩ <;> dsimp only <;> omega)
  have HL2 : Hid (W.heap.size ≤ t' ∧ W.heap.size ≤ r' ∧ W.heap.size ≤ c') := Lib.hid ⟨by omega, by omega, by omega⟩
  clear hX hx hb f1 f2 f3 ho hl hm hz hz2
  go_wp2_with fail
  refine (tx_get HX3.out HT3.out HA1.out sa (by decide) (by simp)).mono ?_
  rintro e w4 ⟨rfl, hL⟩
  have e1 : getR false [] T1 sa = (1, 0) := by rw [← HT1.out]; kernel_rfl
  have e2 : readG false [] [] sa = [(sa, true)] := by kernel_rfl
  have hE : errV 0 = .nilIface := rfl
  simp only [e1, hE]
  simp only [e2] at hL
  have HL4 := Lib.hid hL
  have B5 := Lib.hid (left_fresh hL B4.out HL1.out.1 HL1.out.2.1 HL1.out.2.2.1 HBM.out.1 HBM.out.2.1)
  have HU4 := Lib.hid (hL.2.2.1 _ HU3.out HA3.out HA2.out)
  clear hL e1 e2 hE
  go_wp2_with fail
  refine (tx_put HL4.out.2.1 HL4.out.1 HA1.out sb 2 (by decide) (by simp)).mono ?_
  rintro e w5 ⟨rfl, hL⟩
  have e1 : chk false sb = 0 := by kernel_rfl
  have e2 : putN false [] sb 2 = [(sb, (2, false))] := by kernel_rfl
  have hE : errV 0 = .nilIface := rfl
  simp only [e1, hE]
  simp only [e2] at hL
  have HL5 := Lib.hid hL
  have B6 := Lib.hid (left_fresh hL B5.out HL1.out.1 HL1.out.2.1 HL1.out.2.2.1 HBM.out.1 HBM.out.2.1)
  have HU5 := Lib.hid (hL.2.2.1 _ HU4.out HA3.out HA2.out)
  clear hL e1 e2 hE
  go_wp2_with fail
  refine (tx_commit HL5.out.2.1 HL5.out.1 HA1.out (by simp) (by simp) (by simp) (by simp) (by have := HTS.out; simp; omega) (by simp)).mono ?_
  rintro e w6 ⟨n, k, X', rfl, hC, hb, hm, hL⟩
  rcases hC with ⟨h, -⟩ | ⟨-, h, -⟩ | ⟨-, -, h, -⟩ | ⟨-, -, -, rfl, rfl, q', L, hP, rfl⟩
  · cases h
  · cases h
  · cases h
  obtain rfl : L = [(sb, (2, false))] := List.perm_singleton.1 hP
  dsimp only at hL
  have e3 : lastN [] (0 + 1) [(sb, (2, false))] = [(sb, 1)] := by kernel_rfl
  have e4 : ((0 : Int) + 1) = 1 := rfl
  have hE : errV 0 = .nilIface := rfl
  simp only [e3, e4] at hL
  simp only [e4, hE]
  have HL6 := Lib.hid hL
  have B7 := Lib.hid (left_fresh hL B6.out HL1.out.1 HL1.out.2.1 HL1.out.2.2.1 HBM.out.1 HBM.out.2.1)
  have HU6 := Lib.hid (hL.2.2.1 _ HU5.out HA3.out HA2.out)
  clear hL hP hb hm e3 e4 hE
  go_wp2_with fail
  refine (tx_get HL6.out.2.1 HU6.out HA2.out sb (by decide) (by simp)).mono ?_
  rintro e w7 ⟨rfl, hL⟩
  have e1 : getR false [] T1 sb = (0, 5) := by rw [← HT1.out]; kernel_rfl
  have e2 : readG false [] [] sb = [(sb, true)] := by kernel_rfl
  have hE : errV 5 = err 5 := rfl
  simp only [e1, hE]
  simp only [e2] at hL
  have HL7 := Lib.hid hL
  have B8 := Lib.hid (left_fresh hL B7.out HL2.out.1 HL2.out.2.1 HL2.out.2.2 HBM.out.1 HBM.out.2.1)
  clear hL e1 e2 hE
  go_wp2_with fail
  refine (tx_put HL7.out.2.1 HL7.out.1 HA2.out sa 3 (by decide) (by simp)).mono ?_
  rintro e w8 ⟨rfl, hL⟩
  have e1 : chk false sa = 0 := by kernel_rfl
  have e2 : putN false [] sa 3 = [(sa, (3, false))] := by kernel_rfl
  have hE : errV 0 = .nilIface := rfl
  simp only [e1, hE]
  simp only [e2] at hL
  have HL8 := Lib.hid hL
  have B9 := Lib.hid (left_fresh hL B8.out HL2.out.1 HL2.out.2.1 HL2.out.2.2 HBM.out.1 HBM.out.2.1)
  clear hL e1 e2 hE
  go_wp2_with fail
  refine (tx_commit HL8.out.2.1 HL8.out.1 HA2.out (by simp) (by simp) (by simp) (by simp) (by have h1 := HTS.out; have h2 := appN_sz [(sb, ((2 : Int), false))] T1; simp at h2 ⊢; omega) (by show 1 + 1 ≤ 800000; decide)).mono ?_
  rintro e w9 ⟨n, k, X', rfl, hC, hb, hm, hL⟩
  rcases hC with ⟨h, -⟩ | ⟨-, h, -⟩ | ⟨-, -, -, rfl, rfl, rfl⟩ | ⟨-, -, h, -⟩
  · cases h
  · cases h
  rotate_left
  · have h1 : (conf [(sb, (1 : Int))] 0 [(sb, true)] || conf [(sb, (1 : Int))] 0 [(sa, ((3 : Int), false))]) = true := by kernel_rfl
    exact absurd (h1.symm.trans h) (by decide)
  have hE : errV 11 = err 11 := rfl
  simp only [hE]
  have HL9 := Lib.hid hL
  have B10 := Lib.hid (left_fresh hL B9.out HL2.out.1 HL2.out.2.1 HL2.out.2.2 HBM.out.1 HBM.out.2.1)
  clear hL hb hm hE
  go_wp2_with fail
  refine (is_err w9 5 5 (by decide)).mono ?_
  rintro e w10 ⟨rfl, h10⟩
  rw [h10]; clear h10 w10
  have hd : decide ((5 : Int) = 5) = true := rfl
  simp only [hd]; clear hd
  go_wp2_with fail
  refine (is_err w9 11 11 (by decide)).mono ?_
  rintro e w10 ⟨rfl, h10⟩
  rw [h10]; clear h10 w10
  have hd : decide ((11 : Int) = 11) = true := rfl
  simp only [hd]; clear hd
  go_wp2_with fail
  refine (Version_any HL9.out.2.1.1).mono ?_
  rintro e w10 ⟨rfl, hb⟩
  have B11 := Lib.hid (Below.step B10.out hb)
  clear hb
  go_wp2_with fail
  go_ret
  exact ⟨rfl, B11.out⟩
end S
end Go.Proofs.Ytlfodhejpbjfcaa
