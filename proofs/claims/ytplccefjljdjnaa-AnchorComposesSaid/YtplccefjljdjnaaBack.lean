/- anchor.Back. -/
import Derived.Test.YtplccefjljdjnaaMoveQ
set_option linter.unusedVariables false
set_option linter.unusedSimpArgs false
namespace Go.Proofs.Ytplccefjljdjnaa
open Go.RowKit Go.Lib
namespace M
attribute [local go_sem] Oper.semAt_some
theorem RowAn.none (W : World) : RowAn W (.slice none 0 0) [] := ⟨_, 0, rfl, by simp, by unfold maxLen; omega, fun i h => by cases h⟩
theorem prepF_nil (E : List En) (len : Int) (L : List Chg) : prepF E len L [] = (lngF E len L).2 := by
  unfold prepF
  by_cases h : 0 ≤ len ∧ len ≤ maxL
  · rw [if_neg (by simpa using h), if_pos (by rfl)]
  · rw [if_pos h]
    unfold lngF chkF
    rw [if_pos h, if_pos (by decide)]
/-- What Back answers: an error's number. -/
def bckF (E : List En) (len : Int) (L : List Chg) (x : Int) : Int := if (lngF E len L).2 ≠ 0 then (lngF E len L).2 else if 0 ≤ x ∧ x < (lngF E len L).1 then 0 else 1
def BackP (E : List En) (len : Int) (L : List Chg) (x : Int) (W : World) (e : Ending) (w' : World) : Prop :=
  ((bckF E len L x = 0 ∧ e = .returned (.tuple #[.int .i64 (letB (mvsF E 0 L) x).1, .bool (letB (mvsF E 0 L) x).2, .nilIface])) ∨
  (bckF E len L x ≠ 0 ∧ e = .returned (.tuple #[.int .i64 0, .bool false, err (bckF E len L x)]))) ∧ Below W.heap.size W w'
def prN (M : List Mv) (x : Int) (i : Nat) : Bool := match M[i]? with | some m => decide (m.nf > x) | none => true
set_option maxRecDepth 100000 in
set_option maxHeartbeats 4000000 in
theorem back_any {n0 B most b0 : Nat} {W : World} {E : List En} (hs : StAt n0 W B most E) (hwf : Wf E) (hE : E.length ≤ 1048576) {v : Value} {L : List Chg} (hC : Chs b0 W v L) (hT : Txs E L) (hLb : L.length ≤ 1000000) (len x : Int) :
    Calls Try.prog 28 #[.pointer (some ⟨B, 0, none⟩), .int .i64 len, v, .int .i64 x] W (BackP E len L x W) := by
  have hmf : ∀ (fn : Fn) (first cap : Array Value) (w : World), (Instr.makeFunc fn first cap).run Try.prog w = .ok (.func fn first cap) w := fun _ _ _ _ => rfl
  obtain ⟨va, vc, rfl⟩ := hC.len
  obtain ⟨W1, hW1⟩ : ∃ w, W.alloc (.cells #[.int .i64 x] 3) = w := ⟨_, rfl⟩
  have b1 : Below W.heap.size W W1 := by rw [← hW1]; exact (Below.refl _ W).alloc (Nat.le_refl _) _
  have k1 : ItC W1 W.heap.size x := by rw [← hW1]; exact heap_new' W _
  have HPR := Lib.hid (prepare_any (hs.below b1) hwf hE (hC.below b1) hT hLb (RowAn.none W1) (by simp) len)
  have K1 := Lib.hid k1; have B1 := Lib.hid b1
  have HOKP : Hid (∀ (w : World) (y : Int) (b : Bool), bckF E len L x = 0 → letB (mvsF E 0 L) x = (y, b) → Below W.heap.size W w → BackP E len L x W (.returned (.tuple #[.int .i64 y, .bool b, .nilIface])) w) := Lib.hid (fun w y b h1 h2 h3 => ⟨.inl ⟨h1, by rw [h2]⟩, h3⟩)
  have HBADP : Hid (∀ (w : World) (c : Int), bckF E len L x = c → c ≠ 0 → Below W.heap.size W w → BackP E len L x W (.returned (.tuple #[.int .i64 0, .bool false, err c])) w) := Lib.hid (fun w c h1 h2 h3 => ⟨.inr ⟨by rw [h1]; exact h2, by rw [h1]⟩, h3⟩)
  clear hs hwf hC hT k1 b1
  go_enter Try.func28, Try.ntmps28
  go_wp2_with fail
  refine HPR.out.mono ?_
  rintro e w3 (⟨hp, mv, rfl, hM, b3⟩ | ⟨hp, rfl, b3⟩)
  · rw [prepF_nil] at hp
    obtain ⟨o1, o2, o3, o4, o5⟩ := lngF_ok hp
    have hIB := mvs_inB hp
    have HSO := Lib.hid (mvsF_sortedN (E := E) L (-1) 0 o3)
    have HP := Lib.hid hp
    have hd := del_le o1 o3
    obtain ⟨nl, hnl⟩ : ∃ n, (lngF E len L).1 = n := ⟨_, rfl⟩
    have HBK : Hid (bckF E len L x = if 0 ≤ x ∧ x < nl then 0 else 1) := Lib.hid (by unfold bckF; rw [if_neg (by simpa using hp), hnl])
    rw [hnl] at o5 ⊢
    have hnb : nl ≤ 1152921504606846976 := by omega
    obtain ⟨ma, mc, rfl⟩ := hM.len
    have HML : Hid ((mvsF E 0 L).length ≤ 1000000) := Lib.hid (by rw [mvsF_len]; exact hLb)
    have HBB := Lib.hid hIB
    generalize mvsF E 0 L = M at *
    obtain ⟨ml, hml⟩ : ∃ n, M.length = n := ⟨_, rfl⟩
    have HMN := Lib.hid hml
    rw [hml] at hM HML ⊢
    have B3 := Lib.hid (Below.after B1.out b3)
    have K13 := Lib.hid (show ItC w3 W.heap.size x from below_block b3 K1.out)
    obtain ⟨gm, hgm⟩ : ∃ g, w3.heap.size = g := ⟨_, rfl⟩
    obtain ⟨w4, hw4⟩ : ∃ w, w3.alloc (.cells #[.slice ma ml mc, .int .i64 nl] 96) = w := ⟨_, rfl⟩
    have k4 : MsC w4 gm (.slice ma ml mc) nl := by rw [← hw4, ← hgm]; exact heap_new' _ _
    have b4 : Below w3.heap.size w3 w4 := by rw [← hw4]; exact (Below.refl _ _).alloc (Nat.le_refl _) _
    have B4 := Lib.hid (Below.after B3.out b4)
    have K14 := Lib.hid (show ItC w4 W.heap.size x from below_block b4 K13.out)
    have HM4 := Lib.hid (hM.below b4)
    have K4 := Lib.hid k4
    obtain ⟨d0, -⟩ := K14.out.cell
    obtain ⟨e0, e1, -, -⟩ := k4.cells
    clear hp hM b3 k4 b4 hnl hml HPR o1 o2 o3 o4 o5 hd hIB hW1
    by_cases hx0 : x < 0
    · have HC1 : Hid (bckF E len L x = 1) := Lib.hid (by rw [HBK.out, if_neg (by omega)])
      go_wp2_with fail
      go_ret3
      exact HBADP.out _ 1 HC1.out (by decide) B4.out
    by_cases hx1 : nl ≤ x
    · have HC1 : Hid (bckF E len L x = 1) := Lib.hid (by rw [HBK.out, if_neg (by omega)])
      have hx2 : x ≥ nl := hx1
      go_wp2_with fail
      go_ret3
      exact HBADP.out _ 1 HC1.out (by decide) B4.out
    have HC0 : Hid (bckF E len L x = 0) := Lib.hid (by rw [HBK.out, if_pos (by omega)])
    have hx2 : ¬ x ≥ nl := hx1
    have HPM : Hid (∀ i j, i ≤ j → prN M x i = true → prN M x j = true) := Lib.hid (fun i j hij hp => by
      unfold prN at hp ⊢
      cases hj : M[j]? with
      | none => rfl
      | some mj =>
        have hjl := (List.getElem?_eq_some_iff.1 hj).1
        rw [List.getElem?_eq_getElem (show i < M.length by omega)] at hp
        simp only [decide_eq_true_eq] at hp ⊢
        rcases Nat.lt_or_ge i j with h | h
        · have h1 := (List.pairwise_iff_getElem.1 HSO.out i j (by omega) hjl h).2
          rw [(List.getElem?_eq_some_iff.1 hj).2] at h1
          omega
        · obtain rfl : i = j := by omega
          rw [(List.getElem?_eq_some_iff.1 hj).2] at hp
          exact hp)
    have HSR : Hid (Calls Try.prog 48 #[.int .i64 ml, .func (.func 49) #[] #[.pointer (some ⟨gm, 0, none⟩), .pointer (some ⟨W.heap.size, 0, none⟩)]] w4 fun e w' => ∃ k : Nat, e = .returned (.int .i64 k) ∧ k ≤ ml ∧ (∀ i, i < k → prN M x i = false) ∧ (∀ i, k ≤ i → i < ml → prN M x i = true) ∧ Below w4.heap.size w4 w') := Lib.hid (by
      refine search_any 49 (fun _ _ => by kernel_rfl) _ _ (fun w => MsC w gm (.slice ma ml mc) nl ∧ ItC w W.heap.size x ∧ Mvs W1.heap.size w (.slice ma ml mc) M) HML.out (prN M x) HPM.out ?_ ?_ ⟨K4.out, K14.out, HM4.out⟩
      · rintro w w' ⟨a, b, c⟩ hb
        exact ⟨below_block hb a, below_block hb b, c.below hb⟩
      · rintro w i ⟨a, b, c⟩ hi
        have hi' : i < M.length := by rw [HMN.out]; exact hi
        have := back1_any a b c hi'
        rwa [show decide (M[i].nf > x) = prN M x i by unfold prN; rw [List.getElem?_eq_getElem hi']] at this)
    obtain ⟨res, hres⟩ : ∃ r, letB M x = r := ⟨_, rfl⟩
    have HRS := Lib.hid hres
    clear hres hx1
    go_wp2_with fail
    refine HSR.out.mono ?_
    rintro e w5 ⟨k, rfl, hk, hlo, hhi, b5⟩
    have K15 := Lib.hid (show ItC w5 W.heap.size x from below_block b5 K14.out)
    have K5 := Lib.hid (show MsC w5 gm (.slice ma ml mc) nl from below_block b5 K4.out)
    have HM5 := Lib.hid (HM4.out.below b5)
    have B5 := Lib.hid (Below.after B4.out b5)
    have HTW : Hid (M.takeWhile (fun m => decide (m.nf ≤ x)) = M.take k) := Lib.hid (takeWhile_take (by rw [HMN.out]; exact hk) (fun i hi hik => by
      have := hlo i hik
      unfold prN at this
      rw [List.getElem?_eq_getElem hi] at this
      simp only [decide_eq_false_iff_not] at this
      simp only [decide_eq_true_eq]; omega) (fun i hi hik => by
      have := hhi i hik (by rw [← HMN.out]; exact hi)
      unfold prN at this
      rw [List.getElem?_eq_getElem hi] at this
      simp only [decide_eq_true_eq] at this
      simp only [decide_eq_false_iff_not]; omega))
    obtain ⟨z0, z1, -, -⟩ := K5.out.cells
    obtain ⟨y0, yf⟩ := K15.out.cell
    clear hlo hhi b5 hw4 hgm d0 e0 e1 HSR HPM HSO
    rcases Nat.eq_zero_or_pos k with rfl | hk0
    · have HRES : Hid (res = (x, true)) := Lib.hid (by rw [← HRS.out]; unfold letB; rw [HTW.out, List.take_zero]; simp)
      go_wp2_with fail
      go_ret3
      exact HOKP.out _ _ _ HC0.out (by rw [HRS.out]; exact HRES.out) B5.out
    · have hk1 : k - 1 < M.length := by rw [HMN.out]; omega
      obtain ⟨gl, cap, hv, -, -, hc⟩ := Mvs.at (by rw [HMN.out]; exact HM5.out : Mvs W1.heap.size w5 (.slice ma M.length mc) M) hk1
      simp only [Value.slice.injEq] at hv
      obtain ⟨rfl, -, rfl⟩ := hv
      obtain ⟨q0, q1, q2, q3⟩ := hc w5 (Below.refl _ _) (k - 1) hk1
      have HRES : Hid (res = if x < M[k - 1].nt then (0, false) else (x - M[k - 1].nt + M[k - 1].to, true)) := Lib.hid (by
        rw [← HRS.out]
        unfold letB
        have : (M.take k).getLast? = some M[k - 1] := by
          rw [List.getLast?_eq_getElem?, List.length_take, Nat.min_eq_left (by rw [HMN.out]; exact hk), List.getElem?_take, if_pos (by omega), List.getElem?_eq_getElem hk1]
        rw [HTW.out, this])
      obtain ⟨⟨t1, t2⟩, ⟨t3, t4⟩, -⟩ := HBB.out _ (List.getElem_mem hk1)
      have hkw : IntKind.i64.wrap ((k : Int) - 1) = ((k - 1 : Nat) : Int) := by rw [IntKind.wrap_i64]; have := HML.out; omega
      obtain ⟨j, hj⟩ : ∃ j, k - 1 = j := ⟨_, rfl⟩
      simp only [hj] at hkw q0 q1 q2 q3 HRES t1 t2 t3 t4
      have hjl : (j : Int) < (ml : Int) := by omega
      have hj0 : (0 : Int) ≤ (j : Int) := by omega
      have hkz : ((k : Int) == 0) = false := by simp; omega
      generalize M[j] = m at *
      have w1 : IntKind.i64.wrap (x - m.nt) = x - m.nt := by rw [IntKind.wrap_i64]; omega
      have w2' : IntKind.i64.wrap (x - m.nt + m.to) = x - m.nt + m.to := by rw [IntKind.wrap_i64]; omega
      obtain ⟨wz, w6, hz, hs1, km, bm, ⟨p0, p1, p2, p3⟩, f0, f1, f2, f3⟩ := newMv w5 m
      obtain ⟨gb, hgb⟩ : ∃ g, w5.heap.size = g := ⟨_, rfl⟩
      rw [hgb] at hs1 p0 p1 p2 p3 f0 f1 f2 f3 km
      obtain ⟨r0, r1, r2, r3⟩ := km.cells
      have K6 := Lib.hid (show ItC w6 W.heap.size x from below_block bm K15.out)
      obtain ⟨i0, if0⟩ := K6.out.cell
      have B6 := Lib.hid (Below.after B5.out bm)
      clear hc km bm t1 t2 t3 t4 hk1 hk hj hk0
      by_cases hlt : x < m.nt
      · have HRE2 : Hid (res = (0, false)) := Lib.hid (by rw [HRES.out, if_pos hlt])
        go_wp2_with fail
        go_ret3
        exact HOKP.out _ _ _ HC0.out (by rw [HRS.out]; exact HRE2.out) B6.out
      · have HRE2 : Hid (res = (x - m.nt + m.to, true)) := Lib.hid (by rw [HRES.out, if_neg hlt])
        go_wp2_with fail
        go_ret3
        exact HOKP.out _ _ _ HC0.out (by rw [HRS.out]; exact HRE2.out) B6.out
  · rw [prepF_nil] at hp ⊢
    obtain ⟨cd, hcd⟩ : ∃ c, (lngF E len L).2 = c := ⟨_, rfl⟩
    have HBK : Hid (bckF E len L x = cd) := Lib.hid (by unfold bckF; rw [if_pos hp, hcd])
    rw [hcd] at hp ⊢
    have HNZ := Lib.hid hp
    unfold err
    have K13 := Lib.hid (show ItC w3 W.heap.size x from below_block b3 K1.out)
    have B3 := Lib.hid (Below.after B1.out b3)
    obtain ⟨w4, hw4⟩ : ∃ w, w3.alloc (.cells #[.slice none 0 0, .int .i64 0] 96) = w := ⟨_, rfl⟩
    have b4 : Below w3.heap.size w3 w4 := by rw [← hw4]; exact (Below.refl _ _).alloc (Nat.le_refl _) _
    have k4 : MsC w4 w3.heap.size (.slice none 0 0) 0 := by rw [← hw4]; exact heap_new' _ _
    obtain ⟨e0, e1, e2, e3⟩ := k4.cells
    obtain ⟨w5, hw5⟩ : ∃ w, (w4.setCell ⟨w3.heap.size, 0, none⟩ (.slice none 0 0)).setCell ⟨w3.heap.size, 1, none⟩ (.int .i64 0) = w := ⟨_, rfl⟩
    have b5 : Below w3.heap.size w3 w5 := by rw [← hw5]; exact (b4.setCell (p := ⟨w3.heap.size, 0, none⟩) (Nat.le_refl _) _).setCell (p := ⟨w3.heap.size, 1, none⟩) (Nat.le_refl _) _
    have HB5 := Lib.hid (Below.after B3.out b5)
    clear b3 b4 b5 k4 HPR hcd hp hW1
    go_wp2_with fail
    go_ret3
    exact HBADP.out _ cd HBK.out HNZ.out HB5.out
end M
end Go.Proofs.Ytplccefjljdjnaa
