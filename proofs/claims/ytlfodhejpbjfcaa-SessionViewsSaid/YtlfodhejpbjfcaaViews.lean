/- SessionViews: the walk. -/
import Derived.Test.YtlfodhejpbjfcaaViewsP
namespace Go.Proofs.Ytlfodhejpbjfcaa
open Go.RowKit
namespace S
attribute [local go_sem] Oper.semAt_some
theorem is_same' (W : World) (c : Int) (hc : c ≠ 0) : Calls Try.prog 22 #[err c, .int .i64 c] W fun e w' => e = .returned (.bool true) ∧ w' = W :=
  (is_err W c c hc).mono fun e w ⟨h1, h2⟩ => ⟨by rw [h1, decide_eq_true rfl], h2⟩
theorem errV_nil : errV 0 = .nilIface := rfl
theorem errV_seven : errV 7 = err 7 := rfl
set_option maxRecDepth 100000 in
set_option maxHeartbeats 8000000 in
theorem views_any {W : World} {v u : Value} {L : List (ByteArray × Int)} {A : List ActL} (hL : RowNm W v L) (hA : RowAct W u A) (s : ByteArray) (hs : s.size ≤ maxLen) : Calls Try.prog 4 #[v, u, .string s] W fun e w' => e = .returned (.bool true) ∧ Below W.heap.size W w' := by
  have HF : ∀ f, Fence.wide.fn f := fun _ => trivial
  have HL := Lib.hid hL; have HA := Lib.hid hA; have HS := Lib.hid hs
  obtain ⟨a, ac, rfl, ha1, ha2, -, -⟩ := hL
  obtain ⟨b, bc, rfl, hb1, hb2, -, -⟩ := hA
  unfold maxLen at ha2 hb2
  clear hs
  go_enter Try.func4, Try.ntmps4
  go_wp2_with fail
  refine (awake_any W).mono ?_; rintro e w1 ⟨rfl, b1⟩
  have B1 := Lib.hid b1; clear b1
  by_cases hn : L.length ≤ 20
  · by_cases hk : A.length ≤ 60
    · have t1 : ¬ ((L.length : Int) > 20) := by omega
      have t2 : ¬ ((A.length : Int) > 60) := by omega
      have HNL := Lib.hid hn; have HKL := Lib.hid hk
      go_wp2_with fail
      refine (begin11_any (HL.out.below B1.out) (by have := HNL.out; omega)).mono ?_
      rintro e w2 hp
      rcases hp with ⟨h0, p, bb, m, q, sl, rfl, g1, g2, g3, hpc, hx, hv, hb⟩ | ⟨h0, po, rfl, hb⟩
      · have HPL := Lib.hid (play_start (W := W) HNL.out B1.out g1 g2 g3 hpc hx hv hb)
        have HAT := Lib.hid (show (⟨W.heap.size, [], bb⟩ : Lo).at w2 from ⟨Nat.le_trans B1.out.size hb.size, by simp⟩)
        have B2 := Lib.hid (Below.step B1.out hb)
        obtain ⟨hf, hhf⟩ : ∃ h, A.length / 2 = h := ⟨_, rfl⟩
        have HHF := Lib.hid (show hf ≤ A.length by omega)
        have hdv : (A.length : Int) / 2 = (hf : Int) := by omega
        have hdv2 : Int.tdiv (A.length : Int) 2 = (hf : Int) := by rw [← hhf]; rfl
        obtain ⟨DA, dn, dc, hsl, hdn, hdr⟩ := acts_drop b bc (l := A) (i := hf) HHF.out
        have HDR := Lib.hid (hdr W HA.out)
        have HDN := Lib.hid hdn
        clear h0 g1 g2 g3 hpc hx hv hb hdr hdn
        go_wp2_with fail
        go_loopw [56] (fun c wr => ∃ i : Nat, i ≤ hf ∧ c = .int .i64 i ∧ Playing ⟨W.heap.size, [], bb⟩ w2 p i wr ∧ Below W.heap.size W wr) (fun c _ => A.length - (intOf c).toNat)
        case atStart => exact ⟨0, Nat.zero_le _, rfl, HPL.out, B2.out⟩
        case round =>
          obtain ⟨i, hi, rfl, hPl, hbw⟩ := hrel
          have HPW := Lib.hid hPl; have HBW := Lib.hid hbw
          clear hPl hbw
          by_cases hlt : i < hf
          · have hiA : i < A.length := by have := HHF.out; omega
            have hi3 : (i : Int) < (A.length : Int) := by omega
            have hi4 : (0 : Int) ≤ (i : Int) := by omega
            have hi5 : ((i : Int) == (hf : Int)) = false := by simp; omega
            obtain ⟨a', cap', he, -, -, hss, hc⟩ := (HA.out.below HBW.out)
            simp only [Value.slice.injEq] at he
            obtain ⟨rfl, -, rfl⟩ := he
            obtain ⟨b', rfl, m0, m1, m2, m3⟩ := hc i hiA
            obtain ⟨q0, q1, q2⟩ := hss _ (List.getElem_mem hiA)
            generalize A[i] = y at *
            obtain ⟨kd, tx, s', id⟩ := y
            dsimp only at m0 m1 m2 m3 q0 q1 q2
            obtain ⟨wy, hwy⟩ : ∃ w, wr.alloc (.cells #[.int .u8 0, .int .u8 0, .string ⟨#[]⟩, .int .i64 0] 29) = w := ⟨_, rfl⟩
            have ny : wy.heap[wr.heap.size]? = some (.cells #[.int .u8 0, .int .u8 0, .string ⟨#[]⟩, .int .i64 0] 29 (0, 0)) := by rw [← hwy]; exact heap_new _ _
            have hby : Below wr.heap.size wr wy := by rw [← hwy]; exact (Below.refl _ _).alloc (Nat.le_refl _) _
            have y0 : wy.cell? ⟨wr.heap.size, 0, none⟩ = some (.int .u8 0) := by simp [World.cell?, ny]
            have y1 : wy.cell? ⟨wr.heap.size, 1, none⟩ = some (.int .u8 0) := by simp [World.cell?, ny]
            have y2 : wy.cell? ⟨wr.heap.size, 2, none⟩ = some (.string ⟨#[]⟩) := by simp [World.cell?, ny]
            have y3 : wy.cell? ⟨wr.heap.size, 3, none⟩ = some (.int .i64 0) := by simp [World.cell?, ny]
            have f0 : wy.frozen? ⟨wr.heap.size, 0, none⟩ = false := by simp [World.frozen?, ny]
            have f1 : wy.frozen? ⟨wr.heap.size, 1, none⟩ = false := by simp [World.frozen?, ny]
            have f2 : wy.frozen? ⟨wr.heap.size, 2, none⟩ = false := by simp [World.frozen?, ny]
            have f3 : wy.frozen? ⟨wr.heap.size, 3, none⟩ = false := by simp [World.frozen?, ny]
            obtain ⟨w3, hw3⟩ : ∃ w, (((wy.setCell ⟨wr.heap.size, 0, none⟩ (.int .u8 (kd : Int))).setCell ⟨wr.heap.size, 1, none⟩ (.int .u8 (tx : Int))).setCell ⟨wr.heap.size, 2, none⟩ (.string s')).setCell ⟨wr.heap.size, 3, none⟩ (.int .i64 id) = w := ⟨_, rfl⟩
            have hb3 : Below wr.heap.size wr w3 := by rw [← hw3]; exact (((hby.setCell (p := ⟨wr.heap.size, 0, none⟩) (Nat.le_refl _) _).setCell (p := ⟨wr.heap.size, 1, none⟩) (Nat.le_refl _) _).setCell (p := ⟨wr.heap.size, 2, none⟩) (Nat.le_refl _) _).setCell (p := ⟨wr.heap.size, 3, none⟩) (Nat.le_refl _) _
            have n3 : ActC w3 wr.heap.size kd tx s' id := by
              unfold ActC
              rw [← hw3]; exact heap_set0 (.int .i64 id) (heap_set0 (.string s') (heap_set0 (.int .u8 (tx : Int)) (heap_set0 (.int .u8 (kd : Int)) ny)))
            obtain ⟨x0, x1, x2, x3⟩ := n3.cells
            have HB3 := Lib.hid hb3; have HQ := Lib.hid (And.intro q0 (And.intro q1 q2)); have HI := Lib.hid hi
            have HIK := Lib.hid (show i ≤ 60 by have := HKL.out; have := HHF.out; omega)
            clear ny hby hb3 n3 hss hc q0 q1 q2
            go_wp2_with fail
            obtain ⟨X, Vs, mm, rs, f, hP, hF⟩ := HPW.out
            refine (do_any (hP.below HB3.out) HIK.out HQ.out.1 HQ.out.2.1 s' HQ.out.2.2 id).mono ?_
            rintro e w4 ⟨rfl, X', Vs', m', rs', f', hP', hF'⟩
            have HF2 := Lib.hid (hF.trans ((Fr.of HB3.out).trans hF')); have HP2 := Lib.hid hP'
            clear hP hF hP' hF' hw3 hwy
            have HP5 := Lib.hid (show Playing ⟨W.heap.size, [], bb⟩ w2 p (i + 1) w4 from ⟨X', Vs', m', rs', f', HP2.out, HF2.out⟩)
            have HB5 := Lib.hid (show Below W.heap.size W w4 from B2.out.trans (HF2.out.below HAT.out))
            clear HP2 HF2 y0 y1 y2 y3 f0 f1 f2 f3 x0 x1 x2 x3 m0 m1 m2 m3
            go_wp2_with fail
            go_roundw
            case rel => exact ⟨i + 1, by omega, by go_num, HP5.out, HB5.out⟩
            case measure => simp [intOf]; omega
          · have hih : hf = i := by omega
            subst hih
            have hcase : (hf = A.length) ∨ hf < A.length := by have := HHF.out; omega
            rcases hcase with hcase | hcase
            · have HA0 := Lib.hid hcase
              have hi6 : ¬ ((hf : Int) < (A.length : Int)) := by omega
              clear hcase
              obtain ⟨wx, hwx⟩ : ∃ w, wr = w := ⟨_, rfl⟩
              subst hwx
              have HPX : Hid (Playing ⟨W.heap.size, [], bb⟩ w2 p hf wr) := Lib.hid HPW.out
              have HBX := HBW
              go_wp2_with fail
              clear hi
              obtain ⟨X, Vs, mm, rs, f, hP, hF⟩ := HPX.out
              have HP := Lib.hid hP; have HF1 := Lib.hid hF
              have c0 : ∀ w, Below wr.heap.size wr w → w.cell? ⟨p, 0, none⟩ = some (.pointer (some ⟨X.b, 0, none⟩)) := fun w hw => PlC.box (box_below hw hP.1)
              clear hP hF
              refine wp_region_anyH (Below wr.heap.size wr) (by kernel_rfl) ?_
              have S0 : Below wr.heap.size wr wr.drew := (Below.refl _ _).drew
              refine AnyH.take (i := 0) (d := some 70) (v := ?_) (by kernel_rfl) rfl rfl HF (fun _ _ _ h => h) (.inl ⟨by rfl, ?_⟩) (by first | assumption | rfl) ?_
              rotate_left
              · intro w hS; try subst hS
                go_simp; try with_reducible rfl
              try simp only [Act.put, List.setIfInBounds_toArray, List.set_cons_zero, List.set_cons_succ]
              refine AnyH.take (i := 1) (d := some 71) (v := ?_) (by kernel_rfl) rfl rfl HF (fun _ _ _ h => h) (.inl ⟨by rfl, ?_⟩) (by first | assumption | rfl) ?_
              rotate_left
              · intro w hS; try subst hS
                go_simp; try with_reducible rfl
              try simp only [Act.put, List.setIfInBounds_toArray, List.set_cons_zero, List.set_cons_succ]
              refine AnyH.take (i := 2) (d := some 72) (v := ?_) (by kernel_rfl) rfl rfl HF (fun _ _ _ h => h) (.inl ⟨by rfl, ?_⟩) (by first | assumption | rfl) ?_
              rotate_left
              · intro w hS; try subst hS
                go_simp; try with_reducible rfl
              try simp only [Act.put, List.setIfInBounds_toArray, List.set_cons_zero, List.set_cons_succ]
              refine AnyH.take (i := 3) (d := some 73) (v := ?_) (by kernel_rfl) rfl rfl HF (fun _ _ _ h => h) (.inl ⟨by rfl, ?_⟩) (by first | assumption | rfl) ?_
              rotate_left
              · intro w hS; try subst hS
                go_simp; try with_reducible rfl
              try simp only [Act.put, List.setIfInBounds_toArray, List.set_cons_zero, List.set_cons_succ]
              refine AnyH.take (i := 5) (d := some 75) (v := ?_) (by kernel_rfl) rfl rfl HF (fun _ _ _ h => h) (.inl ⟨by rfl, ?_⟩) (by first | assumption | rfl) ?_
              rotate_left
              · intro w hS; try subst hS
                go_simp; try with_reducible rfl
              try simp only [Act.put, List.setIfInBounds_toArray, List.set_cons_zero, List.set_cons_succ]
              refine AnyH.take (i := 6) (d := some 76) (v := ?_) (by kernel_rfl) rfl rfl HF (fun _ _ _ h => h) (.inl ⟨by rfl, ?_⟩) (by first | assumption | rfl) ?_
              rotate_left
              · intro w hS; try subst hS
                go_simp; try with_reducible rfl
              try simp only [Act.put, List.setIfInBounds_toArray, List.set_cons_zero, List.set_cons_succ]
              refine AnyH.take (i := 7) (d := some 77) (v := ?_) (by kernel_rfl) rfl rfl HF (fun _ _ _ h => h) (.inl ⟨by rfl, ?_⟩) (by first | assumption | rfl) ?_
              rotate_left
              · intro w hS; try subst hS
                go_simp; try with_reducible rfl
              try simp only [Act.put, List.setIfInBounds_toArray, List.set_cons_zero, List.set_cons_succ]
              refine AnyH.take (i := 8) (d := some 78) (v := ?_) (by kernel_rfl) rfl rfl HF (fun _ _ _ h => h) (.inl ⟨by rfl, ?_⟩) (by first | assumption | rfl) ?_
              rotate_left
              · intro w hS; try subst hS
                go_simp; try with_reducible rfl
              try simp only [Act.put, List.setIfInBounds_toArray, List.set_cons_zero, List.set_cons_succ]
              refine AnyH.one (i := 4) (by kernel_rfl) (by kernel_rfl) rfl HF (by rfl) (fun K hK => ?_)
              go_simp
              first | ((with_reducible refine And.intro ?hdep ?_); (case hdep => first | rfl | (intro h; cases h))) | skip
              refine callsIn_wide.2 ((List_any (HP.out.2.2.1.below S0) (by have h1 := HP.out.2.2.2.2.1.1; have h2 := Tr.sz_eq X.T; have := HKL.out; have := HHF.out; omega)).mono ?_)
              rintro e w5 ⟨bv, rfl, hbv, b5⟩
              have S5 := Below.step S0 b5
              obtain ⟨ba, bcp, rfl⟩ := hbv.len
              have HBV := Lib.hid hbv
              clear b5 hbv
              refine hK _ _ S5 ?_
              clear hK K
              try simp only [Act.put, List.setIfInBounds_toArray, List.set_cons_zero, List.set_cons_succ]
              refine AnyH.one (i := 9) (by kernel_rfl) (by kernel_rfl) rfl HF (by rfl) (fun K hK => ?_)
              go_simp
              first | ((with_reducible refine And.intro ?hdep ?_); (case hdep => first | rfl | (intro h; cases h))) | skip
              refine callsIn_wide.2 ((Version_any (HP.out.2.2.1.below S5).1).mono ?_)
              rintro e w6 ⟨rfl, b6⟩
              have S6 := Below.step S5 b6
              have HBV6 := Lib.hid (HBV.out.below b6)
              clear b6
              refine hK _ _ S6 ?_
              clear hK K
              try simp only [Act.put, List.setIfInBounds_toArray, List.set_cons_zero, List.set_cons_succ]
              refine AnyH.take (i := 10) (d := some 12) (v := ?_) (by kernel_rfl) rfl rfl HF (fun _ _ _ h => h) (.inl ⟨by rfl, ?_⟩) (by first | assumption | rfl) ?_
              rotate_left
              · intro w hS; try subst hS
                go_simp; try with_reducible rfl
              try simp only [Act.put, List.setIfInBounds_toArray, List.set_cons_zero, List.set_cons_succ]
              refine AnyH.take (i := 11) (d := some 13) (v := ?_) (by kernel_rfl) rfl rfl HF (fun _ _ _ h => h) (.inl ⟨by rfl, ?_⟩) (by first | assumption | rfl) ?_
              rotate_left
              · intro w hS; try subst hS
                go_simp; try with_reducible rfl
              try simp only [Act.put, List.setIfInBounds_toArray, List.set_cons_zero, List.set_cons_succ]
              refine AnyH.done (by kernel_rfl) ?_
              have HX6 := Lib.hid (HP.out.2.2.1.below S6)
              have HS6 := Lib.hid S6
              have c6 : w6.cell? ⟨p, 0, none⟩ = some (.pointer (some ⟨X.b, 0, none⟩)) := c0 _ S6
              clear c0 S0 S5 S6 HBV
              go_wp2_with fail
              refine (tx_begin HX6.out).mono ?_
              rintro e w7 ⟨t, r, c, rfl, g1, g2, g3, hx, hX7, -, hb7⟩
              have lt7 := hx.lt
              have HPG := Lib.hid (PlAt.guard HP.out (Below.step HS6.out hb7) (ex := [t, r, c]) (by
                have := HS6.out.size
                simp only [List.mem_cons, List.not_mem_nil, or_false]
                rintro e (rfl | rfl | rfl)
                · exact ⟨by omega, lt7.1⟩
                · exact ⟨by omega, lt7.2.1⟩
                · exact ⟨by omega, lt7.2.2⟩))
              have HX7 := Lib.hid hx
              have HG7 := Lib.hid (show W.heap.size ≤ t ∧ W.heap.size ≤ r ∧ W.heap.size ≤ c by have := HS6.out.size; have := HBX.out.size; omega)
              have HBV7 := Lib.hid (HBV6.out.below hb7)
              have HB7 := Lib.hid (HBX.out.trans ((Below.step HS6.out hb7).mono HBX.out.size))
              have HGR := Lib.hid (fun s => getR_fresh HP.out.2.2.2.1 s)
              have HGL := Lib.hid (fun j (hj : j < X.T.toList.length) => getR_listed HP.out.2.2.2.1 hj)
              have HN7 := Lib.hid (show 0 ≤ X.N ∧ X.N ≤ 1000000 ∧ X.T.toList.length ≤ 100000 by
                have h1 := HP.out.2.2.2.1.num; have h2 := HP.out.2.2.2.1.pos; have h3 := HP.out.2.2.2.2.1.2.2.1
                have h4 := HP.out.2.2.2.2.1.1; have h5 := Tr.sz_eq X.T; have := HKL.out; have := HHF.out; omega)
              have HAT7 := Lib.hid HPG.out.2.2.2.2.2.1.2.2.2.1
              obtain ⟨TT, hTT⟩ : ∃ T, X.T = T := ⟨_, rfl⟩
              obtain ⟨NN, hNN⟩ : ∃ T, X.N = T := ⟨_, rfl⟩
              obtain ⟨QQ, hQQ⟩ : ∃ T, X.q = T := ⟨_, rfl⟩
              rw [hTT] at HGR HGL HBV7 HN7
              rw [hNN] at HN7
              rw [hTT, hNN, hQQ] at HX7
              rw [hTT, hNN]
              have HBE : Hid (X.b = bb) := Lib.hid HP.out.2.2.2.2.2.1.2.2.2.2
              rw [HBE.out] at HX7
              clear g1 g2 g3 hx hX7 hb7 lt7 c6 hTT hNN hQQ
              go_wp2_with fail
              go_loopw [91] (fun cc wr => ∃ j : Nat, j ≤ dn ∧ cc = .int .i64 j ∧ Playing ⟨W.heap.size, [t, r, c], bb⟩ w7 p (hf + j) wr ∧ Below W.heap.size W wr) (fun cc _ => dn - (intOf cc).toNat)
              case atStart => exact ⟨0, Nat.zero_le _, rfl, ⟨X, Vs, mm, rs, f, HPG.out, Fr.of (Below.refl _ _)⟩, HB7.out⟩
              case round =>
                obtain ⟨j, hj, rfl, hPl, hbw⟩ := hrel
                have HPW := Lib.hid hPl; have HBW := Lib.hid hbw
                clear hPl hbw
                by_cases hlt : j < dn
                · exfalso
                  have h6 : dn = A.length - hf := by rw [HDN.out, List.length_drop]
                  have := HA0.out
                  omega
                · have hjd : j = dn := by omega
                  subst hjd
                  obtain ⟨X', Vs', mm', rs', f', hP', hF'⟩ := HPW.out
                  have hVA : ViewAt W.heap.size wr X' ⟨t, r, c, NN, QQ, TT, false, [], []⟩ := by
                    have hok := hP'.2.2.2.2.2.1
                    have e1 : X'.b = bb := hok.2.2.2.2
                    refine ⟨by rw [e1]; exact HX7.out.fr hF' (by simp) (by simp) (by simp), hP'.2.2.1, ⟨fun e => hok.2.2.1.2 (by rw [e]; simp), fun e => hok.2.2.1.2 (by rw [e]; simp)⟩, HG7.out.1, HG7.out.2.1, HG7.out.2.2, hok.2.1.1, hok.2.2.1.1⟩
                  have HVA := Lib.hid hVA
                  have HBV8 := Lib.hid (HBV7.out.keep (hF'.keep _ (by decide) (by decide) (by decide)))
                  have HXS := Lib.hid (show 0 ≤ X'.N ∧ X'.N ≤ 1000000 ∧ X'.T.sz ≤ 800000 ∧ X'.last.length ≤ 800000 by
                    have h1 := hP'.2.2.2.1.num; have h2 := hP'.2.2.2.1.pos
                    obtain ⟨h3, h4, h5, -⟩ := hP'.2.2.2.2.1
                    have h6 : j = A.length - hf := by rw [HDN.out, List.length_drop]
                    have := HKL.out; have := HHF.out
                    omega)
                  clear hP' hF' hVA hlt hj
                  obtain ⟨bl, hbl⟩ : ∃ n, TT.toList.length = n := ⟨_, rfl⟩
                  have HBL := Lib.hid hbl
                  try rw [hbl]
                  clear hbl
                  go_wp2_with fail
                  go_loopw [101] (fun cc wr => ∃ k : Nat, k ≤ bl ∧ cc = .int .i64 k ∧ (∃ rd, rd.length ≤ k ∧ ViewAt W.heap.size wr X' ⟨t, r, c, NN, QQ, TT, false, rd, []⟩) ∧ (∃ B0, Prs B0 wr (.slice ba bl bcp) TT.toList) ∧ Below W.heap.size W wr) (fun cc _ => bl - (intOf cc).toNat)
                  case atStart => exact ⟨0, Nat.zero_le _, rfl, ⟨[], by simp, HVA.out⟩, ⟨_, by rw [← HBL.out]; exact HBV8.out⟩, HBW.out⟩
                  case round =>
                    obtain ⟨k, hk, rfl, ⟨rd, hrd, hV⟩, ⟨B0, hPr⟩, hbz⟩ := hrel
                    have HV := Lib.hid hV; have HPr := Lib.hid hPr; have HBZ := Lib.hid hbz; have HRD := Lib.hid hrd; have HKB := Lib.hid hk
                    clear hV hrd hbz
                    by_cases hlt : k < bl
                    · have hi3 : (k : Int) < (bl : Int) := by omega
                      have hi4 : (0 : Int) ≤ (k : Int) := by omega
                      have hwk : IntKind.i64.wrap ((k : Int) + 1) = (k : Int) + 1 := by
                        have h6 := HN7.out.2.2
                        rw [HBL.out] at h6
                        rw [IntKind.wrap_i64]; omega
                      have hkl : k < TT.toList.length := by rw [HBL.out]; exact hlt
                      obtain ⟨g, cap, hv, -, -, hE⟩ := hPr.at hkl
                      simp only [Value.slice.injEq] at hv
                      obtain ⟨rfl, -, rfl⟩ := hv
                      obtain ⟨m0, m1⟩ := hE wr (Below.refl _ _) k hkl
                      have HGK := Lib.hid (HGL.out k hkl)
                      clear hE hPr
                      generalize TT.toList[k] = y at *
                      obtain ⟨sx, ix⟩ := y
                      dsimp only at m0 m1 HGK
                      obtain ⟨wy, hwy⟩ : ∃ w, wr.alloc (.cells #[.string ⟨#[]⟩, .int .i64 0] 49) = w := ⟨_, rfl⟩
                      have ny : wy.heap[wr.heap.size]? = some (.cells #[.string ⟨#[]⟩, .int .i64 0] 49 (0, 0)) := by rw [← hwy]; exact heap_new _ _
                      have hby : Below wr.heap.size wr wy := by rw [← hwy]; exact (Below.refl _ _).alloc (Nat.le_refl _) _
                      have y0 : wy.cell? ⟨wr.heap.size, 0, none⟩ = some (.string ⟨#[]⟩) := by simp [World.cell?, ny]
                      have y1 : wy.cell? ⟨wr.heap.size, 1, none⟩ = some (.int .i64 0) := by simp [World.cell?, ny]
                      have y2 : wy.frozen? ⟨wr.heap.size, 0, none⟩ = false := by simp [World.frozen?, ny]
                      have y3 : wy.frozen? ⟨wr.heap.size, 1, none⟩ = false := by simp [World.frozen?, ny]
                      obtain ⟨wa, hwa⟩ : ∃ w, (wy.setCell ⟨wr.heap.size, 0, none⟩ (.string sx)).setCell ⟨wr.heap.size, 1, none⟩ (.int .i64 ix) = w := ⟨_, rfl⟩
                      have hba : Below wr.heap.size wr wa := by rw [← hwa]; exact (hby.setCell (p := ⟨wr.heap.size, 0, none⟩) (Nat.le_refl _) _).setCell (p := ⟨wr.heap.size, 1, none⟩) (Nat.le_refl _) _
                      have na : wa.heap[wr.heap.size]? = some (.cells #[.string sx, .int .i64 ix] 49 (0, 0)) := by
                        rw [← hwa]; exact heap_set0 (.int .i64 ix) (heap_set0 (.string sx) ny)
                      have x0 : wa.cell? ⟨wr.heap.size, 0, none⟩ = some (.string sx) := by simp [World.cell?, na]
                      have HNA := Lib.hid na; have HBA := Lib.hid hba
                      clear ny hby na hba
                      go_wp2_with fail
                      refine (view_get (HV.out.below HBA.out) sx (by have := HGK.out.2; omega) (by have h1 := HRD.out; have h2 := HN7.out.2.2; rw [HBL.out] at h2; dsimp only; omega)).mono ?_
                      rintro e w5 ⟨rfl, hV5, hb5, hk5⟩
                      dsimp only
                      rw [HGK.out.1]
                      have e0 : errV 0 = .nilIface := rfl
                      dsimp only
                      rw [e0]
                      have n5 := hk5 _ _ _ HNA.out
                      have x1 : w5.cell? ⟨wr.heap.size, 1, none⟩ = some (.int .i64 ix) := by simp [World.cell?, n5]
                      have HV5 := Lib.hid hV5
                      have HPr5 := Lib.hid ((HPr.out.below HBA.out).keep hk5)
                      have HB5 := Lib.hid (show Below W.heap.size W w5 from HBZ.out.trans ((HBA.out.mono HBZ.out.size).trans hb5))
                      have HRD5 := Lib.hid (Nat.le_trans (readG_len false rd [] sx) (Nat.succ_le_succ HRD.out))
                      clear hV5 hb5 hk5 n5 hwa hwy y0 y1 y2 y3 x0 m0 m1 e0
                      go_wp2_with fail
                      go_roundw
                      case rel => exact ⟨k + 1, by omega, by go_num, ⟨_, HRD5.out, HV5.out⟩, ⟨_, HPr5.out⟩, HB5.out⟩
                      case measure => simp [intOf]; omega
                    · have hkb : k = bl := by omega
                      subst hkb
                      have e0 : errV 0 = .nilIface := rfl
                      have hss : s.size ≤ 9223372036854775807 := by have := HS.out; unfold maxLen at this; exact this
                      have hrl : rd.length < 1000000 := by have h1 := HRD.out; have h2 := HN7.out.2.2; rw [HBL.out] at h2; omega
                      have HG := Lib.hid (view_get HV.out s hss hrl)
                      have HV0 := Lib.hid (refValid_any wr s hss)
                      have HRS := Lib.hid (HGR.out s)
                      clear hss hrl hPr hlt hk
                      go_wp2_with fail
                      refine HG.out.mono ?_
                      rintro e w5 ⟨rfl, hV5, hb5, hk5⟩
                      dsimp only
                      have HV5 := Lib.hid hV5
                      have HB5 := Lib.hid (show Below W.heap.size W w5 from HBZ.out.trans hb5)
                      have HP5 := Lib.hid (HPr.out.keep hk5)
                      clear hV5 hb5 hk5
                      rw [HRS.out]
                      have HVD := Lib.hid (refValid_any w5 s (by have := HS.out; unfold maxLen at this; exact this))
                      have HFD := Lib.hid (refFind_any s HP5.out (by have := HN7.out.2.2; omega))
                      obtain ⟨fd, hfd⟩ : ∃ x, findR s TT.toList = x := ⟨_, rfl⟩
                      rw [hfd] at HFD ⊢
                      clear hfd HG HV0 HRS
                      by_cases hk : okName s
                      · rw [if_pos hk]
                        have hd : decide (1 ≤ s.size ∧ s.size ≤ 32) = true := decide_eq_true hk
                        clear hk
                        cases fd with
                        | some pr =>
                          obtain ⟨sx, ix⟩ := pr
                          dsimp only
                          rw [e0]
                          have hfv : findV (some (sx, ix)) = .tuple #[.int .i64 ix, .bool true] := rfl
                          go_wp2_with fail
                          refine HFD.out.mono ?_; rintro e w ⟨rfl, h⟩; rw [h, hfv]; clear h w hfv
                          go_wp2_with fail
                          refine HVD.out.mono ?_; rintro e w ⟨rfl, h⟩; rw [h, hd]; clear h w hd
                          go_wp2_with fail
                          refine (view_commit HV5.out rfl HXS.out.1 HXS.out.2.1 HN7.out.1 HN7.out.2.1 HXS.out.2.2.1 HXS.out.2.2.2).mono ?_
                          rintro e w6 ⟨rfl, hV6, hb6⟩
                          dsimp only at hV6 ⊢
                          rw [if_neg (by decide), errV_nil]
                          have HV6 := Lib.hid hV6; have HB6 := Lib.hid (HB5.out.trans hb6)
                          clear hV6 hb6
                          go_wp2_with fail
                          refine (view_commit HV6.out rfl HXS.out.1 HXS.out.2.1 HN7.out.1 HN7.out.2.1 HXS.out.2.2.1 HXS.out.2.2.2).mono ?_
                          rintro e w7 ⟨rfl, hV7, hb7⟩
                          dsimp only at hV7 ⊢
                          rw [if_pos rfl, errV_seven]
                          have HV7 := Lib.hid hV7; have HB7 := Lib.hid (HB6.out.trans hb7)
                          clear hV7 hb7
                          go_wp2_with fail
                          refine (TxnVersion_any HV7.out.1.1).mono ?_; rintro e w ⟨rfl, h⟩; rw [h]; clear h w
                          go_wp2_with fail
                          refine (is_same' w7 7 (by decide)).mono ?_; rintro e w ⟨rfl, h⟩; rw [h]; clear h w
                          go_wp2_with fail
                          go_ret
                          exact ⟨rfl, HB7.out⟩
                        | none =>
                          dsimp only
                          have e5 : errV 5 = .iface 60 (.int .i64 5) := rfl
                          rw [e5]
                          have hfv : findV none = .tuple #[.int .i64 0, .bool false] := rfl
                          go_wp2_with fail
                          refine HFD.out.mono ?_; rintro e w ⟨rfl, h⟩; rw [h, hfv]; clear h w hfv
                          go_wp2_with fail
                          refine HVD.out.mono ?_; rintro e w ⟨rfl, h⟩; rw [h, hd]; clear h w hd
                          go_wp2_with fail
                          refine (view_commit HV5.out rfl HXS.out.1 HXS.out.2.1 HN7.out.1 HN7.out.2.1 HXS.out.2.2.1 HXS.out.2.2.2).mono ?_
                          rintro e w6 ⟨rfl, hV6, hb6⟩
                          dsimp only at hV6 ⊢
                          rw [if_neg (by decide), errV_nil]
                          have HV6 := Lib.hid hV6; have HB6 := Lib.hid (HB5.out.trans hb6)
                          clear hV6 hb6
                          go_wp2_with fail
                          refine (view_commit HV6.out rfl HXS.out.1 HXS.out.2.1 HN7.out.1 HN7.out.2.1 HXS.out.2.2.1 HXS.out.2.2.2).mono ?_
                          rintro e w7 ⟨rfl, hV7, hb7⟩
                          dsimp only at hV7 ⊢
                          rw [if_pos rfl, errV_seven]
                          have HV7 := Lib.hid hV7; have HB7 := Lib.hid (HB6.out.trans hb7)
                          clear hV7 hb7
                          go_wp2_with fail
                          refine (TxnVersion_any HV7.out.1.1).mono ?_; rintro e w ⟨rfl, h⟩; rw [h]; clear h w
                          go_wp2_with fail
                          refine (is_same' w7 7 (by decide)).mono ?_; rintro e w ⟨rfl, h⟩; rw [h]; clear h w
                          go_wp2_with fail
                          go_ret
                          exact ⟨rfl, HB7.out⟩
                      · rw [if_neg hk]
                        have hd : decide (1 ≤ s.size ∧ s.size ≤ 32) = false := decide_eq_false hk
                        clear hk
                        dsimp only
                        have e13 : errV 13 = err 13 := rfl
                        rw [e13]
                        cases fd with
                        | some pr =>
                          obtain ⟨sx, ix⟩ := pr
                          have hfv : findV (some (sx, ix)) = .tuple #[.int .i64 ix, .bool true] := rfl
                          go_wp2_with fail
                          refine HFD.out.mono ?_; rintro e w ⟨rfl, h⟩; rw [h, hfv]; clear h w hfv
                          go_wp2_with fail
                          refine HVD.out.mono ?_; rintro e w ⟨rfl, h⟩; rw [h, hd]; clear h w hd
                          go_wp2_with fail
                          refine (view_commit HV5.out rfl HXS.out.1 HXS.out.2.1 HN7.out.1 HN7.out.2.1 HXS.out.2.2.1 HXS.out.2.2.2).mono ?_
                          rintro e w6 ⟨rfl, hV6, hb6⟩
                          dsimp only at hV6 ⊢
                          rw [if_neg (by decide), errV_nil]
                          have HV6 := Lib.hid hV6; have HB6 := Lib.hid (HB5.out.trans hb6)
                          clear hV6 hb6
                          go_wp2_with fail
                          refine (view_commit HV6.out rfl HXS.out.1 HXS.out.2.1 HN7.out.1 HN7.out.2.1 HXS.out.2.2.1 HXS.out.2.2.2).mono ?_
                          rintro e w7 ⟨rfl, hV7, hb7⟩
                          dsimp only at hV7 ⊢
                          rw [if_pos rfl, errV_seven]
                          have HV7 := Lib.hid hV7; have HB7 := Lib.hid (HB6.out.trans hb7)
                          clear hV7 hb7
                          go_wp2_with fail
                          refine (TxnVersion_any HV7.out.1.1).mono ?_; rintro e w ⟨rfl, h⟩; rw [h]; clear h w
                          go_wp2_with fail
                          refine (is_same' w7 7 (by decide)).mono ?_; rintro e w ⟨rfl, h⟩; rw [h]; clear h w
                          go_wp2_with fail
                          go_ret
                          exact ⟨rfl, HB7.out⟩
                        | none =>
                          have hfv : findV none = .tuple #[.int .i64 0, .bool false] := rfl
                          go_wp2_with fail
                          refine HFD.out.mono ?_; rintro e w ⟨rfl, h⟩; rw [h, hfv]; clear h w hfv
                          go_wp2_with fail
                          refine HVD.out.mono ?_; rintro e w ⟨rfl, h⟩; rw [h, hd]; clear h w hd
                          go_wp2_with fail
                          refine (view_commit HV5.out rfl HXS.out.1 HXS.out.2.1 HN7.out.1 HN7.out.2.1 HXS.out.2.2.1 HXS.out.2.2.2).mono ?_
                          rintro e w6 ⟨rfl, hV6, hb6⟩
                          dsimp only at hV6 ⊢
                          rw [if_neg (by decide), errV_nil]
                          have HV6 := Lib.hid hV6; have HB6 := Lib.hid (HB5.out.trans hb6)
                          clear hV6 hb6
                          go_wp2_with fail
                          refine (view_commit HV6.out rfl HXS.out.1 HXS.out.2.1 HN7.out.1 HN7.out.2.1 HXS.out.2.2.1 HXS.out.2.2.2).mono ?_
                          rintro e w7 ⟨rfl, hV7, hb7⟩
                          dsimp only at hV7 ⊢
                          rw [if_pos rfl, errV_seven]
                          have HV7 := Lib.hid hV7; have HB7 := Lib.hid (HB6.out.trans hb7)
                          clear hV7 hb7
                          go_wp2_with fail
                          refine (TxnVersion_any HV7.out.1.1).mono ?_; rintro e w ⟨rfl, h⟩; rw [h]; clear h w
                          go_wp2_with fail
                          refine (is_same' w7 7 (by decide)).mono ?_; rintro e w ⟨rfl, h⟩; rw [h]; clear h w
                          go_wp2_with fail
                          go_ret
                          exact ⟨rfl, HB7.out⟩
            · have hi3 : (hf : Int) < (A.length : Int) := by omega
              have hi4 : (0 : Int) ≤ (hf : Int) := by omega
              have hi5 : ((hf : Int) == (hf : Int)) = true := by simp
              obtain ⟨a', cap', he, -, -, hss, hc⟩ := (HA.out.below HBW.out)
              simp only [Value.slice.injEq] at he
              obtain ⟨rfl, -, rfl⟩ := he
              obtain ⟨b', rfl, m0, m1, m2, m3⟩ := hc hf hcase
              generalize A[hf] = y at *
              obtain ⟨kd, tx, s', id⟩ := y
              dsimp only at m0 m1 m2 m3
              obtain ⟨wy, hwy⟩ : ∃ w, wr.alloc (.cells #[.int .u8 0, .int .u8 0, .string ⟨#[]⟩, .int .i64 0] 29) = w := ⟨_, rfl⟩
              have ny : wy.heap[wr.heap.size]? = some (.cells #[.int .u8 0, .int .u8 0, .string ⟨#[]⟩, .int .i64 0] 29 (0, 0)) := by rw [← hwy]; exact heap_new _ _
              have hby : Below wr.heap.size wr wy := by rw [← hwy]; exact (Below.refl _ _).alloc (Nat.le_refl _) _
              have y0 : wy.cell? ⟨wr.heap.size, 0, none⟩ = some (.int .u8 0) := by simp [World.cell?, ny]
              have y1 : wy.cell? ⟨wr.heap.size, 1, none⟩ = some (.int .u8 0) := by simp [World.cell?, ny]
              have y2 : wy.cell? ⟨wr.heap.size, 2, none⟩ = some (.string ⟨#[]⟩) := by simp [World.cell?, ny]
              have y3 : wy.cell? ⟨wr.heap.size, 3, none⟩ = some (.int .i64 0) := by simp [World.cell?, ny]
              have f0 : wy.frozen? ⟨wr.heap.size, 0, none⟩ = false := by simp [World.frozen?, ny]
              have f1 : wy.frozen? ⟨wr.heap.size, 1, none⟩ = false := by simp [World.frozen?, ny]
              have f2 : wy.frozen? ⟨wr.heap.size, 2, none⟩ = false := by simp [World.frozen?, ny]
              have f3 : wy.frozen? ⟨wr.heap.size, 3, none⟩ = false := by simp [World.frozen?, ny]
              obtain ⟨w3, hw3⟩ : ∃ w, (((wy.setCell ⟨wr.heap.size, 0, none⟩ (.int .u8 (kd : Int))).setCell ⟨wr.heap.size, 1, none⟩ (.int .u8 (tx : Int))).setCell ⟨wr.heap.size, 2, none⟩ (.string s')).setCell ⟨wr.heap.size, 3, none⟩ (.int .i64 id) = w := ⟨_, rfl⟩
              have hb3 : Below wr.heap.size wr w3 := by rw [← hw3]; exact (((hby.setCell (p := ⟨wr.heap.size, 0, none⟩) (Nat.le_refl _) _).setCell (p := ⟨wr.heap.size, 1, none⟩) (Nat.le_refl _) _).setCell (p := ⟨wr.heap.size, 2, none⟩) (Nat.le_refl _) _).setCell (p := ⟨wr.heap.size, 3, none⟩) (Nat.le_refl _) _
              have n3 : ActC w3 wr.heap.size kd tx s' id := by
                unfold ActC
                rw [← hw3]; exact heap_set0 (.int .i64 id) (heap_set0 (.string s') (heap_set0 (.int .u8 (tx : Int)) (heap_set0 (.int .u8 (kd : Int)) ny)))
              obtain ⟨x0, x1, x2, x3⟩ := n3.cells
              have HPX : Hid (Playing ⟨W.heap.size, [], bb⟩ w2 p hf w3) := Lib.hid (by
                obtain ⟨X, Vs, mm, rs, f, hP, hF⟩ := HPW.out
                exact ⟨X, Vs, mm, rs, f, hP.below hb3, hF.trans (Fr.of hb3)⟩)
              have HBX := Lib.hid (HBW.out.trans (hb3.mono HBW.out.size))
              clear ny hby hb3 n3 hss hc
              go_wp2_with fail
              clear hw3 hwy y0 y1 y2 y3 f0 f1 f2 f3 x0 x1 x2 x3 m0 m1 m2 m3
              clear hi
              obtain ⟨X, Vs, mm, rs, f, hP, hF⟩ := HPX.out
              have HP := Lib.hid hP; have HF1 := Lib.hid hF
              have c0 : ∀ w, Below w3.heap.size w3 w → w.cell? ⟨p, 0, none⟩ = some (.pointer (some ⟨X.b, 0, none⟩)) := fun w hw => PlC.box (box_below hw hP.1)
              clear hP hF
              refine wp_region_anyH (Below w3.heap.size w3) (by kernel_rfl) ?_
              have S0 : Below w3.heap.size w3 w3.drew := (Below.refl _ _).drew
              refine AnyH.take (i := 0) (d := some 70) (v := ?_) (by kernel_rfl) rfl rfl HF (fun _ _ _ h => h) (.inl ⟨by rfl, ?_⟩) (by first | assumption | rfl) ?_
              rotate_left
              · intro w hS; try subst hS
                go_simp; try with_reducible rfl
              try simp only [Act.put, List.setIfInBounds_toArray, List.set_cons_zero, List.set_cons_succ]
              refine AnyH.take (i := 1) (d := some 71) (v := ?_) (by kernel_rfl) rfl rfl HF (fun _ _ _ h => h) (.inl ⟨by rfl, ?_⟩) (by first | assumption | rfl) ?_
              rotate_left
              · intro w hS; try subst hS
                go_simp; try with_reducible rfl
              try simp only [Act.put, List.setIfInBounds_toArray, List.set_cons_zero, List.set_cons_succ]
              refine AnyH.take (i := 2) (d := some 72) (v := ?_) (by kernel_rfl) rfl rfl HF (fun _ _ _ h => h) (.inl ⟨by rfl, ?_⟩) (by first | assumption | rfl) ?_
              rotate_left
              · intro w hS; try subst hS
                go_simp; try with_reducible rfl
              try simp only [Act.put, List.setIfInBounds_toArray, List.set_cons_zero, List.set_cons_succ]
              refine AnyH.take (i := 3) (d := some 73) (v := ?_) (by kernel_rfl) rfl rfl HF (fun _ _ _ h => h) (.inl ⟨by rfl, ?_⟩) (by first | assumption | rfl) ?_
              rotate_left
              · intro w hS; try subst hS
                go_simp; try with_reducible rfl
              try simp only [Act.put, List.setIfInBounds_toArray, List.set_cons_zero, List.set_cons_succ]
              refine AnyH.take (i := 5) (d := some 75) (v := ?_) (by kernel_rfl) rfl rfl HF (fun _ _ _ h => h) (.inl ⟨by rfl, ?_⟩) (by first | assumption | rfl) ?_
              rotate_left
              · intro w hS; try subst hS
                go_simp; try with_reducible rfl
              try simp only [Act.put, List.setIfInBounds_toArray, List.set_cons_zero, List.set_cons_succ]
              refine AnyH.take (i := 6) (d := some 76) (v := ?_) (by kernel_rfl) rfl rfl HF (fun _ _ _ h => h) (.inl ⟨by rfl, ?_⟩) (by first | assumption | rfl) ?_
              rotate_left
              · intro w hS; try subst hS
                go_simp; try with_reducible rfl
              try simp only [Act.put, List.setIfInBounds_toArray, List.set_cons_zero, List.set_cons_succ]
              refine AnyH.take (i := 7) (d := some 77) (v := ?_) (by kernel_rfl) rfl rfl HF (fun _ _ _ h => h) (.inl ⟨by rfl, ?_⟩) (by first | assumption | rfl) ?_
              rotate_left
              · intro w hS; try subst hS
                go_simp; try with_reducible rfl
              try simp only [Act.put, List.setIfInBounds_toArray, List.set_cons_zero, List.set_cons_succ]
              refine AnyH.take (i := 8) (d := some 78) (v := ?_) (by kernel_rfl) rfl rfl HF (fun _ _ _ h => h) (.inl ⟨by rfl, ?_⟩) (by first | assumption | rfl) ?_
              rotate_left
              · intro w hS; try subst hS
                go_simp; try with_reducible rfl
              try simp only [Act.put, List.setIfInBounds_toArray, List.set_cons_zero, List.set_cons_succ]
              refine AnyH.one (i := 4) (by kernel_rfl) (by kernel_rfl) rfl HF (by rfl) (fun K hK => ?_)
              go_simp
              first | ((with_reducible refine And.intro ?hdep ?_); (case hdep => first | rfl | (intro h; cases h))) | skip
              refine callsIn_wide.2 ((List_any (HP.out.2.2.1.below S0) (by have h1 := HP.out.2.2.2.2.1.1; have h2 := Tr.sz_eq X.T; have := HKL.out; have := HHF.out; omega)).mono ?_)
              rintro e w5 ⟨bv, rfl, hbv, b5⟩
              have S5 := Below.step S0 b5
              obtain ⟨ba, bcp, rfl⟩ := hbv.len
              have HBV := Lib.hid hbv
              clear b5 hbv
              refine hK _ _ S5 ?_
              clear hK K
              try simp only [Act.put, List.setIfInBounds_toArray, List.set_cons_zero, List.set_cons_succ]
              refine AnyH.one (i := 9) (by kernel_rfl) (by kernel_rfl) rfl HF (by rfl) (fun K hK => ?_)
              go_simp
              first | ((with_reducible refine And.intro ?hdep ?_); (case hdep => first | rfl | (intro h; cases h))) | skip
              refine callsIn_wide.2 ((Version_any (HP.out.2.2.1.below S5).1).mono ?_)
              rintro e w6 ⟨rfl, b6⟩
              have S6 := Below.step S5 b6
              have HBV6 := Lib.hid (HBV.out.below b6)
              clear b6
              refine hK _ _ S6 ?_
              clear hK K
              try simp only [Act.put, List.setIfInBounds_toArray, List.set_cons_zero, List.set_cons_succ]
              refine AnyH.take (i := 10) (d := some 12) (v := ?_) (by kernel_rfl) rfl rfl HF (fun _ _ _ h => h) (.inl ⟨by rfl, ?_⟩) (by first | assumption | rfl) ?_
              rotate_left
              · intro w hS; try subst hS
                go_simp; try with_reducible rfl
              try simp only [Act.put, List.setIfInBounds_toArray, List.set_cons_zero, List.set_cons_succ]
              refine AnyH.take (i := 11) (d := some 13) (v := ?_) (by kernel_rfl) rfl rfl HF (fun _ _ _ h => h) (.inl ⟨by rfl, ?_⟩) (by first | assumption | rfl) ?_
              rotate_left
              · intro w hS; try subst hS
                go_simp; try with_reducible rfl
              try simp only [Act.put, List.setIfInBounds_toArray, List.set_cons_zero, List.set_cons_succ]
              refine AnyH.done (by kernel_rfl) ?_
              have HX6 := Lib.hid (HP.out.2.2.1.below S6)
              have HS6 := Lib.hid S6
              have c6 : w6.cell? ⟨p, 0, none⟩ = some (.pointer (some ⟨X.b, 0, none⟩)) := c0 _ S6
              clear c0 S0 S5 S6 HBV
              go_wp2_with fail
              refine (tx_begin HX6.out).mono ?_
              rintro e w7 ⟨t, r, c, rfl, g1, g2, g3, hx, hX7, -, hb7⟩
              have lt7 := hx.lt
              have HPG := Lib.hid (PlAt.guard HP.out (Below.step HS6.out hb7) (ex := [t, r, c]) (by
                have := HS6.out.size
                simp only [List.mem_cons, List.not_mem_nil, or_false]
                rintro e (rfl | rfl | rfl)
                · exact ⟨by omega, lt7.1⟩
                · exact ⟨by omega, lt7.2.1⟩
                · exact ⟨by omega, lt7.2.2⟩))
              have HX7 := Lib.hid hx
              have HG7 := Lib.hid (show W.heap.size ≤ t ∧ W.heap.size ≤ r ∧ W.heap.size ≤ c by have := HS6.out.size; have := HBX.out.size; omega)
              have HBV7 := Lib.hid (HBV6.out.below hb7)
              have HB7 := Lib.hid (HBX.out.trans ((Below.step HS6.out hb7).mono HBX.out.size))
              have HGR := Lib.hid (fun s => getR_fresh HP.out.2.2.2.1 s)
              have HGL := Lib.hid (fun j (hj : j < X.T.toList.length) => getR_listed HP.out.2.2.2.1 hj)
              have HN7 := Lib.hid (show 0 ≤ X.N ∧ X.N ≤ 1000000 ∧ X.T.toList.length ≤ 100000 by
                have h1 := HP.out.2.2.2.1.num; have h2 := HP.out.2.2.2.1.pos; have h3 := HP.out.2.2.2.2.1.2.2.1
                have h4 := HP.out.2.2.2.2.1.1; have h5 := Tr.sz_eq X.T; have := HKL.out; have := HHF.out; omega)
              have HAT7 := Lib.hid HPG.out.2.2.2.2.2.1.2.2.2.1
              obtain ⟨TT, hTT⟩ : ∃ T, X.T = T := ⟨_, rfl⟩
              obtain ⟨NN, hNN⟩ : ∃ T, X.N = T := ⟨_, rfl⟩
              obtain ⟨QQ, hQQ⟩ : ∃ T, X.q = T := ⟨_, rfl⟩
              rw [hTT] at HGR HGL HBV7 HN7
              rw [hNN] at HN7
              rw [hTT, hNN, hQQ] at HX7
              rw [hTT, hNN]
              have HBE : Hid (X.b = bb) := Lib.hid HP.out.2.2.2.2.2.1.2.2.2.2
              rw [HBE.out] at HX7
              clear g1 g2 g3 hx hX7 hb7 lt7 c6 hTT hNN hQQ
              go_wp2_with fail
              go_loopw [91] (fun cc wr => ∃ j : Nat, j ≤ dn ∧ cc = .int .i64 j ∧ Playing ⟨W.heap.size, [t, r, c], bb⟩ w7 p (hf + j) wr ∧ Below W.heap.size W wr) (fun cc _ => dn - (intOf cc).toNat)
              case atStart => exact ⟨0, Nat.zero_le _, rfl, ⟨X, Vs, mm, rs, f, HPG.out, Fr.of (Below.refl _ _)⟩, HB7.out⟩
              case round =>
                obtain ⟨j, hj, rfl, hPl, hbw⟩ := hrel
                have HPW := Lib.hid hPl; have HBW := Lib.hid hbw
                clear hPl hbw
                by_cases hlt : j < dn
                · have hi3 : (j : Int) < (dn : Int) := by omega
                  have hwj : IntKind.i64.wrap ((j : Int) + 1) = (j : Int) + 1 := by
                    have h6 : dn = A.length - hf := by rw [HDN.out, List.length_drop]
                    have := HKL.out
                    rw [IntKind.wrap_i64]; omega
                  have hi4 : (0 : Int) ≤ (j : Int) := by omega
                  obtain ⟨a', cap', he, -, -, hss, hc⟩ := (HDR.out.below HBW.out)
                  simp only [Value.slice.injEq] at he
                  obtain ⟨rfl, -, rfl⟩ := he
                  obtain ⟨b', rfl, m0, m1, m2, m3⟩ := hc j (by rw [← HDN.out]; exact hlt)
                  obtain ⟨q0, q1, q2⟩ := hss _ (List.getElem_mem (by rw [← HDN.out]; exact hlt))
                  generalize (A.drop hf)[j]'(by rw [← HDN.out]; exact hlt) = y at *
                  obtain ⟨kd, tx, s', id⟩ := y
                  dsimp only at m0 m1 m2 m3 q0 q1 q2
                  obtain ⟨wy, hwy⟩ : ∃ w, wr.alloc (.cells #[.int .u8 0, .int .u8 0, .string ⟨#[]⟩, .int .i64 0] 29) = w := ⟨_, rfl⟩
                  have ny : wy.heap[wr.heap.size]? = some (.cells #[.int .u8 0, .int .u8 0, .string ⟨#[]⟩, .int .i64 0] 29 (0, 0)) := by rw [← hwy]; exact heap_new _ _
                  have hby : Below wr.heap.size wr wy := by rw [← hwy]; exact (Below.refl _ _).alloc (Nat.le_refl _) _
                  have y0 : wy.cell? ⟨wr.heap.size, 0, none⟩ = some (.int .u8 0) := by simp [World.cell?, ny]
                  have y1 : wy.cell? ⟨wr.heap.size, 1, none⟩ = some (.int .u8 0) := by simp [World.cell?, ny]
                  have y2 : wy.cell? ⟨wr.heap.size, 2, none⟩ = some (.string ⟨#[]⟩) := by simp [World.cell?, ny]
                  have y3 : wy.cell? ⟨wr.heap.size, 3, none⟩ = some (.int .i64 0) := by simp [World.cell?, ny]
                  have f0 : wy.frozen? ⟨wr.heap.size, 0, none⟩ = false := by simp [World.frozen?, ny]
                  have f1 : wy.frozen? ⟨wr.heap.size, 1, none⟩ = false := by simp [World.frozen?, ny]
                  have f2 : wy.frozen? ⟨wr.heap.size, 2, none⟩ = false := by simp [World.frozen?, ny]
                  have f3 : wy.frozen? ⟨wr.heap.size, 3, none⟩ = false := by simp [World.frozen?, ny]
                  obtain ⟨w3, hw3⟩ : ∃ w, (((wy.setCell ⟨wr.heap.size, 0, none⟩ (.int .u8 (kd : Int))).setCell ⟨wr.heap.size, 1, none⟩ (.int .u8 (tx : Int))).setCell ⟨wr.heap.size, 2, none⟩ (.string s')).setCell ⟨wr.heap.size, 3, none⟩ (.int .i64 id) = w := ⟨_, rfl⟩
                  have hb3 : Below wr.heap.size wr w3 := by rw [← hw3]; exact (((hby.setCell (p := ⟨wr.heap.size, 0, none⟩) (Nat.le_refl _) _).setCell (p := ⟨wr.heap.size, 1, none⟩) (Nat.le_refl _) _).setCell (p := ⟨wr.heap.size, 2, none⟩) (Nat.le_refl _) _).setCell (p := ⟨wr.heap.size, 3, none⟩) (Nat.le_refl _) _
                  have n3 : ActC w3 wr.heap.size kd tx s' id := by
                    unfold ActC
                    rw [← hw3]; exact heap_set0 (.int .i64 id) (heap_set0 (.string s') (heap_set0 (.int .u8 (tx : Int)) (heap_set0 (.int .u8 (kd : Int)) ny)))
                  obtain ⟨x0, x1, x2, x3⟩ := n3.cells
                  have HB3 := Lib.hid hb3; have HQ := Lib.hid (And.intro q0 (And.intro q1 q2)); have HI := Lib.hid hj
                  have HIK := Lib.hid (show hf + j ≤ 60 by have := HKL.out; have h6 : dn = A.length - hf := (by rw [HDN.out, List.length_drop]); omega)
                  clear ny hby hb3 n3 hss hc q0 q1 q2
                  go_wp2_with fail
                  obtain ⟨X, Vs, mm, rs, f, hP, hF⟩ := HPW.out
                  refine (do_any (hP.below HB3.out) HIK.out HQ.out.1 HQ.out.2.1 s' HQ.out.2.2 id).mono ?_
                  rintro e w4 ⟨rfl, X', Vs', m', rs', f', hP', hF'⟩
                  have HF2 := Lib.hid (hF.trans ((Fr.of HB3.out).trans hF')); have HP2 := Lib.hid hP'
                  clear hP hF hP' hF' hw3 hwy
                  have HP5 := Lib.hid (show Playing ⟨W.heap.size, [t, r, c], bb⟩ w7 p (hf + (j + 1)) w4 from ⟨X', Vs', m', rs', f', HP2.out, HF2.out⟩)
                  have HB5 := Lib.hid (show Below W.heap.size W w4 from HB7.out.trans (HF2.out.below HAT7.out))
                  clear HP2 HF2 y0 y1 y2 y3 f0 f1 f2 f3 x0 x1 x2 x3 m0 m1 m2 m3
                  go_wp2_with fail
                  go_roundw
                  case rel => exact ⟨j + 1, by omega, by go_num, HP5.out, HB5.out⟩
                  case measure => simp [intOf]; omega
                · have hjd : j = dn := by omega
                  subst hjd
                  obtain ⟨X', Vs', mm', rs', f', hP', hF'⟩ := HPW.out
                  have hVA : ViewAt W.heap.size wr X' ⟨t, r, c, NN, QQ, TT, false, [], []⟩ := by
                    have hok := hP'.2.2.2.2.2.1
                    have e1 : X'.b = bb := hok.2.2.2.2
                    refine ⟨by rw [e1]; exact HX7.out.fr hF' (by simp) (by simp) (by simp), hP'.2.2.1, ⟨fun e => hok.2.2.1.2 (by rw [e]; simp), fun e => hok.2.2.1.2 (by rw [e]; simp)⟩, HG7.out.1, HG7.out.2.1, HG7.out.2.2, hok.2.1.1, hok.2.2.1.1⟩
                  have HVA := Lib.hid hVA
                  have HBV8 := Lib.hid (HBV7.out.keep (hF'.keep _ (by decide) (by decide) (by decide)))
                  have HXS := Lib.hid (show 0 ≤ X'.N ∧ X'.N ≤ 1000000 ∧ X'.T.sz ≤ 800000 ∧ X'.last.length ≤ 800000 by
                    have h1 := hP'.2.2.2.1.num; have h2 := hP'.2.2.2.1.pos
                    obtain ⟨h3, h4, h5, -⟩ := hP'.2.2.2.2.1
                    have h6 : j = A.length - hf := by rw [HDN.out, List.length_drop]
                    have := HKL.out; have := HHF.out
                    omega)
                  clear hP' hF' hVA hlt hj
                  obtain ⟨bl, hbl⟩ : ∃ n, TT.toList.length = n := ⟨_, rfl⟩
                  have HBL := Lib.hid hbl
                  try rw [hbl]
                  clear hbl
                  go_wp2_with fail
                  go_loopw [101] (fun cc wr => ∃ k : Nat, k ≤ bl ∧ cc = .int .i64 k ∧ (∃ rd, rd.length ≤ k ∧ ViewAt W.heap.size wr X' ⟨t, r, c, NN, QQ, TT, false, rd, []⟩) ∧ (∃ B0, Prs B0 wr (.slice ba bl bcp) TT.toList) ∧ Below W.heap.size W wr) (fun cc _ => bl - (intOf cc).toNat)
                  case atStart => exact ⟨0, Nat.zero_le _, rfl, ⟨[], by simp, HVA.out⟩, ⟨_, by rw [← HBL.out]; exact HBV8.out⟩, HBW.out⟩
                  case round =>
                    obtain ⟨k, hk, rfl, ⟨rd, hrd, hV⟩, ⟨B0, hPr⟩, hbz⟩ := hrel
                    have HV := Lib.hid hV; have HPr := Lib.hid hPr; have HBZ := Lib.hid hbz; have HRD := Lib.hid hrd; have HKB := Lib.hid hk
                    clear hV hrd hbz
                    by_cases hlt : k < bl
                    · have hi3 : (k : Int) < (bl : Int) := by omega
                      have hi4 : (0 : Int) ≤ (k : Int) := by omega
                      have hwk : IntKind.i64.wrap ((k : Int) + 1) = (k : Int) + 1 := by
                        have h6 := HN7.out.2.2
                        rw [HBL.out] at h6
                        rw [IntKind.wrap_i64]; omega
                      have hkl : k < TT.toList.length := by rw [HBL.out]; exact hlt
                      obtain ⟨g, cap, hv, -, -, hE⟩ := hPr.at hkl
                      simp only [Value.slice.injEq] at hv
                      obtain ⟨rfl, -, rfl⟩ := hv
                      obtain ⟨m0, m1⟩ := hE wr (Below.refl _ _) k hkl
                      have HGK := Lib.hid (HGL.out k hkl)
                      clear hE hPr
                      generalize TT.toList[k] = y at *
                      obtain ⟨sx, ix⟩ := y
                      dsimp only at m0 m1 HGK
                      obtain ⟨wy, hwy⟩ : ∃ w, wr.alloc (.cells #[.string ⟨#[]⟩, .int .i64 0] 49) = w := ⟨_, rfl⟩
                      have ny : wy.heap[wr.heap.size]? = some (.cells #[.string ⟨#[]⟩, .int .i64 0] 49 (0, 0)) := by rw [← hwy]; exact heap_new _ _
                      have hby : Below wr.heap.size wr wy := by rw [← hwy]; exact (Below.refl _ _).alloc (Nat.le_refl _) _
                      have y0 : wy.cell? ⟨wr.heap.size, 0, none⟩ = some (.string ⟨#[]⟩) := by simp [World.cell?, ny]
                      have y1 : wy.cell? ⟨wr.heap.size, 1, none⟩ = some (.int .i64 0) := by simp [World.cell?, ny]
                      have y2 : wy.frozen? ⟨wr.heap.size, 0, none⟩ = false := by simp [World.frozen?, ny]
                      have y3 : wy.frozen? ⟨wr.heap.size, 1, none⟩ = false := by simp [World.frozen?, ny]
                      obtain ⟨wa, hwa⟩ : ∃ w, (wy.setCell ⟨wr.heap.size, 0, none⟩ (.string sx)).setCell ⟨wr.heap.size, 1, none⟩ (.int .i64 ix) = w := ⟨_, rfl⟩
                      have hba : Below wr.heap.size wr wa := by rw [← hwa]; exact (hby.setCell (p := ⟨wr.heap.size, 0, none⟩) (Nat.le_refl _) _).setCell (p := ⟨wr.heap.size, 1, none⟩) (Nat.le_refl _) _
                      have na : wa.heap[wr.heap.size]? = some (.cells #[.string sx, .int .i64 ix] 49 (0, 0)) := by
                        rw [← hwa]; exact heap_set0 (.int .i64 ix) (heap_set0 (.string sx) ny)
                      have x0 : wa.cell? ⟨wr.heap.size, 0, none⟩ = some (.string sx) := by simp [World.cell?, na]
                      have HNA := Lib.hid na; have HBA := Lib.hid hba
                      clear ny hby na hba
                      go_wp2_with fail
                      refine (view_get (HV.out.below HBA.out) sx (by have := HGK.out.2; omega) (by have h1 := HRD.out; have h2 := HN7.out.2.2; rw [HBL.out] at h2; dsimp only; omega)).mono ?_
                      rintro e w5 ⟨rfl, hV5, hb5, hk5⟩
                      dsimp only
                      rw [HGK.out.1]
                      have e0 : errV 0 = .nilIface := rfl
                      dsimp only
                      rw [e0]
                      have n5 := hk5 _ _ _ HNA.out
                      have x1 : w5.cell? ⟨wr.heap.size, 1, none⟩ = some (.int .i64 ix) := by simp [World.cell?, n5]
                      have HV5 := Lib.hid hV5
                      have HPr5 := Lib.hid ((HPr.out.below HBA.out).keep hk5)
                      have HB5 := Lib.hid (show Below W.heap.size W w5 from HBZ.out.trans ((HBA.out.mono HBZ.out.size).trans hb5))
                      have HRD5 := Lib.hid (Nat.le_trans (readG_len false rd [] sx) (Nat.succ_le_succ HRD.out))
                      clear hV5 hb5 hk5 n5 hwa hwy y0 y1 y2 y3 x0 m0 m1 e0
                      go_wp2_with fail
                      go_roundw
                      case rel => exact ⟨k + 1, by omega, by go_num, ⟨_, HRD5.out, HV5.out⟩, ⟨_, HPr5.out⟩, HB5.out⟩
                      case measure => simp [intOf]; omega
                    · have hkb : k = bl := by omega
                      subst hkb
                      have e0 : errV 0 = .nilIface := rfl
                      have hss : s.size ≤ 9223372036854775807 := by have := HS.out; unfold maxLen at this; exact this
                      have hrl : rd.length < 1000000 := by have h1 := HRD.out; have h2 := HN7.out.2.2; rw [HBL.out] at h2; omega
                      have HG := Lib.hid (view_get HV.out s hss hrl)
                      have HV0 := Lib.hid (refValid_any wr s hss)
                      have HRS := Lib.hid (HGR.out s)
                      clear hss hrl hPr hlt hk
                      go_wp2_with fail
                      refine HG.out.mono ?_
                      rintro e w5 ⟨rfl, hV5, hb5, hk5⟩
                      dsimp only
                      have HV5 := Lib.hid hV5
                      have HB5 := Lib.hid (show Below W.heap.size W w5 from HBZ.out.trans hb5)
                      have HP5 := Lib.hid (HPr.out.keep hk5)
                      clear hV5 hb5 hk5
                      rw [HRS.out]
                      have HVD := Lib.hid (refValid_any w5 s (by have := HS.out; unfold maxLen at this; exact this))
                      have HFD := Lib.hid (refFind_any s HP5.out (by have := HN7.out.2.2; omega))
                      obtain ⟨fd, hfd⟩ : ∃ x, findR s TT.toList = x := ⟨_, rfl⟩
                      rw [hfd] at HFD ⊢
                      clear hfd HG HV0 HRS
                      by_cases hk : okName s
                      · rw [if_pos hk]
                        have hd : decide (1 ≤ s.size ∧ s.size ≤ 32) = true := decide_eq_true hk
                        clear hk
                        cases fd with
                        | some pr =>
                          obtain ⟨sx, ix⟩ := pr
                          dsimp only
                          rw [e0]
                          have hfv : findV (some (sx, ix)) = .tuple #[.int .i64 ix, .bool true] := rfl
                          go_wp2_with fail
                          refine HFD.out.mono ?_; rintro e w ⟨rfl, h⟩; rw [h, hfv]; clear h w hfv
                          go_wp2_with fail
                          refine HVD.out.mono ?_; rintro e w ⟨rfl, h⟩; rw [h, hd]; clear h w hd
                          go_wp2_with fail
                          refine (view_commit HV5.out rfl HXS.out.1 HXS.out.2.1 HN7.out.1 HN7.out.2.1 HXS.out.2.2.1 HXS.out.2.2.2).mono ?_
                          rintro e w6 ⟨rfl, hV6, hb6⟩
                          dsimp only at hV6 ⊢
                          rw [if_neg (by decide), errV_nil]
                          have HV6 := Lib.hid hV6; have HB6 := Lib.hid (HB5.out.trans hb6)
                          clear hV6 hb6
                          go_wp2_with fail
                          refine (view_commit HV6.out rfl HXS.out.1 HXS.out.2.1 HN7.out.1 HN7.out.2.1 HXS.out.2.2.1 HXS.out.2.2.2).mono ?_
                          rintro e w7 ⟨rfl, hV7, hb7⟩
                          dsimp only at hV7 ⊢
                          rw [if_pos rfl, errV_seven]
                          have HV7 := Lib.hid hV7; have HB7 := Lib.hid (HB6.out.trans hb7)
                          clear hV7 hb7
                          go_wp2_with fail
                          refine (TxnVersion_any HV7.out.1.1).mono ?_; rintro e w ⟨rfl, h⟩; rw [h]; clear h w
                          go_wp2_with fail
                          refine (is_same' w7 7 (by decide)).mono ?_; rintro e w ⟨rfl, h⟩; rw [h]; clear h w
                          go_wp2_with fail
                          go_ret
                          exact ⟨rfl, HB7.out⟩
                        | none =>
                          dsimp only
                          have e5 : errV 5 = .iface 60 (.int .i64 5) := rfl
                          rw [e5]
                          have hfv : findV none = .tuple #[.int .i64 0, .bool false] := rfl
                          go_wp2_with fail
                          refine HFD.out.mono ?_; rintro e w ⟨rfl, h⟩; rw [h, hfv]; clear h w hfv
                          go_wp2_with fail
                          refine HVD.out.mono ?_; rintro e w ⟨rfl, h⟩; rw [h, hd]; clear h w hd
                          go_wp2_with fail
                          refine (view_commit HV5.out rfl HXS.out.1 HXS.out.2.1 HN7.out.1 HN7.out.2.1 HXS.out.2.2.1 HXS.out.2.2.2).mono ?_
                          rintro e w6 ⟨rfl, hV6, hb6⟩
                          dsimp only at hV6 ⊢
                          rw [if_neg (by decide), errV_nil]
                          have HV6 := Lib.hid hV6; have HB6 := Lib.hid (HB5.out.trans hb6)
                          clear hV6 hb6
                          go_wp2_with fail
                          refine (view_commit HV6.out rfl HXS.out.1 HXS.out.2.1 HN7.out.1 HN7.out.2.1 HXS.out.2.2.1 HXS.out.2.2.2).mono ?_
                          rintro e w7 ⟨rfl, hV7, hb7⟩
                          dsimp only at hV7 ⊢
                          rw [if_pos rfl, errV_seven]
                          have HV7 := Lib.hid hV7; have HB7 := Lib.hid (HB6.out.trans hb7)
                          clear hV7 hb7
                          go_wp2_with fail
                          refine (TxnVersion_any HV7.out.1.1).mono ?_; rintro e w ⟨rfl, h⟩; rw [h]; clear h w
                          go_wp2_with fail
                          refine (is_same' w7 7 (by decide)).mono ?_; rintro e w ⟨rfl, h⟩; rw [h]; clear h w
                          go_wp2_with fail
                          go_ret
                          exact ⟨rfl, HB7.out⟩
                      · rw [if_neg hk]
                        have hd : decide (1 ≤ s.size ∧ s.size ≤ 32) = false := decide_eq_false hk
                        clear hk
                        dsimp only
                        have e13 : errV 13 = err 13 := rfl
                        rw [e13]
                        cases fd with
                        | some pr =>
                          obtain ⟨sx, ix⟩ := pr
                          have hfv : findV (some (sx, ix)) = .tuple #[.int .i64 ix, .bool true] := rfl
                          go_wp2_with fail
                          refine HFD.out.mono ?_; rintro e w ⟨rfl, h⟩; rw [h, hfv]; clear h w hfv
                          go_wp2_with fail
                          refine HVD.out.mono ?_; rintro e w ⟨rfl, h⟩; rw [h, hd]; clear h w hd
                          go_wp2_with fail
                          refine (view_commit HV5.out rfl HXS.out.1 HXS.out.2.1 HN7.out.1 HN7.out.2.1 HXS.out.2.2.1 HXS.out.2.2.2).mono ?_
                          rintro e w6 ⟨rfl, hV6, hb6⟩
                          dsimp only at hV6 ⊢
                          rw [if_neg (by decide), errV_nil]
                          have HV6 := Lib.hid hV6; have HB6 := Lib.hid (HB5.out.trans hb6)
                          clear hV6 hb6
                          go_wp2_with fail
                          refine (view_commit HV6.out rfl HXS.out.1 HXS.out.2.1 HN7.out.1 HN7.out.2.1 HXS.out.2.2.1 HXS.out.2.2.2).mono ?_
                          rintro e w7 ⟨rfl, hV7, hb7⟩
                          dsimp only at hV7 ⊢
                          rw [if_pos rfl, errV_seven]
                          have HV7 := Lib.hid hV7; have HB7 := Lib.hid (HB6.out.trans hb7)
                          clear hV7 hb7
                          go_wp2_with fail
                          refine (TxnVersion_any HV7.out.1.1).mono ?_; rintro e w ⟨rfl, h⟩; rw [h]; clear h w
                          go_wp2_with fail
                          refine (is_same' w7 7 (by decide)).mono ?_; rintro e w ⟨rfl, h⟩; rw [h]; clear h w
                          go_wp2_with fail
                          go_ret
                          exact ⟨rfl, HB7.out⟩
                        | none =>
                          have hfv : findV none = .tuple #[.int .i64 0, .bool false] := rfl
                          go_wp2_with fail
                          refine HFD.out.mono ?_; rintro e w ⟨rfl, h⟩; rw [h, hfv]; clear h w hfv
                          go_wp2_with fail
                          refine HVD.out.mono ?_; rintro e w ⟨rfl, h⟩; rw [h, hd]; clear h w hd
                          go_wp2_with fail
                          refine (view_commit HV5.out rfl HXS.out.1 HXS.out.2.1 HN7.out.1 HN7.out.2.1 HXS.out.2.2.1 HXS.out.2.2.2).mono ?_
                          rintro e w6 ⟨rfl, hV6, hb6⟩
                          dsimp only at hV6 ⊢
                          rw [if_neg (by decide), errV_nil]
                          have HV6 := Lib.hid hV6; have HB6 := Lib.hid (HB5.out.trans hb6)
                          clear hV6 hb6
                          go_wp2_with fail
                          refine (view_commit HV6.out rfl HXS.out.1 HXS.out.2.1 HN7.out.1 HN7.out.2.1 HXS.out.2.2.1 HXS.out.2.2.2).mono ?_
                          rintro e w7 ⟨rfl, hV7, hb7⟩
                          dsimp only at hV7 ⊢
                          rw [if_pos rfl, errV_seven]
                          have HV7 := Lib.hid hV7; have HB7 := Lib.hid (HB6.out.trans hb7)
                          clear hV7 hb7
                          go_wp2_with fail
                          refine (TxnVersion_any HV7.out.1.1).mono ?_; rintro e w ⟨rfl, h⟩; rw [h]; clear h w
                          go_wp2_with fail
                          refine (is_same' w7 7 (by decide)).mono ?_; rintro e w ⟨rfl, h⟩; rw [h]; clear h w
                          go_wp2_with fail
                          go_ret
                          exact ⟨rfl, HB7.out⟩
      · have B2 := Lib.hid (Below.step B1.out hb)
        clear h0 hb
        go_wp2_with fail
        go_ret
        exact ⟨rfl, B2.out⟩
    · have t2 : (A.length : Int) > 60 := by omega
      have t1 : ¬ ((L.length : Int) > 20) := by omega
      go_wp2_with fail
      refine (awake_any w1).mono ?_; rintro e w2 ⟨rfl, b2⟩
      have B2 := Lib.hid (Below.step B1.out b2); clear b2
      go_wp2_with fail
      go_ret
      exact ⟨rfl, B2.out⟩
  · have t1 : (L.length : Int) > 20 := by omega
    go_wp2_with fail
    refine (awake_any w1).mono ?_; rintro e w2 ⟨rfl, b2⟩
    have B2 := Lib.hid (Below.step B1.out b2); clear b2
    go_wp2_with fail
    go_ret
    exact ⟨rfl, B2.out⟩
end S
end Go.Proofs.Ytlfodhejpbjfcaa
