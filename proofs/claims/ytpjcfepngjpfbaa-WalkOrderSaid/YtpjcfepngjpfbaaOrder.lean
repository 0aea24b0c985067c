/- WalkOrder: the walk (printed by walk/mkorder.py). -/
import Derived.Test.YtpjcfepngjpfbaaAws
import Derived.Test.YtpjcfepngjpfbaaOrdF
import Derived.Test.YtpjcfepngjpfbaaBks
import Derived.Test.YtpjcfepngjpfbaaLen11
import Derived.Test.YtpjcfepngjpfbaaImport
set_option linter.unusedVariables false
set_option linter.unusedSimpArgs false
namespace Go.Proofs.Ytpjcfepngjpfbaa
open Go.RowKit Go.Lib
namespace M
attribute [local go_sem] Oper.semAt_some
/-- All blocks but one stand as they stood. -/
def OneB (M g : Nat) (A Y : World) : Prop := ∀ b, b < M → b ≠ g → Y.heap[b]? = A.heap[b]?
theorem OneB.own {M g : Nat} {A Y C : World} {row : Option Nat} (h : OneB M g A Y) (hM : A.heap.size = M) (hg : Y.grownBy C row) (hr : CalmRow M Y row) : OneB M g A C := fun b hb hn => by
  have e := h b hb hn
  have hl : b < Y.heap.size := by
    have h2 : A.heap[b]? = some (A.heap[b]'(by omega)) := Array.getElem?_eq_getElem (by omega)
    rw [h2] at e
    exact (Array.getElem?_eq_some_iff.1 e).1
  rw [hg.block b hl (fun e => by have := (hr b e.symm).1; omega), e]
theorem OneB.below {M g : Nat} {A Y C : World} (h : OneB M g A Y) (b : Below M Y C) : OneB M g A C := fun k hk hn => (b.block k hk).trans (h k hk hn)
theorem OneB.set {M g : Nat} {A Y : World} (h : OneB M g A Y) (v : Value) : OneB M g A (Y.setCell ⟨g, 0, none⟩ v) := fun k hk hn => (Below.heap_setCell _ _ _ _ hn).trans (h k hk hn)
theorem OneB.cell {M g k i : Nat} {A Y : World} (h : OneB M g A Y) (hk : k < M) (hn : k ≠ g) : Y.cell? ⟨k, i, none⟩ = A.cell? ⟨k, i, none⟩ := by
  unfold World.cell?; dsimp only; rw [h k hk hn]
set_option maxRecDepth 100000 in
set_option maxHeartbeats 16000000 in
theorem order_any {W : World} {v : Value} {L : List RuI} (hL : RowRu W v L) :
    Calls Try.prog 8 #[v] W fun e w' => e = .returned (.bool true) ∧ Below W.heap.size W w' := by
  have HF : ∀ f, Fence.wide.fn f := fun _ => trivial
  obtain ⟨W0, hW0⟩ : ∃ w, W.alloc (.cells #[.bool false] 4) = w := ⟨_, rfl⟩
  have n6 : W0.heap[W.heap.size]? = some (.cells #[.bool false] 4 (0, 0)) := by rw [← hW0]; exact heap_new' _ _
  have hb0 : Below W.heap.size W W0 := by rw [← hW0]; exact (Below.refl _ W).alloc (Nat.le_refl _) _
  have hl0 := hL.under hb0 (Nat.le_refl _)
  have HL0 : Hid (∀ C, Below W0.heap.size W0 C → RowRu C v L) := Lib.hid (fun C hC => hl0.under hC (Nat.le_refl _))
  have HN6 := Lib.hid n6; have HB0 := Lib.hid hb0
  have HNW := Lib.hid (snew_any W0 1000 (by omega))
  obtain ⟨va, ln, vc, hv, hln⟩ : ∃ a l c, v = .slice a l c ∧ L.length = l := by obtain ⟨a, c, h, -⟩ := hL; exact ⟨a, _, c, h, rfl⟩
  subst hv
  have HLN := Lib.hid hln
  clear n6 hb0 hL hl0 hln
  refine (callsIn_wide (n := 9)).1 ?_
  refine callsIn_of_wp_marks Try.func8 rfl trivial ?_ rfl
  simp only [Try.ntmps8, List.size_toArray, List.length_cons, List.length_nil, Nat.reduceAdd, Nat.reduceSub, Array.replicate_succ, Array.replicate_zero, List.push_toArray, List.append_toArray, List.nil_append, List.cons_append]
  gi_wp2_with fail
  first | refine callsIn_wide.2 (HNW.out.mono ?_) | refine ⟨(fun h => by cases h), callsIn_wide.2 (HNW.out.mono ?_)⟩ | refine ⟨trivial, (fun h => by cases h), callsIn_wide.2 (HNW.out.mono ?_)⟩
  rintro e w1 ⟨B, rfl, s1, b1⟩
  have HAW := Lib.hid (awake17_any w1)
  have HS1 := Lib.hid s1; have HB1 := Lib.hid b1
  clear s1 b1 HNW
  gi_wp2_with fail
  first | refine callsIn_wide.2 (HAW.out.mono ?_) | refine ⟨(fun h => by cases h), callsIn_wide.2 (HAW.out.mono ?_)⟩ | refine ⟨trivial, (fun h => by cases h), callsIn_wide.2 (HAW.out.mono ?_)⟩
  rintro e w2 ⟨rfl, b2⟩
  have HS2 := Lib.hid (HS1.out.below b2)
  have HB2 : Hid (Below W0.heap.size W0 w2) := Lib.hid (Below.after HB1.out b2)
  have HCK := Lib.hid (check11_any (HL0.out w2 HB2.out))
  clear b2 HS1 HB1 HAW hW0
  gi_wp2_with fail
  first | refine callsIn_wide.2 (HCK.out.mono ?_) | refine ⟨(fun h => by cases h), callsIn_wide.2 (HCK.out.mono ?_)⟩ | refine ⟨trivial, (fun h => by cases h), callsIn_wide.2 (HCK.out.mono ?_)⟩
  rintro e w3 ⟨c, rfl, hc, b3⟩
  have HS3 := Lib.hid (HS2.out.below b3)
  have HB3 : Hid (Below W0.heap.size W0 w3) := Lib.hid (Below.after HB2.out b3)
  have HBW3 : Hid (Below W.heap.size W w3) := Lib.hid (Below.after HB0.out HB3.out)
  have HN3 := Lib.hid (below_block HB3.out HN6.out)
  clear b3 HS2 HB2 HCK
  by_cases hc0 : c = 0
  case neg =>
    have b0 : (c != 0) = true := by simp [hc0]
    clear hc hc0
    have k8 := HN3.out
    have c8 : w3.cell? ⟨W.heap.size, 0, none⟩ = some (.bool false) := by simp [World.cell?, k8]
    have f8 : w3.frozen? ⟨W.heap.size, 0, none⟩ = false := by simp [World.frozen?, k8]
    obtain ⟨Ye, hYe⟩ : ∃ y, w3.setCell ⟨W.heap.size, 0, none⟩ (.bool true) = y := ⟨_, rfl⟩
    have hc8 : Ye.cell? ⟨W.heap.size, 0, none⟩ = some (.bool true) := by
      have := heap_set0 (i := 0) (.bool true) k8
      rw [← hYe]; simp [World.cell?, this]
    have HBF : Hid (Below W.heap.size W Ye) := Lib.hid (by rw [← hYe]; exact HBW3.out.setCell (p := ⟨W.heap.size, 0, none⟩) (Nat.le_refl _) _)
    clear k8
    gi_wp2_with fail
    refine ⟨.bool true, ?_, rfl, HBF.out⟩
    simp [results, Try.f8, go_sem, hc8]
  have hok := hc.1 hc0
  have b0 : (c != 0) = false := by simp [hc0]
  clear hc hc0
  by_cases hbg : 100 < ln
  · have b1 : decide ((100 : Int) < (ln : Int)) = true := decide_eq_true (by omega)
    have b1' : (100 : Int) < (ln : Int) := by omega
    clear hbg
    have k8 := HN3.out
    have c8 : w3.cell? ⟨W.heap.size, 0, none⟩ = some (.bool false) := by simp [World.cell?, k8]
    have f8 : w3.frozen? ⟨W.heap.size, 0, none⟩ = false := by simp [World.frozen?, k8]
    obtain ⟨Ye, hYe⟩ : ∃ y, w3.setCell ⟨W.heap.size, 0, none⟩ (.bool true) = y := ⟨_, rfl⟩
    have hc8 : Ye.cell? ⟨W.heap.size, 0, none⟩ = some (.bool true) := by
      have := heap_set0 (i := 0) (.bool true) k8
      rw [← hYe]; simp [World.cell?, this]
    have HBF : Hid (Below W.heap.size W Ye) := Lib.hid (by rw [← hYe]; exact HBW3.out.setCell (p := ⟨W.heap.size, 0, none⟩) (Nat.le_refl _) _)
    clear k8
    gi_wp2_with fail
    refine ⟨.bool true, ?_, rfl, HBF.out⟩
    simp [results, Try.f8, go_sem, hc8]
  have b1 : decide ((100 : Int) < (ln : Int)) = false := decide_eq_false (by omega)
  have b1' : ¬ (100 : Int) < (ln : Int) := by omega
  have HL100 : Hid (L.length ≤ 100) := Lib.hid (by have := HLN.out; omega)
  have HLE := Lib.hid (lengths11_any (HL0.out w3 HB3.out) (by have := HL100.out; omega))
  clear hbg hok
  gi_wp2_with fail
  first | refine callsIn_wide.2 (HLE.out.mono ?_) | refine ⟨(fun h => by cases h), callsIn_wide.2 (HLE.out.mono ?_)⟩ | refine ⟨trivial, (fun h => by cases h), callsIn_wide.2 (HLE.out.mono ?_)⟩
  rintro e w4 ⟨lq, c, rfl, hc, b4⟩
  have HS4 := Lib.hid (HS3.out.below b4)
  have HB4 : Hid (Below W0.heap.size W0 w4) := Lib.hid (Below.after HB3.out b4)
  have HBW4 : Hid (Below W.heap.size W w4) := Lib.hid (Below.after HBW3.out b4)
  have HN4 := Lib.hid (below_block b4 HN3.out)
  clear b4 HS3 HB3 HBW3 HN3 HLE b0 b1 b1'
  by_cases hc0 : c = 0
  case neg =>
    have b0 : (c != 0) = true := by simp [hc0]
    clear hc hc0
    have k8 := HN4.out
    have c8 : w4.cell? ⟨W.heap.size, 0, none⟩ = some (.bool false) := by simp [World.cell?, k8]
    have f8 : w4.frozen? ⟨W.heap.size, 0, none⟩ = false := by simp [World.frozen?, k8]
    obtain ⟨Ye, hYe⟩ : ∃ y, w4.setCell ⟨W.heap.size, 0, none⟩ (.bool true) = y := ⟨_, rfl⟩
    have hc8 : Ye.cell? ⟨W.heap.size, 0, none⟩ = some (.bool true) := by
      have := heap_set0 (i := 0) (.bool true) k8
      rw [← hYe]; simp [World.cell?, this]
    have HBF : Hid (Below W.heap.size W Ye) := Lib.hid (by rw [← hYe]; exact HBW4.out.setCell (p := ⟨W.heap.size, 0, none⟩) (Nat.le_refl _) _)
    clear k8
    gi_wp2_with fail
    refine ⟨.bool true, ?_, rfl, HBF.out⟩
    simp [results, Try.f8, go_sem, hc8]
  obtain ⟨hok, hlen, -⟩ := hc hc0
  have b0 : (c != 0) = false := by simp [hc0]
  clear hc hc0
  have HIM := Lib.hid (import_any HS4.out .nil (fun C hC => HL0.out C (HB4.out.trans hC)) hok hlen (by have := HL100.out; simp; omega) (by have := HL100.out; simp; omega))
  clear hok hlen
  gi_wp2_with fail
  first | refine callsIn_wide.2 (HIM.out.mono ?_) | refine ⟨(fun h => by cases h), callsIn_wide.2 (HIM.out.mono ?_)⟩ | refine ⟨trivial, (fun h => by cases h), callsIn_wide.2 (HIM.out.mono ?_)⟩
  rintro e w5 ⟨id, E, rfl, s5, hwd, -, hEl, hid, -, -, b5, -⟩
  have HEL : Hid (E.length ≤ 100) := Lib.hid (by have := HL100.out; simp at hEl; omega)
  have HWD := Lib.hid hwd; have HID := Lib.hid hid; have HS5 := Lib.hid s5
  have HB5 : Hid (Below W.heap.size W w5) := Lib.hid (HBW4.out.trans (b5.mono HB0.out.size))
  have HN5 : Hid (w5.heap[W.heap.size]? = some (.cells #[.bool false] 4 (0, 0))) := Lib.hid ((b5.block _ (Array.getElem?_eq_some_iff.1 HN6.out).1).trans HN4.out)
  have HTB := Lib.hid (table_any HS5.out HWD.out.wf (by have := HEL.out; omega))
  clear hwd hEl hid s5 b5 HIM HS4 HB4 HBW4 HN4 b0 HN6 HL0
  gi_wp2_with fail
  first | refine callsIn_wide.2 (HTB.out.mono ?_) | refine ⟨(fun h => by cases h), callsIn_wide.2 (HTB.out.mono ?_)⟩ | refine ⟨trivial, (fun h => by cases h), callsIn_wide.2 (HTB.out.mono ?_)⟩
  rintro e w6 ⟨rv, lv, rfl, hR, -, b6⟩
  have HN7 := Lib.hid (below_block b6 HN5.out)
  have HS7 := Lib.hid (HS5.out.below b6)
  have HB7 : Hid (Below W.heap.size W w6) := Lib.hid (Below.after HB5.out b6)
  have HOR := Lib.hid (order17_any HWD.out.wf (by have := HEL.out; omega) hR HID.out)
  clear b6 hR HTB HN5 HS5 HB5
  gi_wp2_with fail
  first | refine callsIn_wide.2 (HOR.out.mono ?_) | refine ⟨(fun h => by cases h), callsIn_wide.2 (HOR.out.mono ?_)⟩ | refine ⟨trivial, (fun h => by cases h), callsIn_wide.2 (HOR.out.mono ?_)⟩
  rintro e w9 ⟨wv, rfl, hP, b9⟩
  obtain ⟨wa, wc, hwv⟩ := hP.len
  obtain ⟨yl, hyl⟩ : ∃ y, (ordF E id []).length = y := ⟨_, rfl⟩
  rw [hyl] at hwv
  subst hwv
  obtain ⟨wz, w10, hz10, hs10, k15, b10, z15, f15⟩ := newBx w9 24 (.slice none 0 0) (.slice wa yl wc)
  obtain ⟨g15, hg15⟩ : ∃ y, w9.heap.size = y := ⟨_, rfl⟩
  rw [hg15] at hs10 k15 z15 f15
  obtain ⟨wy, w11, hz11, hs11, k16, b11, z16, f16⟩ := newBx w10 3 (.int .i64 0) (.int .i64 0)
  obtain ⟨g16, hg16⟩ : ∃ y, w10.heap.size = y := ⟨_, rfl⟩
  rw [hg16] at hs11 k16 z16 f16
  have b911 := Below.after (Below.after b9 b10) b11
  have HP11 := Lib.hid (SlA.below (SlA.below hP b10) b11)
  have HK15 := Lib.hid (below_block b11 k15); have HK16 := Lib.hid k16
  have HN11 := Lib.hid (below_block b911 HN7.out)
  have HS11 := Lib.hid (HS7.out.below b911)
  have HB11 := Lib.hid (Below.after HB7.out b911)
  have HG16 : Hid (W.heap.size < g15 ∧ g15 < g16) := Lib.hid ⟨by rw [← hg15]; exact (Array.getElem?_eq_some_iff.1 (below_block b9 HN7.out)).1, by rw [← hg16]; exact (Array.getElem?_eq_some_iff.1 k15).1⟩
  have HYL := Lib.hid hyl
  have HYM : Hid (yl ≤ 100) := Lib.hid (by rw [← hyl]; have h := nodup_le E.length (ordF E id []) (ordF_nodup id [] List.nodup_nil) (ordF_bd HID.out (S := []) (by simp)); have := HEL.out; omega)
  have HPS := Lib.hid (rules_all HS11.out HWD.out.wf (by have := HEL.out; omega) HID.out)
  clear hP b9 b10 b11 b911 k15 k16 HOR HN7 HS7 HB7 hyl
  gi_wp2_with fail
  first | refine callsIn_wide.2 (HPS.out.mono ?_) | refine ⟨(fun h => by cases h), callsIn_wide.2 (HPS.out.mono ?_)⟩ | refine ⟨trivial, (fun h => by cases h), callsIn_wide.2 (HPS.out.mono ?_)⟩
  rintro e w12 ⟨vq, rfl, ⟨gf, lb, rfl, hen, hst⟩, b12⟩
  obtain ⟨M, hM⟩ : ∃ y, w12.heap.size = y := ⟨_, rfl⟩
  have HM := Lib.hid hM
  have k15 := below_block b12 HK15.out
  have k16 := below_block b12 HK16.out
  have kr := below_block b12 HN11.out
  have HLT : Hid (g15 < M ∧ g16 < M ∧ W.heap.size < M) := Lib.hid (by rw [← hM]; exact ⟨(Array.getElem?_eq_some_iff.1 k15).1, (Array.getElem?_eq_some_iff.1 k16).1, (Array.getElem?_eq_some_iff.1 kr).1⟩)
  have HBW : Hid (Below W.heap.size W w12) := Lib.hid (Below.after HB11.out b12)
  have HP12 := Lib.hid (SlA.below HP11.out b12)
  have HK15b := Lib.hid k15; have HK16b := Lib.hid k16; have HKR := Lib.hid kr
  have HEN := Lib.hid hen; have HSQ := Lib.hid hst
  rw [hM] at HSQ
  clear hen hst b12 k15 k16 kr HN11 HS11 HB11 HP11 HK15 HK16 HPS hz10 hs10 z15 f15 hz11 hs11 z16 f16 hg15 hg16 hM
  gi_wp2_with fail
  refine wpIn_rangeFunc_T rfl (by omega) (gf := gf) (lb := lb) rfl trivial HEN.out (HSQ.out 8) KpR.trans (fun X l o o' hl ho hc _ => KpR.put X l o o' (HM.out ▸ hl) ho hc) (Below.refl _ _) (fun _ => rfl)
    (fun pre Y => OneB M g16 w12 Y ∧ Below W.heap.size W Y ∧ Y.heap[g16]? = some (.cells #[.int .i64 (pre.length : Nat)] 3 (0, 0)))
    (fun c pre Y => False)
    (fun s A C row hs hg hr => ⟨hs.1.own HM.out hg (HM.out ▸ hr), own_below hg hr (Nat.le_refl _) (by rw [HM.out]; exact Nat.le_of_lt HLT.out.2.2) hs.2.1, own_cells hg hr hs.2.2⟩)
    (fun c s A C row hs => hs.elim)
    (fun s A C hs h => ⟨hs.1.below (HM.out ▸ h.below), hs.2.1.trans (h.below.mono (by rw [HM.out]; exact Nat.le_of_lt HLT.out.2.2)), ((HM.out ▸ h.below : Below M A C).block g16 HLT.out.2.1).trans hs.2.2⟩)
    (fun c s A C hs => hs.elim)
    ⟨fun _ _ _ => rfl, HBW.out, HK16b.out⟩ ?round ?done (fun D c pre Y hD hp hx => hx.elim)
  case round =>
    intro l pre x Y Yb K hI hlen hK
    have HF : ∀ f, (Fence.wide.inRound l).fn f := fun _ => trivial
    have HK := Lib.hid hK
    clear hK
    gi_wp2_with fail
    refine HK.out _ ?_
    clear HK
    obtain ⟨h1, h2, h3⟩ := hI
    obtain ⟨hlt, hget⟩ := pre_next hlen.next
    have e15 : Yb.cell? ⟨g15, 0, none⟩ = some (.slice wa yl wc) := by
      rw [h1.cell HLT.out.1 (by have := HG16.out; omega)]
      simp [World.cell?, HK15b.out]
    obtain ⟨k, hk⟩ : ∃ n, pre.length = n := ⟨_, rfl⟩
    have HKN := Lib.hid hk
    have hgk : ∃ h : k < (ordF E id []).length, (ordF E id [])[k] = x := by subst hk; exact ⟨hlt, hget⟩
    obtain ⟨hky, hgk⟩ := hgk
    rw [hk] at h3
    obtain ⟨gw, rfl⟩ : ∃ gw, wa = some ⟨gw, 0, none⟩ := by
      rcases HP12.out.shape with ⟨h, hn⟩ | ⟨g, c, h, -⟩
      · rw [hn] at hky; simp at hky
      · simp only [Value.slice.injEq] at h; exact ⟨g, h.1⟩
    have q0 := SlA.cell encI_len HP12.out hky (j := 0) (by omega)
    rw [hgk, Nat.mul_one, Nat.add_zero] at q0
    have hgwM : gw < M ∧ gw ≠ g16 := by
      obtain ⟨cs, fz, hgw⟩ : ∃ cs fz, w12.heap[gw]? = some (.cells cs 31 fz) := by
        have := HP12.out
        rcases this.2 with ⟨h, _⟩ | ⟨g, cap, cur, h, _, hgb, _⟩
        · cases h
        · simp only [Value.slice.injEq, Option.some.injEq, Addr.mk.injEq] at h
          rw [h.1.1]; exact ⟨_, _, hgb⟩
      refine ⟨by rw [← HM.out]; exact (Array.getElem?_eq_some_iff.1 hgw).1, fun e => ?_⟩
      rw [e, HK16b.out] at hgw; simp at hgw
    have q0y : Yb.cell? ⟨gw, k, none⟩ = some (.int .i64 x) := by
      rw [h1.cell hgwM.1 hgwM.2]; exact q0
    rw [HYL.out] at hky
    have c16 : Yb.cell? ⟨g16, 0, none⟩ = some (.int .i64 k) := by simp [World.cell?, h3]
    have f16 : Yb.frozen? ⟨g16, 0, none⟩ = false := by simp [World.frozen?, h3]
    have d1 : ¬ (yl : Int) ≤ (k : Int) := by omega
    have d1' : decide ((yl : Int) ≤ (k : Int)) = false := decide_eq_false d1
    have d2 : (k : Int) < (yl : Int) := by omega
    have b1 : ((x : Int) != (x : Int)) = false := by simp
    have hkw : IntKind.i64.wrap ((k : Int) + 1) = ((k + 1 : Nat) : Int) := by rw [IntKind.wrap_i64]; have := HYM.out; omega
    obtain ⟨k2, hk2⟩ : ∃ n, k + 1 = n := ⟨_, rfl⟩
    rw [hk2] at hkw
    obtain ⟨Yd, hYd⟩ : ∃ y, Yb.setCell ⟨g16, 0, none⟩ (.int .i64 k2) = y := ⟨_, rfl⟩
    have HFIN : Hid (OneB M g16 w12 Yd ∧ Below W.heap.size W Yd ∧ Yd.heap[g16]? = some (.cells #[.int .i64 (((pre ++ [x]).length : Nat) : Int)] 3 (0, 0)) ∧ KeepsOthers Yb Yd ∧ KpR RlK M Yb Yd) := Lib.hid (by
      rw [← hYd]
      refine ⟨h1.set _, h2.setCell (p := ⟨g16, 0, none⟩) (by have := HG16.out; show W.heap.size ≤ g16; omega) _, ?_, keepsOthers_setCell (KeepsOthers.refl _) _ _, (KpR.below (Below.refl _ _)).set h3 (by decide) HLT.out.2.1 _⟩
      rw [List.length_append, List.length_singleton, HKN.out, hk2]
      exact heap_set0 _ h3)
    clear h1 h2 h3 hlen hlt hget hgk hky hk2 q0
    gi_wp2_with fail
    obtain ⟨k1, k2, k3, k4, k5⟩ := HFIN.out
    exact ⟨k4, k5, k1, k2, k3⟩
  case done =>
    rintro D xs Y hD rfl ⟨hj, hb, h3⟩ hDc
    have HMF0 : Hid (Marks w12.heap.size Y [{ target := .collected D, args := #[] }]) := Lib.hid ((Marks.nil _ Y).cons (fun D' h => by cases h) hD hDc)
    rw [HYL.out] at h3
    have c16 : Y.cell? ⟨g16, 0, none⟩ = some (.int .i64 yl) := by simp [World.cell?, h3]
    have hb2 : ((yl : Int) == (yl : Int)) = true := by simp
    have e15 : Y.cell? ⟨g15, 0, none⟩ = some (.slice wa yl wc) := by
      rw [hj.cell HLT.out.1 (by have := HG16.out; omega)]
      simp [World.cell?, HK15b.out]
    have k8 : Y.heap[W.heap.size]? = some (.cells #[.bool false] 4 (0, 0)) := (hj _ HLT.out.2.2 (by have := HG16.out; omega)).trans HKR.out
    have c8 : Y.cell? ⟨W.heap.size, 0, none⟩ = some (.bool false) := by simp [World.cell?, k8]
    have f8 : Y.frozen? ⟨W.heap.size, 0, none⟩ = false := by simp [World.frozen?, k8]
    obtain ⟨Ye, hYe⟩ : ∃ y, Y.setCell ⟨W.heap.size, 0, none⟩ (.bool true) = y := ⟨_, rfl⟩
    have HC8 : Hid (Ye.heap[W.heap.size]? = some (.cells #[.bool true] 4 (0, 0))) := Lib.hid (by rw [← hYe]; exact heap_set0 _ k8)
    have HBF : Hid (Below W.heap.size W Ye) := Lib.hid (by rw [← hYe]; exact hb.setCell (p := ⟨W.heap.size, 0, none⟩) (Nat.le_refl _) _)
    have HMF := Lib.hid (HMF0.out.keep (by rw [← hYe]; exact KeepsOthers.setCell Y ⟨W.heap.size, 0, none⟩ (.bool true) : KeepsOthers Y Ye))
    have HZF : Hid (w12.heap.size ≤ Ye.heap.size) := Lib.hid (by rw [← hYe]; have := (Array.getElem?_eq_some_iff.1 hDc).1; simp; omega)
    clear k8 h3 hj hb hDc hD HEN HSQ
    gi_wp2_with fail
    refine HMF.out.leaves HZF.out fun w' hb' => ?_
    have hc7 := (hb'.block W.heap.size (by rw [HM.out]; exact HLT.out.2.2)).trans HC8.out
    have hc8 : w'.cell? ⟨W.heap.size, 0, none⟩ = some (.bool true) := by simp [World.cell?, hc7]
    refine ⟨.bool true, ?_, rfl, HBF.out.trans (hb'.mono (by rw [HM.out]; exact Nat.le_of_lt HLT.out.2.2))⟩
    simp [results, Try.f8, go_sem, hc8]
end M
end Go.Proofs.Ytpjcfepngjpfbaa
