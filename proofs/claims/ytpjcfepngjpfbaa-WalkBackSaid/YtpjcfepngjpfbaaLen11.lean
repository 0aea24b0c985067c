/- The specification's Lengths: the walk (printed by walk/mklen11.py). -/
import Derived.Test.YtpjcfepngjpfbaaL11
set_option linter.unusedVariables false
set_option linter.unusedSimpArgs false
namespace Go.Proofs.Ytpjcfepngjpfbaa
open Go.RowKit Go.Lib
namespace M
attribute [local go_sem] Oper.semAt_some
set_option maxRecDepth 100000 in
set_option maxHeartbeats 8000000 in
theorem lengths11_any {W : World} {v : Value} {L : List RuI} (hL : RowRu W v L) (hbig : L.length * 8 ≤ 140737488355328) : Calls Try.prog 28 #[v] W fun e w' => ∃ (lv : Value) (c : Int), e = .returned (.tuple #[lv, .int .i64 c]) ∧ (c = 0 → OkL L ∧ (∀ t ∈ gT L, t.length ≤ 1152921504606846976) ∧ Lns W.heap.size w' lv ((gT L).map List.length)) ∧ Below W.heap.size W w' := by
  have HF : ∀ f, Fence.wide.fn f := fun _ => trivial
  have HL := Lib.hid hL
  have HCK := Lib.hid (check11_any hL)
  obtain ⟨a0, cap0, rfl, hc1, hc2, -, -⟩ := hL
  unfold maxLen at hc2
  obtain ⟨n, hn⟩ : ∃ n, L.length = n := ⟨_, rfl⟩
  have HN := Lib.hid hn
  rw [hn] at hc1 HL HCK hbig ⊢
  have HC := Lib.hid (And.intro hc1 (And.intro hc2 hbig))
  clear hc1 hc2 hn hbig
  go_enter Try.func28, Try.ntmps28
  go_wp2_with fail
  refine HCK.out.mono ?_; rintro e w1 ⟨c, rfl, hc, b1⟩
  have HB1 := Lib.hid b1; have HCC := Lib.hid hc
  clear hc b1 HCK
  by_cases hc0 : c = 0
  · have hcb : (c != 0) = false := by simp [hc0]
    have HOK := Lib.hid (HCC.out.1 hc0)
    clear hc0
    go_wp2_with fail
    go_loopw [5, 6] (fun ov iv wr => ∃ (i : Nat) (la : Option Addr) (lc : Nat), ov = .slice la i lc ∧ iv = .int .i64 i ∧ i ≤ n ∧ Lns W.heap.size wr (.slice la i lc) ((gT (L.take i)).map List.length) ∧ (∀ t ∈ gT (L.take i), t.length ≤ 1152921504606846976) ∧ Below W.heap.size W wr) (fun _ iv _ => n - (intOf iv).toNat)
    case atStart => exact ⟨0, _, _, rfl, rfl, by omega, by rw [List.take_zero]; exact SlA.nil _ _ _ _ _, (by rw [List.take_zero]; intro t ht; cases ht), HB1.out⟩
    case round =>
      obtain ⟨i, la, lc, rfl, rfl, hi, hO, hle, hB⟩ := hrel
      have HO := Lib.hid hO; have HLEN := Lib.hid hle; have HB := Lib.hid hB
      clear hO hle hB
      by_cases hlast : i = n
      · have d1 : ¬ (i : Int) < (n : Int) := by omega
        have HT : Hid (L.take i = L) := Lib.hid (List.take_of_length_le (by rw [HN.out]; omega))
        have HIN := Lib.hid hlast
        clear hlast
        go_wp2_with fail
        go_ret2
        refine ⟨_, 0, rfl, fun _ => ⟨HOK.out, ?_, ?_⟩, HB.out⟩
        · have h := HLEN.out; rwa [HT.out] at h
        · have h := HO.out; rwa [HT.out] at h
      · have d1 : (i : Int) < (n : Int) := by omega
        have hil : i < L.length := by rw [HN.out]; omega
        obtain ⟨a, cap, hv, h1, h2, h3, h4⟩ := HL.out.under HB.out (Nat.le_refl _)
        obtain ⟨b, hb, hbl, hat⟩ := h4 i hil
        have hwd := h3 _ (List.getElem_mem hil)
        simp only [Value.slice.injEq] at hv
        obtain ⟨rfl, -, rfl⟩ := hv
        subst hb
        have hok := HOK.out i hil
        have HTK : Hid (L.take (i + 1) = L.take i ++ [L[i]'hil]) := Lib.hid (List.take_succ_eq_append_getElem hil)
        obtain ⟨r, hr⟩ : ∃ r, L[i]'hil = r := ⟨_, rfl⟩
        rw [hr] at hat hok hwd HTK
        obtain ⟨q0, q1, q2, q3, q4⟩ := hat
        have hiw : IntKind.i64.wrap ((i : Int) + 1) = ((i + 1 : Nat) : Int) := by rw [IntKind.wrap_i64]; have := HC.out; omega
        obtain ⟨i2, hi2⟩ : ∃ y, i + 1 = y := ⟨_, rfl⟩
        have HTL : Hid ((gT (L.take i)).length = i) := Lib.hid (by rw [gT_len, List.length_take]; omega)
        have HLI : Hid (((gT (L.take i)).map List.length).length = i) := Lib.hid (by rw [List.length_map]; exact HTL.out)
        have HPOS : Hid (∀ t ∈ gT (L.take i), 0 < t.length) := Lib.hid (len_pos (fun j hj => by
          have h := HOK.out j (by rw [List.length_take] at hj; omega)
          rwa [List.getElem_take]))
        rw [hi2] at hiw
        have HI2 := Lib.hid hi2; have HLT := Lib.hid (And.intro hil (show i < n by omega))
        have HZ : Hid (W.heap.size ≤ wr.heap.size) := Lib.hid HB.out.size
        have HGET : Hid (∀ l : Nat, 1 ≤ l → l ≤ i → ∃ go, la = some ⟨go, 0, none⟩ ∧ ∀ w, Below wr.heap.size wr w → w.cell? ⟨go, l - 1, none⟩ = some (.int .i64 ((tx (gT (L.take i)) l).length : Nat))) := Lib.hid (fun l hl1 hl2 => by
          rcases HO.out.shape with ⟨-, h⟩ | ⟨g, c, h, -⟩
          · have := HLI.out; rw [h] at this; simp at this; omega
          · simp only [Value.slice.injEq] at h
            refine ⟨g, h.1, fun w hw => ?_⟩
            have hO := SlA.below HO.out hw
            rw [h.1] at hO
            have h5 := SlA.cell encLn_len hO (i := l - 1) (by rw [HLI.out]; omega) (j := 0) (by omega)
            rw [Nat.mul_one, Nat.add_zero, List.getElem_map] at h5
            rw [tx_get hl1 (by rw [HTL.out]; exact hl2)]
            exact h5)
        have HTX1 : Hid (∀ l : Nat, 1 ≤ l → l ≤ i → 1 ≤ (tx (gT (L.take i)) l).length ∧ (tx (gT (L.take i)) l).length ≤ 1152921504606846976) := Lib.hid (fun l hl1 hl2 => by
          rw [tx_get hl1 (by rw [HTL.out]; exact hl2)]
          exact ⟨HPOS.out _ (List.getElem_mem _), HLEN.out _ (List.getElem_mem _)⟩)
        clear hlast h1 h2 h3 h4 hbl hr hi2 hil
        rcases hok with ⟨k1, -⟩ | ⟨k1, -, -, ⟨l1, l2⟩, r1, r2⟩ | ⟨k1, -, -, t2, l1, l2⟩
        · have kb : (r.kind == 1) = true := by simp [k1]
          have kb2 : (r.kind == 2) = false := by simp [k1]
          have kb3 : (r.kind == 3) = false := by simp [k1]
          have HK := Lib.hid k1
          obtain ⟨tn, htn⟩ : ∃ t : List Nat, [r.letter] = t := ⟨_, rfl⟩
          have HTX : Hid (gT (L.take i2) = gT (L.take i) ++ [tn] ∧ tn.length ≤ 1152921504606846976) := Lib.hid (by
            refine ⟨?_, by rw [← htn]; simp⟩
            rw [← HI2.out, HTK.out, gT_snoc]
            rw [show txOf (gT (L.take i)) (gR r) = tn by rw [← htn]; unfold txOf gR; rw [if_pos (by simp [HK.out])]])
          have HLE : Hid (tn.length = 1) := Lib.hid (by rw [← htn]; rfl)
          clear k1 htn hwd q1 q2 q3 q4
          go_wp2_with (
            at_builtin
            refine wp_app1G (w0 := wr) (enc := encLn) (v := .slice la i lc) elemLn encLn_len rfl _ _ rfl rfl HO.out (1) rfl rfl (encLn_oneT _) (by rw [HLI.out]; have := HC.out; have := HLT.out; omega) HZ.out ?_
            intro v8 w8 hS8 hg8 hb8
            obtain ⟨a8, c8, rfl⟩ : ∃ a c, v8 = .slice a i2 c := by obtain ⟨a, c, h⟩ := hS8.len; exact ⟨a, c, by rw [h, List.length_append, List.length_singleton, HLI.out, HI2.out]⟩
            have HX1 := Lib.hid hS8
            have HX2 := Lib.hid (HB.out.trans hb8)
            clear hS8 hg8 hb8)
          go_roundw
          case rel => exact ⟨i2, _, _, rfl, rfl, by have h1 := HI2.out; have h2 := HLT.out; omega, by rw [HTX.out.1, List.map_append]; show Lns W.heap.size w8 _ (_ ++ [tn.length]); rw [HLE.out]; exact HX1.out, by
            rw [HTX.out.1]; intro t ht
            rcases List.mem_append.1 ht with ht | ht
            · exact HLEN.out t ht
            · rw [List.mem_singleton.1 ht]; exact HTX.out.2, HX2.out⟩
          case measure => have h1 := HI2.out; have h2 := HLT.out; simp [intOf]; omega
        · have kb : (r.kind == 1) = false := by simp [k1]
          have kb2 : (r.kind == 2) = true := by simp [k1]
          have HK := Lib.hid k1
          obtain ⟨l, hl⟩ : ∃ l : Nat, r.left = l := ⟨r.left.toNat, by omega⟩
          obtain ⟨rr, hrr⟩ : ∃ l : Nat, r.right = l := ⟨r.right.toNat, by omega⟩
          rw [hl] at q2 l1 l2
          rw [hrr] at q3 r1 r2
          obtain ⟨go, rfl, hc1⟩ := HGET.out l (by omega) (by omega)
          obtain ⟨go', hgo, hc2⟩ := HGET.out rr (by omega) (by omega)
          simp only [Option.some.injEq, Addr.mk.injEq, and_true] at hgo
          subst hgo
          have x1 := HTX1.out l (by omega) (by omega)
          have x2 := HTX1.out rr (by omega) (by omega)
          obtain ⟨tl, htl⟩ : ∃ t, tx (gT (L.take i)) l = t := ⟨_, rfl⟩
          obtain ⟨tr, htr⟩ : ∃ t, tx (gT (L.take i)) rr = t := ⟨_, rfl⟩
          rw [htl] at hc1 x1
          rw [htr] at hc2 x2
          have HAD := Lib.hid (fun w : World => add11_any w x1.2 x2.2)
          have HTXO : Hid (txOf (gT (L.take i)) (gR r) = tl ++ tr) := Lib.hid (by
            unfold txOf gR
            rw [if_neg (by simp [HK.out]), if_pos (by simp [HK.out])]
            dsimp only
            rw [hl, hrr, Int.toNat_natCast, Int.toNat_natCast, htl, htr])
          have hlw : IntKind.i64.wrap ((l : Int) - 1) = ((l - 1 : Nat) : Int) := by rw [IntKind.wrap_i64]; have := HC.out; have := HLT.out; omega
          have hrw : IntKind.i64.wrap ((rr : Int) - 1) = ((rr - 1 : Nat) : Int) := by rw [IntKind.wrap_i64]; have := HC.out; have := HLT.out; omega
          have li : ((l - 1 : Nat) : Int) < (i : Int) := by omega
          have ri : ((rr - 1 : Nat) : Int) < (i : Int) := by omega
          obtain ⟨lm, hlm⟩ : ∃ y, l - 1 = y := ⟨_, rfl⟩
          obtain ⟨rm, hrm⟩ : ∃ y, rr - 1 = y := ⟨_, rfl⟩
          rw [hlm] at hc1 hlw li
          rw [hrm] at hc2 hrw ri
          obtain ⟨al, hal⟩ : ∃ y, tl.length = y := ⟨_, rfl⟩
          obtain ⟨ar, har⟩ : ∃ y, tr.length = y := ⟨_, rfl⟩
          rw [hal] at hc1 HAD
          rw [har] at hc2 HAD
          have HAL := Lib.hid (And.intro hal har)
          have p2 : ∀ w, Below wr.heap.size wr w → w.cell? ⟨(b.add (i * 5)).block, (b.add (i * 5)).off + 2, none⟩ = some (.int .i64 l) := fun w hw => cell_on3 q2 hw
          have p3 : ∀ w, Below wr.heap.size wr w → w.cell? ⟨(b.add (i * 5)).block, (b.add (i * 5)).off + 3, none⟩ = some (.int .i64 rr) := fun w hw => cell_on3 q3 hw
          have li2 : lm < i := by omega
          have ri2 : rm < i := by omega
          clear k1 l1 l2 r1 r2 hl hrr x1 x2 htl htr hlm hrm hal har hwd q1 q2 q3 q4
          go_wp2_with fail
          refine wp_region_anyH (Below wr.heap.size wr) (by kernel_rfl) ?_
          obtain ⟨wd, hwd⟩ : ∃ y, wr.drew = y := ⟨_, rfl⟩
          have S0 : Below wr.heap.size wr wd := by rw [← hwd]; exact (Below.refl _ _).drew
          rw [hwd]
          clear hwd
          refine AnyH.take (i := 0) (d := some 28) (v := ?_) (by kernel_rfl) rfl rfl HF (fun _ _ _ h => h) (.inl ⟨by rfl, ?_⟩) (by first | assumption | rfl) ?_
          rotate_left
          · intro w hS; try subst hS
            go_simp; try with_reducible rfl
          try simp only [Act.put, List.setIfInBounds_toArray, List.set_cons_zero, List.set_cons_succ]
          refine AnyH.take (i := 1) (d := some 29) (v := ?_) (by kernel_rfl) rfl rfl HF (fun _ _ _ h => h) (.inl ⟨by rfl, ?_⟩) (by first | assumption | rfl) ?_
          rotate_left
          · intro w hS; try subst hS
            go_simp; try with_reducible rfl
          try simp only [Act.put, List.setIfInBounds_toArray, List.set_cons_zero, List.set_cons_succ]
          refine AnyH.take (i := 2) (d := some 30) (v := ?_) (by kernel_rfl) rfl rfl HF (fun _ _ _ h => h) (.inl ⟨by rfl, ?_⟩) (by first | assumption | rfl) ?_
          rotate_left
          · intro w hS; try subst hS
            go_simp; try with_reducible rfl
          try simp only [Act.put, List.setIfInBounds_toArray, List.set_cons_zero, List.set_cons_succ]
          refine AnyH.take (i := 3) (d := some 31) (v := ?_) (by kernel_rfl) rfl rfl HF (fun _ _ _ h => h) (.inl ⟨by rfl, ?_⟩) (by first | assumption | rfl) ?_
          rotate_left
          · intro w hS; try subst hS
            go_simp; try with_reducible rfl
          try simp only [Act.put, List.setIfInBounds_toArray, List.set_cons_zero, List.set_cons_succ]
          refine AnyH.take (i := 4) (d := some 32) (v := ?_) (by kernel_rfl) rfl rfl HF (fun _ _ _ h => h) (.inl ⟨by rfl, ?_⟩) (by first | assumption | rfl) ?_
          rotate_left
          · intro w hS; try subst hS
            go_simp; try with_reducible rfl
          try simp only [Act.put, List.setIfInBounds_toArray, List.set_cons_zero, List.set_cons_succ]
          refine AnyH.take (i := 5) (d := some 33) (v := ?_) (by kernel_rfl) rfl rfl HF (fun _ _ _ h => h) (.inl ⟨by rfl, ?_⟩) (by first | assumption | rfl) ?_
          rotate_left
          · intro w hS; try subst hS
            go_simp; try with_reducible rfl
          try simp only [Act.put, List.setIfInBounds_toArray, List.set_cons_zero, List.set_cons_succ]
          refine AnyH.take (i := 6) (d := some 34) (v := ?_) (by kernel_rfl) rfl rfl HF (fun _ _ _ h => h) (.inl ⟨by rfl, ?_⟩) (by first | assumption | rfl) ?_
          rotate_left
          · intro w hS; try subst hS
            go_simp; try with_reducible rfl
          try simp only [Act.put, List.setIfInBounds_toArray, List.set_cons_zero, List.set_cons_succ]
          refine AnyH.take (i := 7) (d := some 35) (v := ?_) (by kernel_rfl) rfl rfl HF (fun _ _ _ h => h) (.inl ⟨by rfl, ?_⟩) (by first | assumption | rfl) ?_
          rotate_left
          · intro w hS; try subst hS
            go_simp; try with_reducible rfl
          try simp only [Act.put, List.setIfInBounds_toArray, List.set_cons_zero, List.set_cons_succ]
          refine AnyH.take (i := 8) (d := some 36) (v := ?_) (by kernel_rfl) rfl rfl HF (fun _ _ _ h => h) (.inl ⟨by rfl, ?_⟩) (by first | assumption | rfl) ?_
          rotate_left
          · intro w hS; try subst hS
            go_simp; try with_reducible rfl
          try simp only [Act.put, List.setIfInBounds_toArray, List.set_cons_zero, List.set_cons_succ]
          refine AnyH.take (i := 9) (d := some 37) (v := ?_) (by kernel_rfl) rfl rfl HF (fun _ _ _ h => h) (.inl ⟨by rfl, ?_⟩) (by first | assumption | rfl) ?_
          rotate_left
          · intro w hS; try subst hS
            go_simp; try with_reducible rfl
          try simp only [Act.put, List.setIfInBounds_toArray, List.set_cons_zero, List.set_cons_succ]
          refine AnyH.take (i := 10) (d := some 38) (v := ?_) (by kernel_rfl) rfl rfl HF (fun _ _ _ h => h) (.inl ⟨by rfl, ?_⟩) (by first | assumption | rfl) ?_
          rotate_left
          · intro w hS; try subst hS
            go_simp; try with_reducible rfl
          try simp only [Act.put, List.setIfInBounds_toArray, List.set_cons_zero, List.set_cons_succ]
          refine AnyH.take (i := 11) (d := some 39) (v := ?_) (by kernel_rfl) rfl rfl HF (fun _ _ _ h => h) (.inl ⟨by rfl, ?_⟩) (by first | assumption | rfl) ?_
          rotate_left
          · intro w hS; try subst hS
            go_simp; try with_reducible rfl
          try simp only [Act.put, List.setIfInBounds_toArray, List.set_cons_zero, List.set_cons_succ]
          refine AnyH.take (i := 12) (d := some 40) (v := ?_) (by kernel_rfl) rfl rfl HF (fun _ _ _ h => h) (.inl ⟨by rfl, ?_⟩) (by first | assumption | rfl) ?_
          rotate_left
          · intro w hS; try subst hS
            go_simp; try with_reducible rfl
          try simp only [Act.put, List.setIfInBounds_toArray, List.set_cons_zero, List.set_cons_succ]
          refine AnyH.take (i := 13) (d := some 41) (v := ?_) (by kernel_rfl) rfl rfl HF (fun _ _ _ h => h) (.inl ⟨by rfl, ?_⟩) (by first | assumption | rfl) ?_
          rotate_left
          · intro w hS; try subst hS
            go_simp; try with_reducible rfl
          try simp only [Act.put, List.setIfInBounds_toArray, List.set_cons_zero, List.set_cons_succ]
          refine AnyH.take (i := 14) (d := some 42) (v := ?_) (by kernel_rfl) rfl rfl HF (fun _ _ _ h => h) (.inl ⟨by rfl, ?_⟩) (by first | assumption | rfl) ?_
          rotate_left
          · intro w hS; try subst hS
            go_simp; try with_reducible rfl
          try simp only [Act.put, List.setIfInBounds_toArray, List.set_cons_zero, List.set_cons_succ]
          refine AnyH.take (i := 15) (d := some 43) (v := ?_) (by kernel_rfl) rfl rfl HF (fun _ _ _ h => h) (.inl ⟨by rfl, ?_⟩) (by first | assumption | rfl) ?_
          rotate_left
          · intro w hS; try subst hS
            go_simp; try with_reducible rfl
          try simp only [Act.put, List.setIfInBounds_toArray, List.set_cons_zero, List.set_cons_succ]
          refine AnyH.take (i := 16) (d := some 44) (v := ?_) (by kernel_rfl) rfl rfl HF (fun _ _ _ h => h) (.inl ⟨by rfl, ?_⟩) (by first | assumption | rfl) ?_
          rotate_left
          · intro w hS; try subst hS
            go_simp; try with_reducible rfl
          try simp only [Act.put, List.setIfInBounds_toArray, List.set_cons_zero, List.set_cons_succ]
          refine AnyH.take (i := 17) (d := some 45) (v := ?_) (by kernel_rfl) rfl rfl HF (fun _ _ _ h => h) (.inl ⟨by rfl, ?_⟩) (by first | assumption | rfl) ?_
          rotate_left
          · intro w hS; try subst hS
            go_simp; try with_reducible rfl
          try simp only [Act.put, List.setIfInBounds_toArray, List.set_cons_zero, List.set_cons_succ]
          refine AnyH.one (i := 18) (by kernel_rfl) (by kernel_rfl) rfl HF (by rfl) (fun K hK => ?_)
          go_simp
          first | ((with_reducible refine And.intro ?hdep ?_); (case hdep => first | rfl | (intro h; cases h))) | skip
          first | refine callsIn_wide.2 ((HAD.out _).mono ?_) | refine ⟨(fun h => by cases h), callsIn_wide.2 ((HAD.out _).mono ?_)⟩ | refine ⟨trivial, (fun h => by cases h), callsIn_wide.2 ((HAD.out _).mono ?_)⟩ | refine (HAD.out _).mono ?_
          rintro e w ⟨na, ca, rfl, hcases, hw⟩
          rw [hw]
          clear hw w
          refine hK _ _ S0 ?_
          clear hK K
          try simp only [Act.put, List.setIfInBounds_toArray, List.set_cons_zero, List.set_cons_succ]
          refine AnyH.take (i := 19) (d := some 27) (v := ?_) (by kernel_rfl) rfl rfl HF (fun _ _ _ h => h) (.inl ⟨by rfl, ?_⟩) (by first | assumption | rfl) ?_
          rotate_left
          · intro w hS; try subst hS
            go_simp; try with_reducible rfl
          try simp only [Act.put, List.setIfInBounds_toArray, List.set_cons_zero, List.set_cons_succ]
          refine AnyH.take (i := 20) (d := some 47) (v := ?_) (by kernel_rfl) rfl rfl HF (fun _ _ _ h => h) (.inl ⟨by rfl, ?_⟩) (by first | assumption | rfl) ?_
          rotate_left
          · intro w hS; try subst hS
            go_simp; try with_reducible rfl
          try simp only [Act.put, List.setIfInBounds_toArray, List.set_cons_zero, List.set_cons_succ]
          refine AnyH.take (i := 21) (d := some 48) (v := ?_) (by kernel_rfl) rfl rfl HF (fun _ _ _ h => h) (.inl ⟨by rfl, ?_⟩) (by first | assumption | rfl) ?_
          rotate_left
          · intro w hS; try subst hS
            go_simp; try with_reducible rfl
          try simp only [Act.put, List.setIfInBounds_toArray, List.set_cons_zero, List.set_cons_succ]
          refine AnyH.take (i := 22) (d := some 7) (v := ?_) (by kernel_rfl) rfl rfl HF (fun _ _ _ h => h) (.inl ⟨by rfl, ?_⟩) (by first | assumption | rfl) ?_
          rotate_left
          · intro w hS; try subst hS
            go_simp; try with_reducible rfl
          try simp only [Act.put, List.setIfInBounds_toArray, List.set_cons_zero, List.set_cons_succ]
          refine AnyH.take (i := 23) (d := some 8) (v := ?_) (by kernel_rfl) rfl rfl HF (fun _ _ _ h => h) (.inl ⟨by rfl, ?_⟩) (by first | assumption | rfl) ?_
          rotate_left
          · intro w hS; try subst hS
            go_simp; try with_reducible rfl
          try simp only [Act.put, List.setIfInBounds_toArray, List.set_cons_zero, List.set_cons_succ]
          refine AnyH.done (by kernel_rfl) ?_
          clear p2 p3 hc1 hc2
          rcases hcases with ⟨hsum, rfl, rfl⟩ | hne
          · obtain ⟨s, hs⟩ : ∃ s, al + ar = s := ⟨_, rfl⟩
            rw [hs] at hsum ⊢
            obtain ⟨tn, htn⟩ : ∃ t : List Nat, tl ++ tr = t := ⟨_, rfl⟩
            have HOd := Lib.hid (SlA.below HO.out S0); have HZd : Hid (W.heap.size ≤ wd.heap.size) := Lib.hid (Nat.le_trans HZ.out S0.size); have HBd := Lib.hid (Below.after HB.out S0)
            have HTN : Hid (tn.length = s) := Lib.hid (by rw [← htn, List.length_append, HAL.out.1, HAL.out.2]; exact hs)
            have HTX : Hid (gT (L.take i2) = gT (L.take i) ++ [tn] ∧ tn.length ≤ 1152921504606846976) := Lib.hid (by
              refine ⟨?_, by rw [HTN.out]; exact hsum⟩
              rw [← HI2.out, HTK.out, gT_snoc]
              rw [show txOf (gT (L.take i)) (gR r) = tn by rw [HTXO.out]; exact htn])
            have HLE : Hid (tn.length = s) := Lib.hid (HTN.out)
            clear hsum hs htn S0
            go_wp2_with (
              at_builtin
              refine wp_app1G (w0 := wd) (enc := encLn) (v := .slice (some ⟨go, 0, none⟩) i lc) elemLn encLn_len rfl _ _ rfl rfl HOd.out (s) rfl rfl (encLn_oneT _) (by rw [HLI.out]; have := HC.out; have := HLT.out; omega) HZd.out ?_
              intro v8 w8 hS8 hg8 hb8
              obtain ⟨a8, c8, rfl⟩ : ∃ a c, v8 = .slice a i2 c := by obtain ⟨a, c, h⟩ := hS8.len; exact ⟨a, c, by rw [h, List.length_append, List.length_singleton, HLI.out, HI2.out]⟩
              have HX1 := Lib.hid hS8
              have HX2 := Lib.hid (HBd.out.trans hb8)
              clear hS8 hg8 hb8)
            go_roundw
            case rel => exact ⟨i2, _, _, rfl, rfl, by have h1 := HI2.out; have h2 := HLT.out; omega, by rw [HTX.out.1, List.map_append]; show Lns W.heap.size w8 _ (_ ++ [tn.length]); rw [HLE.out]; exact HX1.out, by
              rw [HTX.out.1]; intro t ht
              rcases List.mem_append.1 ht with ht | ht
              · exact HLEN.out t ht
              · rw [List.mem_singleton.1 ht]; exact HTX.out.2, HX2.out⟩
            case measure => have h1 := HI2.out; have h2 := HLT.out; simp [intOf]; omega
          · have hcb2 : ((ca : Int) != 0) = true := by simp; omega
            have HNE : Hid (¬ (ca : Int) = 0) := Lib.hid (by omega)
            have HBd := Lib.hid (Below.after HB.out S0)
            clear hne S0
            go_wp2_with fail
            go_ret2
            exact ⟨_, _, rfl, fun h => absurd h HNE.out, HBd.out⟩
        · have kb : (r.kind == 1) = false := by simp [k1]
          have kb2 : (r.kind == 2) = false := by simp [k1]
          have kb3 : (r.kind == 3) = true := by simp [k1]
          have HK := Lib.hid k1
          obtain ⟨l, hl⟩ : ∃ l : Nat, r.left = l := ⟨r.left.toNat, by omega⟩
          obtain ⟨tm, htm⟩ : ∃ l : Nat, r.times = l := ⟨r.times.toNat, by omega⟩
          have htmb : tm ≤ 9223372036854775807 := by have := hwd.times; omega
          rw [hl] at q2 l1 l2
          rw [htm] at q4 t2
          obtain ⟨go, rfl, hc1⟩ := HGET.out l (by omega) (by omega)
          have x1 := HTX1.out l (by omega) (by omega)
          obtain ⟨tl, htl⟩ : ∃ t, tx (gT (L.take i)) l = t := ⟨_, rfl⟩
          rw [htl] at hc1 x1
          have HAD := Lib.hid (fun w : World => mul11_any w x1.1 x1.2 htmb)
          have HTXO : Hid (txOf (gT (L.take i)) (gR r) = rep tm tl) := Lib.hid (by
            unfold txOf gR
            rw [if_neg (by simp [HK.out]), if_neg (by simp [HK.out])]
            dsimp only
            rw [hl, htm, Int.toNat_natCast, Int.toNat_natCast, htl])
          have hlw : IntKind.i64.wrap ((l : Int) - 1) = ((l - 1 : Nat) : Int) := by rw [IntKind.wrap_i64]; have := HC.out; have := HLT.out; omega
          have li : ((l - 1 : Nat) : Int) < (i : Int) := by omega
          obtain ⟨lm, hlm⟩ : ∃ y, l - 1 = y := ⟨_, rfl⟩
          rw [hlm] at hc1 hlw li
          obtain ⟨al, hal⟩ : ∃ y, tl.length = y := ⟨_, rfl⟩
          rw [hal] at hc1 HAD
          have HAL := Lib.hid hal
          have p2 : ∀ w, Below wr.heap.size wr w → w.cell? ⟨(b.add (i * 5)).block, (b.add (i * 5)).off + 2, none⟩ = some (.int .i64 l) := fun w hw => cell_on3 q2 hw
          have p4 : ∀ w, Below wr.heap.size wr w → w.cell? ⟨(b.add (i * 5)).block, (b.add (i * 5)).off + 4, none⟩ = some (.int .i64 tm) := fun w hw => cell_on3 q4 hw
          have li2 : lm < i := by omega
          clear k1 l1 l2 hl htm htmb x1 t2 htl hlm hal hwd q1 q2 q3 q4
          go_wp2_with fail
          refine wp_region_anyH (Below wr.heap.size wr) (by kernel_rfl) ?_
          obtain ⟨wd, hwd⟩ : ∃ y, wr.drew = y := ⟨_, rfl⟩
          have S0 : Below wr.heap.size wr wd := by rw [← hwd]; exact (Below.refl _ _).drew
          rw [hwd]
          clear hwd
          refine AnyH.take (i := 0) (d := some 52) (v := ?_) (by kernel_rfl) rfl rfl HF (fun _ _ _ h => h) (.inl ⟨by rfl, ?_⟩) (by first | assumption | rfl) ?_
          rotate_left
          · intro w hS; try subst hS
            go_simp; try with_reducible rfl
          try simp only [Act.put, List.setIfInBounds_toArray, List.set_cons_zero, List.set_cons_succ]
          refine AnyH.take (i := 1) (d := some 53) (v := ?_) (by kernel_rfl) rfl rfl HF (fun _ _ _ h => h) (.inl ⟨by rfl, ?_⟩) (by first | assumption | rfl) ?_
          rotate_left
          · intro w hS; try subst hS
            go_simp; try with_reducible rfl
          try simp only [Act.put, List.setIfInBounds_toArray, List.set_cons_zero, List.set_cons_succ]
          refine AnyH.take (i := 2) (d := some 54) (v := ?_) (by kernel_rfl) rfl rfl HF (fun _ _ _ h => h) (.inl ⟨by rfl, ?_⟩) (by first | assumption | rfl) ?_
          rotate_left
          · intro w hS; try subst hS
            go_simp; try with_reducible rfl
          try simp only [Act.put, List.setIfInBounds_toArray, List.set_cons_zero, List.set_cons_succ]
          refine AnyH.take (i := 3) (d := some 55) (v := ?_) (by kernel_rfl) rfl rfl HF (fun _ _ _ h => h) (.inl ⟨by rfl, ?_⟩) (by first | assumption | rfl) ?_
          rotate_left
          · intro w hS; try subst hS
            go_simp; try with_reducible rfl
          try simp only [Act.put, List.setIfInBounds_toArray, List.set_cons_zero, List.set_cons_succ]
          refine AnyH.take (i := 4) (d := some 56) (v := ?_) (by kernel_rfl) rfl rfl HF (fun _ _ _ h => h) (.inl ⟨by rfl, ?_⟩) (by first | assumption | rfl) ?_
          rotate_left
          · intro w hS; try subst hS
            go_simp; try with_reducible rfl
          try simp only [Act.put, List.setIfInBounds_toArray, List.set_cons_zero, List.set_cons_succ]
          refine AnyH.take (i := 5) (d := some 57) (v := ?_) (by kernel_rfl) rfl rfl HF (fun _ _ _ h => h) (.inl ⟨by rfl, ?_⟩) (by first | assumption | rfl) ?_
          rotate_left
          · intro w hS; try subst hS
            go_simp; try with_reducible rfl
          try simp only [Act.put, List.setIfInBounds_toArray, List.set_cons_zero, List.set_cons_succ]
          refine AnyH.take (i := 6) (d := some 58) (v := ?_) (by kernel_rfl) rfl rfl HF (fun _ _ _ h => h) (.inl ⟨by rfl, ?_⟩) (by first | assumption | rfl) ?_
          rotate_left
          · intro w hS; try subst hS
            go_simp; try with_reducible rfl
          try simp only [Act.put, List.setIfInBounds_toArray, List.set_cons_zero, List.set_cons_succ]
          refine AnyH.take (i := 7) (d := some 59) (v := ?_) (by kernel_rfl) rfl rfl HF (fun _ _ _ h => h) (.inl ⟨by rfl, ?_⟩) (by first | assumption | rfl) ?_
          rotate_left
          · intro w hS; try subst hS
            go_simp; try with_reducible rfl
          try simp only [Act.put, List.setIfInBounds_toArray, List.set_cons_zero, List.set_cons_succ]
          refine AnyH.take (i := 8) (d := some 60) (v := ?_) (by kernel_rfl) rfl rfl HF (fun _ _ _ h => h) (.inl ⟨by rfl, ?_⟩) (by first | assumption | rfl) ?_
          rotate_left
          · intro w hS; try subst hS
            go_simp; try with_reducible rfl
          try simp only [Act.put, List.setIfInBounds_toArray, List.set_cons_zero, List.set_cons_succ]
          refine AnyH.take (i := 9) (d := some 61) (v := ?_) (by kernel_rfl) rfl rfl HF (fun _ _ _ h => h) (.inl ⟨by rfl, ?_⟩) (by first | assumption | rfl) ?_
          rotate_left
          · intro w hS; try subst hS
            go_simp; try with_reducible rfl
          try simp only [Act.put, List.setIfInBounds_toArray, List.set_cons_zero, List.set_cons_succ]
          refine AnyH.take (i := 10) (d := some 62) (v := ?_) (by kernel_rfl) rfl rfl HF (fun _ _ _ h => h) (.inl ⟨by rfl, ?_⟩) (by first | assumption | rfl) ?_
          rotate_left
          · intro w hS; try subst hS
            go_simp; try with_reducible rfl
          try simp only [Act.put, List.setIfInBounds_toArray, List.set_cons_zero, List.set_cons_succ]
          refine AnyH.take (i := 11) (d := some 63) (v := ?_) (by kernel_rfl) rfl rfl HF (fun _ _ _ h => h) (.inl ⟨by rfl, ?_⟩) (by first | assumption | rfl) ?_
          rotate_left
          · intro w hS; try subst hS
            go_simp; try with_reducible rfl
          try simp only [Act.put, List.setIfInBounds_toArray, List.set_cons_zero, List.set_cons_succ]
          refine AnyH.take (i := 12) (d := some 64) (v := ?_) (by kernel_rfl) rfl rfl HF (fun _ _ _ h => h) (.inl ⟨by rfl, ?_⟩) (by first | assumption | rfl) ?_
          rotate_left
          · intro w hS; try subst hS
            go_simp; try with_reducible rfl
          try simp only [Act.put, List.setIfInBounds_toArray, List.set_cons_zero, List.set_cons_succ]
          refine AnyH.take (i := 13) (d := some 65) (v := ?_) (by kernel_rfl) rfl rfl HF (fun _ _ _ h => h) (.inl ⟨by rfl, ?_⟩) (by first | assumption | rfl) ?_
          rotate_left
          · intro w hS; try subst hS
            go_simp; try with_reducible rfl
          try simp only [Act.put, List.setIfInBounds_toArray, List.set_cons_zero, List.set_cons_succ]
          refine AnyH.one (i := 14) (by kernel_rfl) (by kernel_rfl) rfl HF (by rfl) (fun K hK => ?_)
          go_simp
          first | ((with_reducible refine And.intro ?hdep ?_); (case hdep => first | rfl | (intro h; cases h))) | skip
          first | refine callsIn_wide.2 ((HAD.out _).mono ?_) | refine ⟨(fun h => by cases h), callsIn_wide.2 ((HAD.out _).mono ?_)⟩ | refine ⟨trivial, (fun h => by cases h), callsIn_wide.2 ((HAD.out _).mono ?_)⟩ | refine (HAD.out _).mono ?_
          rintro e w ⟨na, ca, rfl, hcases, hw⟩
          rw [hw]
          clear hw w
          refine hK _ _ S0 ?_
          clear hK K
          try simp only [Act.put, List.setIfInBounds_toArray, List.set_cons_zero, List.set_cons_succ]
          refine AnyH.take (i := 15) (d := some 51) (v := ?_) (by kernel_rfl) rfl rfl HF (fun _ _ _ h => h) (.inl ⟨by rfl, ?_⟩) (by first | assumption | rfl) ?_
          rotate_left
          · intro w hS; try subst hS
            go_simp; try with_reducible rfl
          try simp only [Act.put, List.setIfInBounds_toArray, List.set_cons_zero, List.set_cons_succ]
          refine AnyH.take (i := 16) (d := some 67) (v := ?_) (by kernel_rfl) rfl rfl HF (fun _ _ _ h => h) (.inl ⟨by rfl, ?_⟩) (by first | assumption | rfl) ?_
          rotate_left
          · intro w hS; try subst hS
            go_simp; try with_reducible rfl
          try simp only [Act.put, List.setIfInBounds_toArray, List.set_cons_zero, List.set_cons_succ]
          refine AnyH.take (i := 17) (d := some 68) (v := ?_) (by kernel_rfl) rfl rfl HF (fun _ _ _ h => h) (.inl ⟨by rfl, ?_⟩) (by first | assumption | rfl) ?_
          rotate_left
          · intro w hS; try subst hS
            go_simp; try with_reducible rfl
          try simp only [Act.put, List.setIfInBounds_toArray, List.set_cons_zero, List.set_cons_succ]
          refine AnyH.take (i := 18) (d := some 7) (v := ?_) (by kernel_rfl) rfl rfl HF (fun _ _ _ h => h) (.inl ⟨by rfl, ?_⟩) (by first | assumption | rfl) ?_
          rotate_left
          · intro w hS; try subst hS
            go_simp; try with_reducible rfl
          try simp only [Act.put, List.setIfInBounds_toArray, List.set_cons_zero, List.set_cons_succ]
          refine AnyH.take (i := 19) (d := some 8) (v := ?_) (by kernel_rfl) rfl rfl HF (fun _ _ _ h => h) (.inl ⟨by rfl, ?_⟩) (by first | assumption | rfl) ?_
          rotate_left
          · intro w hS; try subst hS
            go_simp; try with_reducible rfl
          try simp only [Act.put, List.setIfInBounds_toArray, List.set_cons_zero, List.set_cons_succ]
          refine AnyH.done (by kernel_rfl) ?_
          clear p2 p4 hc1
          rcases hcases with ⟨hsum, rfl, rfl⟩ | hne
          · obtain ⟨s, hs⟩ : ∃ s, tm * al = s := ⟨_, rfl⟩
            rw [hs] at hsum ⊢
            obtain ⟨tn, htn⟩ : ∃ t : List Nat, rep tm tl = t := ⟨_, rfl⟩
            have HOd := Lib.hid (SlA.below HO.out S0); have HZd : Hid (W.heap.size ≤ wd.heap.size) := Lib.hid (Nat.le_trans HZ.out S0.size); have HBd := Lib.hid (Below.after HB.out S0)
            have HTN : Hid (tn.length = s) := Lib.hid (by rw [← htn, rep_length, HAL.out]; exact hs)
            have HTX : Hid (gT (L.take i2) = gT (L.take i) ++ [tn] ∧ tn.length ≤ 1152921504606846976) := Lib.hid (by
              refine ⟨?_, by rw [HTN.out]; exact hsum⟩
              rw [← HI2.out, HTK.out, gT_snoc]
              rw [show txOf (gT (L.take i)) (gR r) = tn by rw [HTXO.out]; exact htn])
            have HLE : Hid (tn.length = s) := Lib.hid (HTN.out)
            clear hsum hs htn S0
            go_wp2_with (
              at_builtin
              refine wp_app1G (w0 := wd) (enc := encLn) (v := .slice (some ⟨go, 0, none⟩) i lc) elemLn encLn_len rfl _ _ rfl rfl HOd.out (s) rfl rfl (encLn_oneT _) (by rw [HLI.out]; have := HC.out; have := HLT.out; omega) HZd.out ?_
              intro v8 w8 hS8 hg8 hb8
              obtain ⟨a8, c8, rfl⟩ : ∃ a c, v8 = .slice a i2 c := by obtain ⟨a, c, h⟩ := hS8.len; exact ⟨a, c, by rw [h, List.length_append, List.length_singleton, HLI.out, HI2.out]⟩
              have HX1 := Lib.hid hS8
              have HX2 := Lib.hid (HBd.out.trans hb8)
              clear hS8 hg8 hb8)
            go_roundw
            case rel => exact ⟨i2, _, _, rfl, rfl, by have h1 := HI2.out; have h2 := HLT.out; omega, by rw [HTX.out.1, List.map_append]; show Lns W.heap.size w8 _ (_ ++ [tn.length]); rw [HLE.out]; exact HX1.out, by
              rw [HTX.out.1]; intro t ht
              rcases List.mem_append.1 ht with ht | ht
              · exact HLEN.out t ht
              · rw [List.mem_singleton.1 ht]; exact HTX.out.2, HX2.out⟩
            case measure => have h1 := HI2.out; have h2 := HLT.out; simp [intOf]; omega
          · have hcb2 : ((ca : Int) != 0) = true := by simp; omega
            have HNE : Hid (¬ (ca : Int) = 0) := Lib.hid (by omega)
            have HBd := Lib.hid (Below.after HB.out S0)
            clear hne S0
            go_wp2_with fail
            go_ret2
            exact ⟨_, _, rfl, fun h => absurd h HNE.out, HBd.out⟩
  · have hcb : (c != 0) = true := by simp [hc0]
    have HC0 := Lib.hid hc0
    clear hc0
    go_wp2_with fail
    go_ret2
    exact ⟨_, c, rfl, fun h => absurd h HC0.out, HB1.out⟩
end M
end Go.Proofs.Ytpjcfepngjpfbaa
