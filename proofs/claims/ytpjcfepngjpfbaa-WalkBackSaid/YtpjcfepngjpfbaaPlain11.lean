/- The specification's plain: a rule, written out. -/
import Derived.Test.YtpjcfepngjpfbaaImport
import Derived.Test.YtpjcfepngjpfbaaRefPc
import Derived.Test.YtpjcfepngjpfbaaMds
import Derived.Test.YtpjcfepngjpfbaaCom
set_option linter.unusedVariables false
set_option linter.unusedSimpArgs false
namespace Go.Proofs.Ytpjcfepngjpfbaa
open Go.RowKit Go.Lib
namespace M
attribute [local go_sem] Oper.semAt_some
theorem tx_zero (T : List (List Nat)) : tx T 0 = [] := rfl
theorem rep_more (k : Nat) (t : List Nat) : rep k t ++ t = rep (k + 1) t := by rw [rep_add, rep_one]
set_option maxRecDepth 100000 in
set_option maxHeartbeats 8000000 in
theorem plain_any {v : Value} {L : List RuI} (hok : OkL L) : ∀ (n : Nat), n ≤ L.length → ∀ {W : World}, RowRu W v L → (tx (gT L) n).length ≤ 4096 →
    Calls Try.prog 86 #[v, .int .i64 n] W fun e w' => ∃ u, e = .returned u ∧ Bys W.heap.size w' u (tx (gT L) n) ∧ Below W.heap.size W w' := by
  intro n
  induction n using Nat.strongRecOn with
  | _ n ih =>
  intro hn W hL hT
  have HF : ∀ f, Fence.wide.fn f := fun _ => trivial
  by_cases h0 : n = 0
  · have b0 : ((n : Int) == 0) = true := by simp [h0]
    have HT : Hid (tx (gT L) n = []) := Lib.hid (by rw [h0]; rfl)
    clear hT ih hn h0 hL
    go_enter Try.func86, Try.ntmps86
    go_wp2_with fail
    go_ret
    exact ⟨_, rfl, by rw [HT.out]; exact SlA.nil _ _ _ _ _, Below.refl _ _⟩
  have b0 : ((n : Int) == 0) = false := by simp; omega
  have hx : IntKind.i64.wrap ((n : Int) - 1) = ((n - 1 : Nat) : Int) := by
    have := hL; obtain ⟨a, cap, -, h1, h2, -⟩ := this; unfold maxLen at h2
    rw [IntKind.wrap_i64]; omega
  have HI : Hid (∀ (y : Nat) (w : World), y < n → (tx (gT L) y).length ≤ 4096 → Below W.heap.size W w → Calls Try.prog 86 #[v, .int .i64 y] w fun e w' => ∃ u, e = .returned u ∧ Bys w.heap.size w' u (tx (gT L) y) ∧ Below w.heap.size w w') := Lib.hid (fun y w h1 h3 hw => ih y h1 (by omega) (hL.under hw (Nat.le_refl _)) h3)
  obtain ⟨i, hi⟩ : ∃ x, n - 1 = x := ⟨_, rfl⟩
  have hil : i < L.length := by omega
  have hni : n = i + 1 := by omega
  have HTX := Lib.hid (tx_step hil (hok i hil))
  have hpos : ∀ y, 1 ≤ y → y ≤ i → 0 < (tx (gT L) y).length := fun y h1 h2 => by
    rw [tx_get h1 (by rw [gT_len]; omega)]
    exact len_pos hok _ (List.getElem_mem _)
  rw [hi] at hx
  rw [hni] at hT ⊢
  rw [HTX.out] at hT
  obtain ⟨a, cap, rfl, hc1, hc2, h3, h4⟩ := hL
  obtain ⟨b, rfl, hbl, hat⟩ := h4 i hil
  have hoki := hok i hil
  obtain ⟨r, hr⟩ : ∃ r, L[i]'hil = r := ⟨_, rfl⟩
  rw [hr] at hat hoki HTX hT
  have hkb := (h3 r (hr ▸ List.getElem_mem _))
  obtain ⟨q0, q1, q2, q3, q4⟩ := hat
  obtain ⟨m, hm⟩ : ∃ m, L.length = m := ⟨_, rfl⟩
  rw [hm] at hil HI ⊢
  have j1 : (i : Int) < (m : Int) := by omega
  obtain ⟨wz, w2, hz, hs2, ⟨x0, x1, x2, x3, x4⟩, bb, ⟨z0, z1, z2, z3, z4⟩, f0, f1, f2, f3, f4⟩ := newRuB W r
  have HB2 := Lib.hid bb
  have HWD := Lib.hid hkb
  have HIN := Lib.hid hni
  have hni2 : ((i + 1 : Nat) : Int) = (n : Int) := by rw [hni]
  rw [hni2]
  have HOK := Lib.hid hoki
  have HTB := Lib.hid hT; have HPOS := Lib.hid hpos
  clear ih hn hi hni hni2 hok h3 h4 hbl hr hc1 hc2 hkb hoki hm bb hT hpos h0
  rcases HOK.out with ⟨k, -⟩ | ⟨k, -, -, ⟨l1, l2⟩, r1, r2⟩ | ⟨k, -, -, t2, l1, l2⟩
  · have k1 : ((r.kind : Int) == 1) = true := by simp [k]
    have HE : Hid (txOf (gT L) (gR r) = [r.letter]) := Lib.hid (by unfold txOf gR; rw [if_pos (by simp [k])])
    obtain ⟨w3, hw3⟩ : ∃ w, w2.alloc (.cells #[.int .u8 r.letter] 5) = w := ⟨_, rfl⟩
    have l3 : Bys w2.heap.size w3 (.slice (some ⟨w2.heap.size, 0, none⟩) 1 1) [r.letter] := by rw [← hw3]; exact SlA.lit (l := [r.letter]) encB_len rfl (by simp; unfold maxLen; omega)
    have HX := Lib.hid (SlA.mono l3 HB2.out.size)
    have HB3 : Hid (Below W.heap.size W w3) := Lib.hid (Below.after HB2.out (by rw [← hw3]; exact (Below.refl _ _).alloc (Nat.le_refl _) _))
    clear l3 k
    go_enter Try.func86, Try.ntmps86
    go_wp2_with fail
    go_ret
    exact ⟨_, rfl, by rw [HTX.out, HE.out]; exact HX.out, HB3.out⟩
  · have k1 : ((r.kind : Int) == 1) = false := by simp [k]
    have k2 : ((r.kind : Int) == 2) = true := by simp [k]
    obtain ⟨l, hl⟩ : ∃ l : Nat, r.left = (l : Int) := ⟨r.left.toNat, by omega⟩
    obtain ⟨q, hq⟩ : ∃ l : Nat, r.right = (l : Int) := ⟨r.right.toNat, by omega⟩
    have HE : Hid (txOf (gT L) (gR r) = tx (gT L) l ++ tx (gT L) q) := Lib.hid (by unfold txOf gR; rw [if_neg (by simp [k]), if_pos (by simp [k])]; simp [hl, hq])
    have hlen : (tx (gT L) l).length + (tx (gT L) q).length ≤ 4096 := by have := HTB.out; rw [HE.out, List.length_append] at this; exact this
    have HLN := Lib.hid hlen
    rw [hl] at x2 l1 l2
    rw [hq] at x3 r1 r2
    have HDL : Hid (∀ w, Below W.heap.size W w → Calls Try.prog 86 #[.slice (some b) m cap, .int .i64 l] w fun e w' => ∃ u, e = .returned u ∧ Bys w.heap.size w' u (tx (gT L) l) ∧ Below w.heap.size w w') := Lib.hid (fun w hw => HI.out l w (by have := HIN.out; omega) (by omega) hw)
    have HDR : Hid (∀ w, Below W.heap.size W w → Calls Try.prog 86 #[.slice (some b) m cap, .int .i64 q] w fun e w' => ∃ u, e = .returned u ∧ Bys w.heap.size w' u (tx (gT L) q) ∧ Below w.heap.size w w') := Lib.hid (fun w hw => HI.out q w (by have := HIN.out; omega) (by omega) hw)
    have m2 : ∀ w, (Below W.heap.size W w ∧ Below w2.heap.size w2 w) → w.cell? ⟨W.heap.size, 2, none⟩ = some (.int .i64 l) := fun w hw => cell_on3 x2 hw.2
    have m3 : ∀ w, (Below W.heap.size W w ∧ Below w2.heap.size w2 w) → w.cell? ⟨W.heap.size, 3, none⟩ = some (.int .i64 q) := fun w hw => cell_on3 x3 hw.2
    clear k hl hq hlen l1 l2 r1 r2 HI
    go_enter Try.func86, Try.ntmps86
    go_wp2_with fail
    clear x0 x1 x2 x3 x4 z0 z1 z2 z3 z4 f0 f1 f2 f3 f4 q0 q1 q2 q3 q4 hz hs2
    refine wp_region_anyH (fun w => Below W.heap.size W w ∧ Below w2.heap.size w2 w) (by kernel_rfl) ?_
    have S0 : (fun w => Below W.heap.size W w ∧ Below w2.heap.size w2 w) w2.drew := ⟨HB2.out.drew, (Below.refl _ _).drew⟩
    obtain ⟨wd, hwd⟩ : ∃ y, w2.drew = y := ⟨_, rfl⟩
    rw [hwd] at S0 ⊢
    clear hwd
    have HLD := Lib.hid (HDL.out wd S0.1)
    refine AnyH.take (i := 0) (d := some 25) (v := ?_) (by kernel_rfl) rfl rfl HF (fun _ _ _ h => h) (.inl ⟨by rfl, ?_⟩) (by first | assumption | rfl) ?_
    rotate_left
    · intro w hS; try subst hS
      go_simp; try with_reducible rfl
    try simp only [Act.put, List.setIfInBounds_toArray, List.set_cons_zero, List.set_cons_succ]
    refine AnyH.take (i := 1) (d := some 26) (v := ?_) (by kernel_rfl) rfl rfl HF (fun _ _ _ h => h) (.inl ⟨by rfl, ?_⟩) (by first | assumption | rfl) ?_
    rotate_left
    · intro w hS; try subst hS
      go_simp; try with_reducible rfl
    try simp only [Act.put, List.setIfInBounds_toArray, List.set_cons_zero, List.set_cons_succ]
    refine AnyH.take (i := 2) (d := some 27) (v := ?_) (by kernel_rfl) rfl rfl HF (fun _ _ _ h => h) (.inl ⟨by rfl, ?_⟩) (by first | assumption | rfl) ?_
    rotate_left
    · intro w hS; try subst hS
      go_simp; try with_reducible rfl
    try simp only [Act.put, List.setIfInBounds_toArray, List.set_cons_zero, List.set_cons_succ]
    refine AnyH.take (i := 4) (d := some 29) (v := ?_) (by kernel_rfl) rfl rfl HF (fun _ _ _ h => h) (.inl ⟨by rfl, ?_⟩) (by first | assumption | rfl) ?_
    rotate_left
    · intro w hS; try subst hS
      go_simp; try with_reducible rfl
    try simp only [Act.put, List.setIfInBounds_toArray, List.set_cons_zero, List.set_cons_succ]
    refine AnyH.take (i := 5) (d := some 30) (v := ?_) (by kernel_rfl) rfl rfl HF (fun _ _ _ h => h) (.inl ⟨by rfl, ?_⟩) (by first | assumption | rfl) ?_
    rotate_left
    · intro w hS; try subst hS
      go_simp; try with_reducible rfl
    try simp only [Act.put, List.setIfInBounds_toArray, List.set_cons_zero, List.set_cons_succ]
    refine AnyH.take (i := 6) (d := some 31) (v := ?_) (by kernel_rfl) rfl rfl HF (fun _ _ _ h => h) (.inl ⟨by rfl, ?_⟩) (by first | assumption | rfl) ?_
    rotate_left
    · intro w hS; try subst hS
      go_simp; try with_reducible rfl
    try simp only [Act.put, List.setIfInBounds_toArray, List.set_cons_zero, List.set_cons_succ]
    refine AnyH.one (i := 3) (by kernel_rfl) (by kernel_rfl) rfl HF (by rfl) (fun K hK => ?_)
    go_simp
    first | ((with_reducible refine And.intro ?hdep ?_); (case hdep => first | rfl | (intro h; cases h))) | skip
    first | refine callsIn_wide.2 (HLD.out.mono ?_) | refine ⟨(fun h => by cases h), callsIn_wide.2 (HLD.out.mono ?_)⟩ | refine ⟨trivial, (fun h => by cases h), callsIn_wide.2 (HLD.out.mono ?_)⟩ | refine HLD.out.mono ?_
    rintro e' w7 ⟨v1, rfl, hv1, b7⟩
    have S7 : (fun w => Below W.heap.size W w ∧ Below w2.heap.size w2 w) w7 := ⟨Below.after S0.1 b7, Below.after S0.2 b7⟩
    have HRD := Lib.hid (HDR.out w7 S7.1)
    have HZD := Lib.hid b7.size
    refine hK _ _ S7 ?_
    clear hK K
    try simp only [Act.put, List.setIfInBounds_toArray, List.set_cons_zero, List.set_cons_succ]
    refine AnyH.one (i := 7) (by kernel_rfl) (by kernel_rfl) rfl HF (by rfl) (fun K hK => ?_)
    go_simp
    first | ((with_reducible refine And.intro ?hdep ?_); (case hdep => first | rfl | (intro h; cases h))) | skip
    first | refine callsIn_wide.2 (HRD.out.mono ?_) | refine ⟨(fun h => by cases h), callsIn_wide.2 (HRD.out.mono ?_)⟩ | refine ⟨trivial, (fun h => by cases h), callsIn_wide.2 (HRD.out.mono ?_)⟩ | refine HRD.out.mono ?_
    rintro e' w8 ⟨v2, rfl, hv2, b8⟩
    have s8 : (fun w => Below W.heap.size W w ∧ Below w2.heap.size w2 w) w8 := ⟨Below.after S7.1 b8, Below.after S7.2 b8⟩
    have HV1c := Lib.hid (SlA.below hv1 b8)
    refine hK _ _ s8 ?_
    clear hK K
    try simp only [Act.put, List.setIfInBounds_toArray, List.set_cons_zero, List.set_cons_succ]
    obtain ⟨v9, w9, hrun, hown, hb9, -⟩ := run_catA elemB encB_len encB_one 32 HV1c.out hv2 (by have := HLN.out; omega) (by have := b8.size; have := HZD.out; omega)
    have s9 : (fun w => Below W.heap.size W w ∧ Below w2.heap.size w2 w) w9 := ⟨s8.1.trans (hb9.mono S0.1.size), s8.2.trans (hb9.mono S0.2.size)⟩
    have H9 : Hid (Bys W.heap.size w9 v9 (tx (gT L) (i + 1))) := Lib.hid (by rw [HTX.out, HE.out]; exact SlA.mono hown S0.1.size)
    have HB9 := Lib.hid s9.1
    refine AnyH.one (i := 8) (by kernel_rfl) (by kernel_rfl) rfl HF (by rfl) (fun K hK => ?_)
    simp [execOp, resolve, invoke, builtin, hrun, Result.andThen, Act.eval, Oper.uponIn]
    refine hK _ _ s9 ?_
    try simp only [Act.put, List.setIfInBounds_toArray, List.set_cons_zero, List.set_cons_succ]
    clear hK K hown hb9 s8 hv2 b8 S0 hrun hv1 b7 S7
    refine AnyH.take (i := 9) (d := some 4) (v := ?_) (by kernel_rfl) rfl rfl HF (fun _ _ _ h => h) (.inl ⟨by rfl, ?_⟩) (by first | assumption | rfl) ?_
    rotate_left
    · intro w hS; try subst hS
      go_simp; try with_reducible rfl
    try simp only [Act.put, List.setIfInBounds_toArray, List.set_cons_zero, List.set_cons_succ]
    refine AnyH.done (by kernel_rfl) ?_
    clear m2 m3 s9
    go_wp2_with fail
    exact bodyPost_ret (v := v9) (by simp [results, Try.results86, go_sem]) rfl ⟨_, rfl, H9.out, HB9.out⟩
  · have k1 : ((r.kind : Int) == 1) = false := by simp [k]
    have k2 : ((r.kind : Int) == 2) = false := by simp [k]
    obtain ⟨l, hl⟩ : ∃ l : Nat, r.left = (l : Int) := ⟨r.left.toNat, by omega⟩
    obtain ⟨t, ht⟩ : ∃ l : Nat, r.times = (l : Int) := ⟨r.times.toNat, by omega⟩
    have HE : Hid (txOf (gT L) (gR r) = rep t (tx (gT L) l)) := Lib.hid (by unfold txOf gR; rw [if_neg (by simp [k]), if_neg (by simp [k])]; simp [hl, ht])
    have hlen : t * (tx (gT L) l).length ≤ 4096 := by have := HTB.out; rw [HE.out, rep_length] at this; exact this
    rw [hl] at x2 l1 l2
    rw [ht] at x4 t2
    have hp := HPOS.out l (by omega) (by omega)
    have htb : t ≤ t * (tx (gT L) l).length := Nat.le_mul_of_pos_right _ hp
    have hlb : (tx (gT L) l).length ≤ t * (tx (gT L) l).length := Nat.le_mul_of_pos_left _ (by omega)
    have HLD := Lib.hid (HI.out l w2 (by have := HIN.out; omega) (by omega) HB2.out)
    obtain ⟨tt, htt⟩ : ∃ y, tx (gT L) l = y := ⟨_, rfl⟩
    rw [htt] at HE HLD hlen htb
    have HLN := Lib.hid (show t ≤ 4096 ∧ t * tt.length ≤ 4096 from ⟨by omega, hlen⟩)
    have X2 := Lib.hid x2; have X4 := Lib.hid x4
    clear k hl ht hlen l1 l2 t2 hp htb hlb htt HI
    go_enter Try.func86, Try.ntmps86
    go_wp2_with fail
    refine HLD.out.mono ?_; rintro e w3 ⟨v1, rfl, hv1, b3⟩
    obtain ⟨va, vl, vc, rfl⟩ : ∃ a l c, v1 = .slice a l c := by obtain ⟨a, c, h⟩ := hv1.len; exact ⟨a, _, c, h⟩
    have HV1 := Lib.hid hv1
    have HB3 := Lib.hid (Below.after HB2.out b3)
    have HX4 : Hid (∀ w, Below w3.heap.size w3 w → w.cell? ⟨W.heap.size, 4, none⟩ = some (.int .i64 t)) := Lib.hid (fun w hw => cell_on3 (cell_on3 x4 b3) hw)
    clear hv1 b3 x0 x1 x2 x3 x4 z0 z1 z2 z3 z4 f0 f1 f2 f3 f4 q0 q1 q2 q3 q4 hz hs2 HLD
    go_wp2_with fail
    go_loopw [7, 8] (fun ov kv wr => ∃ (k : Nat) (oa : Option Addr) (ol oc : Nat), kv = .int .i64 k ∧ k ≤ t ∧ ov = .slice oa ol oc ∧ Bys w3.heap.size wr (.slice oa ol oc) (rep k tt) ∧ Below w3.heap.size w3 wr) (fun _ kv _ => t - (intOf kv).toNat)
    case atStart => exact ⟨0, none, 0, 0, rfl, Nat.zero_le _, rfl, SlA.nil _ _ _ _ _, Below.refl _ _⟩
    case round =>
      obtain ⟨k, oa, ol, oc, rfl, hk, rfl, hO, hB⟩ := hrel
      have y4 := HX4.out _ hB
      have HO := Lib.hid hO; have HB := Lib.hid hB
      by_cases hlt : k < t
      · have d1 : (k : Int) < (t : Int) := by omega
        have hkw : IntKind.i64.wrap ((k : Int) + 1) = ((k + 1 : Nat) : Int) := by rw [IntKind.wrap_i64]; have := HLN.out; omega
        have hbd : (rep k tt).length + tt.length ≤ 4096 := by
          rw [rep_length]
          have h1 : (k + 1) * tt.length ≤ t * tt.length := Nat.mul_le_mul_right _ (by omega)
          rw [Nat.succ_mul] at h1
          have := HLN.out.2; omega
        obtain ⟨v9, w9, hrun, hown, hb9, -⟩ := run_catA elemB encB_len encB_one 32 hO (SlA.below HV1.out hB) (by omega) hB.size
        rw [rep_more] at hown
        obtain ⟨na, nl, nc, rfl⟩ : ∃ a l c, v9 = .slice a l c := by obtain ⟨a, c, h⟩ := hown.len; exact ⟨a, _, c, h⟩
        have HN := Lib.hid (show Bys w3.heap.size w9 (.slice na nl nc) (rep (k + 1) tt) ∧ Below w3.heap.size w3 w9 from ⟨hown, hB.trans hb9⟩)
        clear hO hB hown hb9 hbd
        go_wp2_with (
          at_builtin
          refine wp_run_app rfl _ _ rfl rfl rfl hrun ?_)
        go_roundw
        case rel => exact ⟨k + 1, na, nl, nc, by go_num, by omega, rfl, HN.out.1, HN.out.2⟩
        case measure => first | (simp [intOf]; omega) | simp [intOf]
      · have d1 : ¬ (k : Int) < (t : Int) := by omega
        have e : k = t := by omega
        rw [e] at HO
        clear hO hB
        go_wp2_with fail
        go_ret
        exact ⟨_, rfl, by rw [HTX.out, HE.out]; exact SlA.mono HO.out HB3.out.size, HB3.out.trans (HB.out.mono HB3.out.size)⟩
end M
end Go.Proofs.Ytpjcfepngjpfbaa
