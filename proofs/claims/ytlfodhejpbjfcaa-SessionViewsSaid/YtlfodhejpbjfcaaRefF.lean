/- The reference's New. -/
import Derived.Test.YtlfodhejpbjfcaaRefD
namespace Go.Proofs.Ytlfodhejpbjfcaa
open Go.RowKit
namespace S
attribute [local go_sem] Oper.semAt_some
def beginR (Vs : List Ver) : RT := ⟨(Vs.length : Int) - 1, (Vs.getLast?.map Prod.fst).getD [], [], [], false⟩
set_option maxRecDepth 100000 in
set_option maxHeartbeats 4000000 in
theorem refBegin_any {W : World} {v : Value} {Vs : List Ver} (hV : VersAt W v Vs) (hvz : 0 < Vs.length) (hv1 : Vs.length ≤ 1000) :
    Calls Try.prog 35 #[.agg #[v]] W fun e w' => ∃ v', e = .returned v' ∧ RtIs w' v' (beginR Vs) ∧ Below W.heap.size W w' := by
  have HF : ∀ f, Fence.wide.fn f := fun _ => trivial
  obtain ⟨gv, vc, -, -, -, -, -, -, rfl, -, -, -, -⟩ := hV.at (i := 0) hvz
  obtain ⟨vn, hvn⟩ : ∃ k, Vs.length = k := ⟨_, rfl⟩
  have HVN := Lib.hid hvn
  simp only [hvn] at hV hvz hv1
  have HBR : Hid (beginR Vs = ⟨(vn : Int) - 1, (Vs.getLast?.map Prod.fst).getD [], [], [], false⟩) := Lib.hid (by unfold beginR; rw [hvn])
  rw [hvn]
  clear hvn
  obtain ⟨W1, hW1⟩ : ∃ w, (W.alloc (.cells #[.slice (some ⟨gv, 0, none⟩) vn vc] 35)).alloc (.cells #[.int .i64 0, .slice none 0 0, .slice none 0 0, .slice none 0 0, .bool false] 40) = w := ⟨_, rfl⟩
  have hb1 : Below W.heap.size W W1 := by rw [← hW1]; exact ((Below.refl _ W).alloc (Nat.le_refl _) _).alloc (by simp) _
  have k1 : BxC W1 W.heap.size (some ⟨gv, 0, none⟩, vn, vc) := by rw [← hW1]; exact (Below.heap_alloc _ _ _ (by simp)).trans (heap_new _ _)
  have k2 : RtC W1 (W.heap.size + 1) 0 (none, 0, 0) (none, 0, 0) (none, 0, 0) false := by rw [← hW1]; exact heap_new1 _ _ _
  have c1 : ∀ x, Below W1.heap.size W1 x → x.cell? ⟨W.heap.size, 0, none⟩ = some (.slice (some ⟨gv, 0, none⟩) vn vc) := fun x hx => (BxC.cells (box_below hx k1)).1
  have hsub : IntKind.i64.wrap ((vn : Int) - 1) = (vn : Int) - 1 := by rw [IntKind.wrap_i64]; omega
  have HV1 := Lib.hid (hV.below hb1); have HB1 := Lib.hid hb1; have K2 := Lib.hid k2
  have hfl : ∀ (x y : Value) (w : World), (Instr.field 104 (.agg #[x, y]) 0).run Try.prog w = .ok x w := fun _ _ _ => by kernel_rfl
  clear hV hb1 k1 k2
  go_enter Try.func35, Try.ntmps35
  go_wp2_with fail
  refine wp_region_anyH (Below W1.heap.size W1) (by kernel_rfl) ?_
  have B0 : Below W1.heap.size W1 W1.drew := (Below.refl _ _).drew
  refine AnyH.take (i := 0) (d := some 3) (v := ?_) (by kernel_rfl) rfl rfl HF (fun _ _ _ h => h) (.inl ⟨by rfl, ?_⟩) (by first | assumption | rfl) ?_
  rotate_left
  · intro w hS; try subst hS
    go_simp; try with_reducible rfl
  try simp only [Act.put, List.setIfInBounds_toArray, List.set_cons_zero, List.set_cons_succ]
  refine AnyH.take (i := 1) (d := some 4) (v := ?_) (by kernel_rfl) rfl rfl HF (fun _ _ _ h => h) (.inl ⟨by rfl, ?_⟩) (by first | assumption | rfl) ?_
  rotate_left
  · intro w hS; try subst hS
    go_simp; try with_reducible rfl
  try simp only [Act.put, List.setIfInBounds_toArray, List.set_cons_zero, List.set_cons_succ]
  refine AnyH.take (i := 2) (d := some 5) (v := ?_) (by kernel_rfl) rfl rfl HF (fun _ _ _ h => h) (.inl ⟨by rfl, ?_⟩) (by first | assumption | rfl) ?_
  rotate_left
  · intro w hS; try subst hS
    go_simp; try with_reducible rfl
  try simp only [Act.put, List.setIfInBounds_toArray, List.set_cons_zero, List.set_cons_succ]
  refine AnyH.take (i := 3) (d := some 6) (v := ?_) (by kernel_rfl) rfl rfl HF (fun _ _ _ h => h) (.inl ⟨by rfl, ?_⟩) (by first | assumption | rfl) ?_
  rotate_left
  · intro w hS; try subst hS
    go_simp; try with_reducible rfl
  try simp only [Act.put, List.setIfInBounds_toArray, List.set_cons_zero, List.set_cons_succ]
  refine AnyH.take (i := 4) (d := some 7) (v := ?_) (by kernel_rfl) rfl rfl HF (fun _ _ _ h => h) (.inl ⟨by rfl, ?_⟩) (by first | assumption | rfl) ?_
  rotate_left
  · intro w hS; try subst hS
    go_simp; try with_reducible rfl
  try simp only [Act.put, List.setIfInBounds_toArray, List.set_cons_zero, List.set_cons_succ]
  refine AnyH.one (i := 5) (by kernel_rfl) (by kernel_rfl) rfl HF (by rfl) (fun K hK => ?_)
  go_simp
  first | ((with_reducible refine And.intro ?hdep ?_); (case hdep => first | rfl | (intro h; cases h))) | skip
  refine callsIn_wide.2 ((refLast_any (HV1.out.below B0) (by have := HVN.out; omega) (by have := HVN.out; omega)).mono ?_)
  rintro e w3 ⟨la, ln, lc, lb, lk, ld, rfl, hVL, b3⟩
  have B3 := Below.step B0 b3
  have HVL : Hid (Prs 0 w3 (.slice la ln lc) ((Vs.getLast?.map Prod.fst).getD [])) := Lib.hid (by
    have h := hVL.1
    have e : (Vs.getLast?.map Prod.fst).getD [] = (Vs[Vs.length - 1]'(by have := HVN.out; omega)).1 := by
      rw [List.getLast?_eq_getElem?, List.getElem?_eq_getElem (by have := HVN.out; omega)]; rfl
    rw [e]; exact h)
  clear b3 hVL
  refine hK _ _ B3 ?_
  clear hK K
  try simp only [Act.put, List.setIfInBounds_toArray, List.set_cons_zero, List.set_cons_succ]
  refine AnyH.take (i := 6) (d := some 9) (v := ?_) (by kernel_rfl) rfl rfl HF (fun _ _ _ h => h) (.inl ⟨by rfl, ?_⟩) (by first | assumption | rfl) ?_
  rotate_left
  · intro w hS; try subst hS
    go_simp; try with_reducible rfl
  try simp only [Act.put, List.setIfInBounds_toArray, List.set_cons_zero, List.set_cons_succ]
  refine AnyH.take (i := 7) (d := some 10) (v := ?_) (by kernel_rfl) rfl rfl HF (fun _ _ _ h => h) (.inl ⟨by rfl, ?_⟩) (by first | assumption | rfl) ?_
  rotate_left
  · intro w hS; try subst hS
    go_simp; try with_reducible rfl
  try simp only [Act.put, List.setIfInBounds_toArray, List.set_cons_zero, List.set_cons_succ]
  refine AnyH.tailL 8 (by kernel_rfl) ?_
  simp only [List.drop_succ_cons, List.drop_zero]
  have q2 : RtC w3 (W.heap.size + 1) 0 (none, 0, 0) (none, 0, 0) (none, 0, 0) false := box_below B3 K2.out
  obtain ⟨x0, x1, x2, x3, x4, y0, y1, y2, y3, y4⟩ := q2.cells
  obtain ⟨w4, hw4⟩ : ∃ x, ((((w3.setCell ⟨W.heap.size + 1, 0, none⟩ (.int .i64 ((vn : Int) - 1))).setCell ⟨W.heap.size + 1, 1, none⟩ (.slice la ln lc)).setCell ⟨W.heap.size + 1, 2, none⟩ (.slice none 0 0)).setCell ⟨W.heap.size + 1, 3, none⟩ (.slice none 0 0)).setCell ⟨W.heap.size + 1, 4, none⟩ (.bool false) = x := ⟨_, rfl⟩
  have q4 : RtC w4 (W.heap.size + 1) ((vn : Int) - 1) (la, ln, lc) (none, 0, 0) (none, 0, 0) false := by rw [← hw4]; exact q2.all ((vn : Int) - 1) (la, ln, lc) (none, 0, 0) (none, 0, 0) false
  have hk4 := rt_keep5 (t := 49) q2 (by decide) ((vn : Int) - 1) (la, ln, lc) (none, 0, 0) (none, 0, 0) false
  simp only [slV] at hk4
  rw [hw4] at hk4
  obtain ⟨r0, r1, r2, r3, r4, -⟩ := q4.cells
  have HB4 : Hid (Below W.heap.size W w4) := Lib.hid (by
    have h := Below.step HB1.out B3
    rw [← hw4]
    exact ((((h.setCell (p := ⟨W.heap.size + 1, 0, none⟩) (by simp) _).setCell (p := ⟨W.heap.size + 1, 1, none⟩) (by simp) _).setCell (p := ⟨W.heap.size + 1, 2, none⟩) (by simp) _).setCell (p := ⟨W.heap.size + 1, 3, none⟩) (by simp) _).setCell (p := ⟨W.heap.size + 1, 4, none⟩) (by simp) _)
  have HL4 := Lib.hid (HVL.out.keep hk4)
  clear q2 q4 hk4 c1
  gi_wp2_with fail
  go_wp2_with fail
  exact bodyPost_ret (v := rtV ((vn : Int) - 1) (la, ln, lc) (none, 0, 0) (none, 0, 0) false) (by simp [results, Try.results35, go_sem, r0, r1, r2, r3, r4, rtV]) rfl ⟨_, rfl, by rw [HBR.out]; exact ⟨_, _, _, rfl, HL4.out, SlA.nil _ _ _ _ _, SlA.nil _ _ _ _ _⟩, HB4.out⟩
end S
end Go.Proofs.Ytlfodhejpbjfcaa
namespace Go.Proofs.Ytlfodhejpbjfcaa
open Go.RowKit
namespace S
attribute [local go_sem] Oper.semAt_some
def newR : List (ByteArray × Int) → Nm → Int × Nm
  | [], l => (0, l)
  | p :: ps, l => if okName p.1 then (match findR p.1 l with | none => newR ps (putR p.1 p.2 l) | some _ => (6, l)) else (13, l)
theorem rowNm_at {W : World} {v : Value} {L : List (ByteArray × Int)} (h : RowNm W v L) {i : Nat} (hi : i < L.length) :
    ∃ b cap, v = .slice (some b) L.length cap ∧ L[i].1.size ≤ 9223372036854775807 ∧ ∀ w, Below W.heap.size W w → w.cell? (b.add (i * 2)) = some (.string L[i].1) ∧ w.cell? ⟨(b.add (i * 2)).block, (b.add (i * 2)).off + 1, none⟩ = some (.int .i64 L[i].2) := by
  obtain ⟨a, cap, rfl, -, -, hs, hc⟩ := h
  obtain ⟨b, rfl, m0, m1⟩ := hc i hi
  refine ⟨b, cap, rfl, ?_, fun w hw => ⟨cell_on m0 hw, cell_on m1 hw⟩⟩
  have := hs _ (List.getElem_mem hi); unfold maxLen at this; exact this
set_option maxRecDepth 100000 in
set_option maxHeartbeats 4000000 in
theorem refNew_any {W : World} {v : Value} {L : List (ByteArray × Int)} (hL : RowNm W v L) (hl : L.length ≤ 1000) :
    Calls Try.prog 34 #[v] W fun e w' => ∃ v', e = .returned (.tuple #[.agg #[v'], .int .i64 (newR L []).1]) ∧ ((newR L []).1 = 0 → VersAt w' v' [((newR L []).2, [])]) ∧ (∃ (a : Option Addr) (n c : Nat), v' = .slice a n c) ∧ Below W.heap.size W w' := by
  have HF : ∀ f, Fence.wide.fn f := fun _ => trivial
  have H := Lib.hid hL
  obtain ⟨a, cap, rfl, hc1, hc2, -, -⟩ := hL
  unfold maxLen at hc2
  obtain ⟨R, hR⟩ : ∃ R, newR L [] = R := ⟨_, rfl⟩
  have HR := Lib.hid hR
  rw [hR]
  clear hR
  obtain ⟨W1, hW1⟩ : ∃ w, W.alloc (.cells #[.slice none 0 0] 35) = w := ⟨_, rfl⟩
  have hb1 : Below W.heap.size W W1 := by rw [← hW1]; exact (Below.refl _ W).alloc (Nat.le_refl _) _
  have k1 : BxC W1 W.heap.size (none, 0, 0) := by rw [← hW1]; exact heap_new _ _
  have HB1 := Lib.hid hb1; have K1 := Lib.hid k1
  clear hb1 k1
  go_enter Try.func34, Try.ntmps34
  go_wp2_with fail
  clear hW1
  go_loopw [4, 10] (fun u c wr => ∃ (i : Nat) (l : Nm), i ≤ L.length ∧ c = .int .i64 i ∧ Prs 0 wr u l ∧ newR (L.drop i) l = newR L [] ∧ l.length ≤ i ∧ Below W1.heap.size W1 wr) (fun _ c _ => L.length - (intOf c).toNat)
  case atStart => exact ⟨0, [], Nat.zero_le _, rfl, SlA.nil _ _ _ _ _, rfl, by simp, Below.refl _ _⟩
  case round =>
    obtain ⟨i, l, hi, rfl, hP, hN, hz, hB⟩ := hrel
    have HP := Lib.hid hP; have HN0 := Lib.hid hN; have HB := Lib.hid hB
    clear hP hN hB
    obtain ⟨⟨sa, sn, sc⟩, hsv, -⟩ := HP.out.sl
    simp only [slV] at hsv
    subst hsv
    by_cases hlt : i < L.length
    · have hi3 : (i : Int) < (L.length : Int) := by omega
      have hi4 : (0 : Int) ≤ (i : Int) := by omega
      obtain ⟨b', cp, he, hps, hc⟩ := rowNm_at H.out hlt
      simp only [Value.slice.injEq] at he
      obtain ⟨rfl, -, rfl⟩ := he
      have hbw := Below.step HB1.out HB.out
      obtain ⟨m0, m1⟩ := hc wr hbw
      have hdr : L.drop i = L[i] :: L.drop (i + 1) := List.drop_eq_getElem_cons hlt
      have HC : Hid (∀ w, Below wr.heap.size wr w → w.cell? (b'.add (i * 2)) = some (.string L[i].1) ∧ w.cell? ⟨(b'.add (i * 2)).block, (b'.add (i * 2)).off + 1, none⟩ = some (.int .i64 L[i].2)) := Lib.hid (fun w hw => hc w (Below.step hbw hw))
      have HN := Lib.hid (show newR (L[i] :: L.drop (i + 1)) l = newR L [] by rw [← hdr]; exact HN0.out)
      clear hc hdr hbw
      generalize L[i] = p at *
      obtain ⟨s, x⟩ := p
      dsimp only at m0 m1 hps
      have HV := Lib.hid (refValid_any wr s hps)
      have HZ := Lib.hid hz
      have KR := Lib.hid (show BxC wr W.heap.size (none, 0, 0) from box_below HB.out K1.out)
      clear hz
      by_cases hk : 1 ≤ s.size ∧ s.size ≤ 32
      · have hd : decide (1 ≤ s.size ∧ s.size ≤ 32) = true := decide_eq_true hk
        have HF1 := Lib.hid (refFind_any s HP.out (by have := HZ.out; omega))
        cases hf : findR s l with
        | some q =>
          have HE : Hid (R = (6, l)) := Lib.hid (by rw [← HR.out, ← HN.out]; simp only [newR]; rw [if_pos (show okName s from hk), hf])
          rw [hf] at HF1
          obtain ⟨k0, kf⟩ := KR.out.cells
          simp only [slV] at k0
          obtain ⟨w2, hw2⟩ : ∃ y, wr.setCell ⟨W.heap.size, 0, none⟩ (.slice none 0 0) = y := ⟨_, rfl⟩
          have hk2 : BxC w2 W.heap.size (none, 0, 0) := by rw [← hw2]; exact KR.out.put (none, 0, 0)
          obtain ⟨r0, -⟩ := hk2.cells
          have HB2 : Hid (Below W.heap.size W w2) := Lib.hid (by rw [← hw2]; exact (Below.step HB1.out HB.out).setCell (p := ⟨W.heap.size, 0, none⟩) (Nat.le_refl _) _)
          clear hk2 hf hk
          go_wp2_with fail
          refine HV.out.mono ?_; rintro e w ⟨rfl, h⟩; rw [h, hd]; clear h w hd
          go_wp2_with fail
          refine HF1.out.mono ?_; rintro e w ⟨rfl, h⟩; rw [h]; clear h w
          simp only [findV]
          go_wp2_with fail
          exact bodyPost_ret (v := .tuple #[.agg #[.slice none 0 0], .int .i64 6]) (by simp [results, Try.results34, go_sem, r0]) rfl ⟨_, by rw [HE.out], by rw [HE.out]; intro h; exact absurd h (by simp), ⟨_, _, _, rfl⟩, HB2.out⟩
        | none =>
          have HE : Hid (newR (L.drop (i + 1)) (putR s x l) = newR L []) := Lib.hid (by rw [← HN.out]; simp only [newR]; rw [if_pos (show okName s from hk), hf])
          rw [hf] at HF1
          have g0 : ∀ w, Below wr.heap.size wr w → w.cell? (b'.add (i * 2)) = some (.string s) := fun w hw => (HC.out w hw).1
          have g1 : ∀ w, Below wr.heap.size wr w → w.cell? ⟨(b'.add (i * 2)).block, (b'.add (i * 2)).off + 1, none⟩ = some (.int .i64 x) := fun w hw => (HC.out w hw).2
          clear hf hk
          go_wp2_with fail
          refine HV.out.mono ?_; rintro e w ⟨rfl, h⟩; rw [h, hd]; clear h w hd
          go_wp2_with fail
          refine HF1.out.mono ?_; rintro e w ⟨rfl, h⟩; rw [h]; clear h w
          simp only [findV]
          go_wp2_with fail
          clear m0 m1
          refine wp_region_anyH (Below wr.heap.size wr) (by kernel_rfl) ?_
          have B0 : Below wr.heap.size wr wr.drew := (Below.refl _ _).drew
          refine AnyH.take (i := 0) (d := some 33) (v := ?_) (by kernel_rfl) rfl rfl HF (fun _ _ _ h => h) (.inl ⟨by rfl, ?_⟩) (by first | assumption | rfl) ?_
          rotate_left
          · intro w hS; try subst hS
            go_simp; try with_reducible rfl
          try simp only [Act.put, List.setIfInBounds_toArray, List.set_cons_zero, List.set_cons_succ]
          refine AnyH.take (i := 1) (d := some 34) (v := ?_) (by kernel_rfl) rfl rfl HF (fun _ _ _ h => h) (.inl ⟨by rfl, ?_⟩) (by first | assumption | rfl) ?_
          rotate_left
          · intro w hS; try subst hS
            go_simp; try with_reducible rfl
          try simp only [Act.put, List.setIfInBounds_toArray, List.set_cons_zero, List.set_cons_succ]
          refine AnyH.take (i := 2) (d := some 35) (v := ?_) (by kernel_rfl) rfl rfl HF (fun _ _ _ h => h) (.inl ⟨by rfl, ?_⟩) (by first | assumption | rfl) ?_
          rotate_left
          · intro w hS; try subst hS
            go_simp; try with_reducible rfl
          try simp only [Act.put, List.setIfInBounds_toArray, List.set_cons_zero, List.set_cons_succ]
          refine AnyH.take (i := 3) (d := some 36) (v := ?_) (by kernel_rfl) rfl rfl HF (fun _ _ _ h => h) (.inl ⟨by rfl, ?_⟩) (by first | assumption | rfl) ?_
          rotate_left
          · intro w hS; try subst hS
            go_simp; try with_reducible rfl
          try simp only [Act.put, List.setIfInBounds_toArray, List.set_cons_zero, List.set_cons_succ]
          refine AnyH.take (i := 4) (d := some 37) (v := ?_) (by kernel_rfl) rfl rfl HF (fun _ _ _ h => h) (.inl ⟨by rfl, ?_⟩) (by first | assumption | rfl) ?_
          rotate_left
          · intro w hS; try subst hS
            go_simp; try with_reducible rfl
          try simp only [Act.put, List.setIfInBounds_toArray, List.set_cons_zero, List.set_cons_succ]
          refine AnyH.take (i := 5) (d := some 38) (v := ?_) (by kernel_rfl) rfl rfl HF (fun _ _ _ h => h) (.inl ⟨by rfl, ?_⟩) (by first | assumption | rfl) ?_
          rotate_left
          · intro w hS; try subst hS
            go_simp; try with_reducible rfl
          try simp only [Act.put, List.setIfInBounds_toArray, List.set_cons_zero, List.set_cons_succ]
          refine AnyH.take (i := 6) (d := some 39) (v := ?_) (by kernel_rfl) rfl rfl HF (fun _ _ _ h => h) (.inl ⟨by rfl, ?_⟩) (by first | assumption | rfl) ?_
          rotate_left
          · intro w hS; try subst hS
            go_simp; try with_reducible rfl
          try simp only [Act.put, List.setIfInBounds_toArray, List.set_cons_zero, List.set_cons_succ]
          refine AnyH.take (i := 7) (d := some 40) (v := ?_) (by kernel_rfl) rfl rfl HF (fun _ _ _ h => h) (.inl ⟨by rfl, ?_⟩) (by first | assumption | rfl) ?_
          rotate_left
          · intro w hS; try subst hS
            go_simp; try with_reducible rfl
          try simp only [Act.put, List.setIfInBounds_toArray, List.set_cons_zero, List.set_cons_succ]
          refine AnyH.take (i := 8) (d := some 41) (v := ?_) (by kernel_rfl) rfl rfl HF (fun _ _ _ h => h) (.inl ⟨by rfl, ?_⟩) (by first | assumption | rfl) ?_
          rotate_left
          · intro w hS; try subst hS
            go_simp; try with_reducible rfl
          try simp only [Act.put, List.setIfInBounds_toArray, List.set_cons_zero, List.set_cons_succ]
          refine AnyH.take (i := 9) (d := some 42) (v := ?_) (by kernel_rfl) rfl rfl HF (fun _ _ _ h => h) (.inl ⟨by rfl, ?_⟩) (by first | assumption | rfl) ?_
          rotate_left
          · intro w hS; try subst hS
            go_simp; try with_reducible rfl
          try simp only [Act.put, List.setIfInBounds_toArray, List.set_cons_zero, List.set_cons_succ]
          refine AnyH.take (i := 10) (d := some 43) (v := ?_) (by kernel_rfl) rfl rfl HF (fun _ _ _ h => h) (.inl ⟨by rfl, ?_⟩) (by first | assumption | rfl) ?_
          rotate_left
          · intro w hS; try subst hS
            go_simp; try with_reducible rfl
          try simp only [Act.put, List.setIfInBounds_toArray, List.set_cons_zero, List.set_cons_succ]
          refine AnyH.one (i := 11) (by kernel_rfl) (by kernel_rfl) rfl HF (by rfl) (fun K hK => ?_)
          go_simp
          first | ((with_reducible refine And.intro ?hdep ?_); (case hdep => first | rfl | (intro h; cases h))) | skip
          refine callsIn_wide.2 ((refPut_any s x (HP.out.below B0) (by have := HZ.out; omega)).mono ?_)
          rintro e w5 ⟨v5, rfl, hP5, b5⟩
          have B5 := Below.step B0 b5
          have HP5 := Lib.hid hP5
          clear b5 hP5
          refine hK _ _ B5 ?_
          clear hK K
          try simp only [Act.put, List.setIfInBounds_toArray, List.set_cons_zero, List.set_cons_succ]
          refine AnyH.take (i := 12) (d := some 4) (v := ?_) (by kernel_rfl) rfl rfl HF (fun _ _ _ h => h) (.inl ⟨by rfl, ?_⟩) (by first | assumption | rfl) ?_
          rotate_left
          · intro w hS; try subst hS
            go_simp; try with_reducible rfl
          try simp only [Act.put, List.setIfInBounds_toArray, List.set_cons_zero, List.set_cons_succ]
          refine AnyH.done (by kernel_rfl) ?_
          have HB5 := Lib.hid (Below.step HB.out B5)
          clear B0 B5 g0 g1
          go_wp2_with fail
          go_roundw
          case rel => exact ⟨i + 1, _, by omega, by go_num, HP5.out, HE.out, by have h1 := putR_len s x l; have h2 := HZ.out; omega, HB5.out⟩
          case measure => simp [intOf]; omega
      · have hd : decide (1 ≤ s.size ∧ s.size ≤ 32) = false := decide_eq_false hk
        have HE : Hid (R = (13, l)) := Lib.hid (by rw [← HR.out, ← HN.out]; simp only [newR]; rw [if_neg (show ¬ okName s from hk)])
        obtain ⟨k0, kf⟩ := KR.out.cells
        simp only [slV] at k0
        obtain ⟨w2, hw2⟩ : ∃ y, wr.setCell ⟨W.heap.size, 0, none⟩ (.slice none 0 0) = y := ⟨_, rfl⟩
        have hk2 : BxC w2 W.heap.size (none, 0, 0) := by rw [← hw2]; exact KR.out.put (none, 0, 0)
        obtain ⟨r0, -⟩ := hk2.cells
        have HB2 : Hid (Below W.heap.size W w2) := Lib.hid (by rw [← hw2]; exact (Below.step HB1.out HB.out).setCell (p := ⟨W.heap.size, 0, none⟩) (Nat.le_refl _) _)
        clear hk2 hk
        go_wp2_with fail
        refine HV.out.mono ?_; rintro e w ⟨rfl, h⟩; rw [h, hd]; clear h w hd
        go_wp2_with fail
        exact bodyPost_ret (v := .tuple #[.agg #[.slice none 0 0], .int .i64 13]) (by simp [results, Try.results34, go_sem, r0]) rfl ⟨_, by rw [HE.out], by rw [HE.out]; intro h; exact absurd h (by simp), ⟨_, _, _, rfl⟩, HB2.out⟩
    · have hiL : L.length = i := by omega
      have hi3 : ¬ (i : Int) < (L.length : Int) := by omega
      have HE : Hid (R = (0, l)) := Lib.hid (by rw [← HR.out, ← HN0.out, ← hiL, List.drop_length]; rfl)
      obtain ⟨wb, hwb⟩ : ∃ y, wr.alloc (.cells #[.slice sa sn sc, .slice none 0 0] 104) = y := ⟨_, rfl⟩
      have hbb : Below wr.heap.size wr wb := by rw [← hwb]; exact (Below.refl _ _).alloc (Nat.le_refl _) _
      have hS : Vrs 0 wb (.slice (some ⟨wr.heap.size, 0, none⟩) 1 1) [((sa, sn, sc), (none, 0, 0))] := by rw [← hwb]; exact SlA.mono (SlA.lit (l := [((sa, sn, sc), (none, 0, 0))]) encU_len rfl (by simp; unfold maxLen; omega)) (Nat.zero_le _)
      have KR : BxC wb W.heap.size (none, 0, 0) := box_below hbb (box_below HB.out K1.out)
      obtain ⟨k0, kf⟩ := KR.cells
      simp only [slV] at k0
      obtain ⟨w2, hw2⟩ : ∃ y, wb.setCell ⟨W.heap.size, 0, none⟩ (.slice (some ⟨wr.heap.size, 0, none⟩) 1 1) = y := ⟨_, rfl⟩
      have hk2 : BxC w2 W.heap.size (some ⟨wr.heap.size, 0, none⟩, 1, 1) := by rw [← hw2]; exact KR.put (some ⟨wr.heap.size, 0, none⟩, 1, 1)
      obtain ⟨r0, -⟩ := hk2.cells
      have hkt := fun t ht => KeepT.setCell (nt := t) (a := ⟨W.heap.size, 0, none⟩) (v := .slice (some ⟨wr.heap.size, 0, none⟩) 1 1) KR ht
      rw [hw2] at hkt
      have HB2 : Hid (Below W.heap.size W w2) := Lib.hid (by rw [← hw2]; exact (Below.step HB1.out (Below.step HB.out hbb)).setCell (p := ⟨W.heap.size, 0, none⟩) (Nat.le_refl _) _)
      have HVV : Hid (VersAt w2 (.slice (some ⟨wr.heap.size, 0, none⟩) 1 1) [(l, [])]) := Lib.hid (by
        refine versAt_snoc (us := []) (Vs := []) (hS.keep (hkt _ (by decide))) rfl (fun i h => by simp at h) ⟨(HP.out.below hbb).keep (hkt _ (by decide)), SlA.nil _ _ _ _ _⟩)
      clear hS KR hk2 hkt hbb hz
      go_wp2_with fail
      exact bodyPost_ret (v := .tuple #[.agg #[.slice (some ⟨wr.heap.size, 0, none⟩) 1 1], .int .i64 0]) (by simp [results, Try.results34, go_sem, r0]) rfl ⟨_, by rw [HE.out], by rw [HE.out]; intro _; exact HVV.out, ⟨_, _, _, rfl⟩, HB2.out⟩
end S
end Go.Proofs.Ytlfodhejpbjfcaa
