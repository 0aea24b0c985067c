/- The cursor: begin. -/
import Derived.Test.YtjbllcakaljpgaaLine
import Derived.Test.YtjbllcakaljpgaaNlP
namespace Go.Proofs.Ytjbllcakaljpgaa
open Go.RowKit Go.Lib
namespace M
attribute [local go_sem] Oper.semAt_some
set_option maxRecDepth 100000 in
set_option maxHeartbeats 8000000 in
theorem begin_any {n0 B most : Nat} {W : World} {E : List En} (hs : StAt n0 W B most E) (hwf : Wf E) (hE : E.length ≤ 1048576) {c id len k L : Nat} (h : CuC W c B id len k) (hid : id ≤ E.length) (hL : L ≤ (txt E id).count 10) :
    Calls Try.prog 49 #[.pointer (some ⟨c, 0, none⟩), .int .i64 L] W fun e w' => e = .returned (.int .i64 (nlp (txt E id) L)) ∧ Below W.heap.size W w' := by
  have HF : ∀ f, Fence.wide.fn f := fun _ => trivial
  have H := Lib.hid h; have HS := Lib.hid hs; have HWF := Lib.hid hwf
  obtain ⟨c0, c1, c2, c3, -⟩ := h.cells
  obtain ⟨tot, htot⟩ : ∃ t, nlp (txt E id) L = t := ⟨_, rfl⟩
  have hb : tot ≤ 1152921504606846976 := by have h1 := nlp_le (txt E id) L; have h2 := (hwf.len hid).2; omega
  have HST : Hid ((L = 0 ∧ (0 : Nat) = tot) ∨ (0 < L ∧ 0 < id ∧ id ≤ E.length ∧ L ≤ (txt E id).count 10 ∧ 0 + nlp (txt E id) L = tot)) := Lib.hid (by
    rcases Nat.eq_zero_or_pos L with h0 | h0
    · subst h0; rw [nlp_zero] at htot; exact .inl ⟨rfl, htot⟩
    · refine .inr ⟨h0, ?_, hid, hL, by rw [htot, Nat.zero_add]⟩
      rcases Nat.eq_zero_or_pos id with h1 | h1
      · subst h1; rw [txt_zero] at hL; simp at hL; omega
      · exact h1)
  rw [htot]
  clear h hs hwf hL htot
  go_enter Try.func49, Try.ntmps49
  go_wp2_with fail
  go_loopw [1, 5, 6] (fun lv iv av wr => ∃ i l a : Nat, lv = .int .i64 l ∧ iv = .int .i64 i ∧ av = .int .i64 a ∧ a ≤ tot ∧ ((l = 0 ∧ a = tot) ∨ (0 < l ∧ 0 < i ∧ i ≤ E.length ∧ l ≤ (txt E i).count 10 ∧ a + nlp (txt E i) l = tot)) ∧ Below W.heap.size W wr) (fun _ iv _ _ => (intOf iv).toNat)
  case atStart => exact ⟨id, L, 0, rfl, rfl, rfl, Nat.zero_le _, HST.out, Below.refl _ _⟩
  case round =>
    clear HST c0 c1 c2 c3
    obtain ⟨i, l, a, rfl, rfl, rfl, ha, hst, hB⟩ := hrel
    have HB := Lib.hid hB
    obtain ⟨c0, c1, c2, c3, -⟩ := CuC.cells (below_block hB H.out)
    rcases hst with ⟨rfl, rfl⟩ | ⟨hl0, hi0, hi, hlc, heq⟩
    · clear hB ha
      go_wp2_with fail
      go_ret
      exact ⟨rfl, HB.out⟩
    · have hl1 : (l : Int) > 0 := by omega
      have HRU := Lib.hid (rule_any (HS.out.below hB) hi0 hi hE)
      have HRL := Lib.hid (HWF.out.rule i hi0 hi).cases
      have HBS := Lib.hid (fun hk => begF_step HWF.out hi0 hi hk hl0 hlc)
      obtain ⟨r, hr⟩ : ∃ r, (entAt E i).ru = r := ⟨_, rfl⟩
      rw [hr] at HRU HRL HBS
      unfold ruV at HRU
      have hlb : l ≤ 1152921504606846976 := by
        have h1 := (HWF.out.len hi).2
        have h2 : (txt E i).count 10 ≤ (txt E i).length := List.count_le_length
        omega
      have HEQ := Lib.hid heq; have HLC := Lib.hid hlc; have HI := Lib.hid hi
      clear hr heq
      by_cases hk : r.kind = 1
      · have hkb : ((r.kind : Int) == 1) = true := by simp [hk]
        have HA1 : Hid (a + 1 = tot) := Lib.hid (by
          rcases HRL.out with ⟨-, -, -, -, -, g⟩ | ⟨q, -⟩ | ⟨q, -⟩
          · have h1 := HLC.out; have h2 := HEQ.out
            rw [g] at h1 h2
            have hlt : r.letter = 10 := by
              rcases Nat.decEq r.letter 10 with hne | he
              · rw [List.count_cons_of_ne (by simpa using hne)] at h1; simp at h1; omega
              · exact he
            rw [hlt] at h1 h2
            have : l = 1 := by simp at h1; omega
            subst this
            exact h2
          · omega
          · omega)
        have haw : IntKind.i64.wrap ((a : Int) + 1) = ((a + 1 : Nat) : Int) := by rw [IntKind.wrap_i64]; omega
        clear hk hB
        go_wp2_with fail
        refine HRU.out.mono ?_; rintro e w3 ⟨rfl, b3⟩
        obtain ⟨wz3, w4, hz3, hs3, kr, br, ⟨p0, p1, p2, p3, p4⟩, q0, q1, q2, q3, q4⟩ := newRu w3 r
        obtain ⟨x0, x1, x2, x3, x4⟩ := kr.cells
        have B4 := Lib.hid (Below.after HB.out (Below.after b3 br))
        clear b3 kr br
        go_wp2_with fail
        go_ret
        exact ⟨by rw [← HA1.out]; rfl, B4.out⟩
      · have hkb : ((r.kind : Int) == 1) = false := by simp; omega
        have hbs := HBS.out hk
        have hll : 0 < r.left ∧ r.left < i := by
          rcases HRL.out with ⟨q, -⟩ | ⟨-, -, c, d, -⟩ | ⟨-, -, c, d, -⟩
          · exact absurd q hk
          · exact ⟨c, d⟩
          · exact ⟨c, d⟩
        obtain ⟨hw2, hlen2⟩ := HWF.out.len (show r.left ≤ E.length by omega)
        have HWL : Hid (∀ w, Below wr.heap.size wr w → Calls Try.prog 30 #[.pointer (some ⟨B, 0, none⟩), .int .i64 r.left] w fun e w' => e = .returned (.tuple #[wtV (wt (txt E r.left)), .nilIface]) ∧ Below w.heap.size w w') := Lib.hid (fun w hw => by
          have := weight_any (HS.out.below (Below.after HB.out hw)) (i := r.left) (by omega) hE
          rwa [hw2] at this)
        obtain ⟨u, hu⟩ : ∃ u, wt (txt E r.left) = u := ⟨_, rfl⟩
        have hul : u.len = (txt E r.left).length := by rw [← hu]; rfl
        have hun : u.lines = (txt E r.left).count 10 := by rw [← hu]; rfl
        rw [hu] at HWL
        unfold wtV at HWL
        have hln : u.lines ≤ u.len := by rw [hul, hun]; exact List.count_le_length
        rw [← hul, ← hun] at hbs
        rw [← hul] at hlen2
        have HBF := Lib.hid hbs
        clear hbs hw2 hu hul hun hll HBS hk hB
        go_wp2_with fail
        refine HRU.out.mono ?_; rintro e w3 ⟨rfl, b3⟩
        obtain ⟨wz3, w4, hz3, hs3, kr, br, ⟨p0, p1, p2, p3, p4⟩, q0, q1, q2, q3, q4⟩ := newRu w3 r
        obtain ⟨x0, x1, x2, x3, x4⟩ := kr.cells
        have B4 := Lib.hid (Below.after b3 br); have KR := Lib.hid kr
        have m0 : ∀ w, Below w4.heap.size w4 w → w.cell? ⟨c, 0, none⟩ = some (.pointer (some ⟨B, 0, none⟩)) := fun w hw => (CuC.cells (below_block (Below.after HB.out (Below.after B4.out hw)) H.out)).1
        have m2 : ∀ w, Below w4.heap.size w4 w → w.cell? ⟨w3.heap.size, 2, none⟩ = some (.int .i64 r.left) := fun w hw => (RuC.cells (below_block hw KR.out)).2.2.1
        clear b3 kr br
        go_wp2_with fail
        clear hz3 hs3 p0 p1 p2 p3 p4 q0 q1 q2 q3 q4 x0 x1 x2 x3 x4 c0 c1 c2 c3
        refine wp_region_anyH (Below w4.heap.size w4) (by kernel_rfl) ?_
        obtain ⟨wd, hwd⟩ : ∃ w, w4.drew = w := ⟨_, rfl⟩
        have SC : Below w4.heap.size w4 wd := by rw [← hwd]; exact (Below.refl _ _).drew
        rw [hwd]
        clear hwd
        refine AnyH.take (i := 0) (d := some 33) (v := ?_) (by kernel_rfl) rfl rfl HF (fun _ _ _ h => h) (.inl ⟨by rfl, ?_⟩) (by first | assumption | rfl) ?_
        rotate_left
        · intro w hS; try subst hS
          go_simp; try with_reducible rfl
        try simp only [Act.put, List.setIfInBounds_toArray, List.set_cons_zero, List.set_cons_succ]
        refine AnyH.take (i := 1) (d := some 34) (v := ?_) (by kernel_rfl) rfl rfl HF (fun _ _ _ h => h) (.inl ⟨by rfl, ?_⟩) (by first | assumption | rfl) ?_
        rotate_left
        · intro w hS; try subst hS
          go_simp; try with_reducible rfl
        try simp only [Act.put, List.setIfInBounds_toArray, List.set_cons_zero, List.set_cons_succ]
        refine AnyH.take (i := 2) (d := some 35) (v := ?_) (by kernel_rfl) rfl rfl HF (fun _ _ _ h => h) (.inl ⟨by rfl, ?_⟩) (by first | assumption | rfl) ?_
        rotate_left
        · intro w hS; try subst hS
          go_simp; try with_reducible rfl
        try simp only [Act.put, List.setIfInBounds_toArray, List.set_cons_zero, List.set_cons_succ]
        refine AnyH.take (i := 3) (d := some 36) (v := ?_) (by kernel_rfl) rfl rfl HF (fun _ _ _ h => h) (.inl ⟨by rfl, ?_⟩) (by first | assumption | rfl) ?_
        rotate_left
        · intro w hS; try subst hS
          go_simp; try with_reducible rfl
        try simp only [Act.put, List.setIfInBounds_toArray, List.set_cons_zero, List.set_cons_succ]
        refine AnyH.take (i := 4) (d := some 37) (v := ?_) (by kernel_rfl) rfl rfl HF (fun _ _ _ h => h) (.inl ⟨by rfl, ?_⟩) (by first | assumption | rfl) ?_
        rotate_left
        · intro w hS; try subst hS
          go_simp; try with_reducible rfl
        try simp only [Act.put, List.setIfInBounds_toArray, List.set_cons_zero, List.set_cons_succ]
        refine AnyH.take (i := 5) (d := some 38) (v := ?_) (by kernel_rfl) rfl rfl HF (fun _ _ _ h => h) (.inl ⟨by rfl, ?_⟩) (by first | assumption | rfl) ?_
        rotate_left
        · intro w hS; try subst hS
          go_simp; try with_reducible rfl
        try simp only [Act.put, List.setIfInBounds_toArray, List.set_cons_zero, List.set_cons_succ]
        refine AnyH.two (i := 6) (j := 10) (by kernel_rfl) (by kernel_rfl) rfl rfl HF (by rfl) (by rfl) (fun K hK => ?_) (fun K hK => ?_)
        · go_simp
          first | ((with_reducible refine And.intro ?hdep ?_); (case hdep => first | rfl | (intro h; cases h))) | skip
          refine callsIn_wide.2 ((HWL.out _ (Below.after B4.out SC)).mono ?_)
          rintro e wc ⟨rfl, bc⟩
          have SC := Below.after SC bc
          try (have KB := below_block bc KB; obtain ⟨z, hz, KZ, BZ, ⟨f0, f1, f2, f3, f4, f5⟩, ⟨x0, x1, x2, x3, x4, x5⟩⟩ := stW (show WtC wc _ w0 from KB) u; simp only [w0] at x0 x1 x2 x3 x4 x5)
          clear bc
          refine hK _ _ SC ?_
          clear hK K
          try simp only [Act.put, List.setIfInBounds_toArray, List.set_cons_zero, List.set_cons_succ]
          refine AnyH.take (i := 7) (d := some 32) (v := ?_) (by kernel_rfl) rfl rfl HF (fun _ _ _ h => h) (.inl ⟨by rfl, ?_⟩) (by first | assumption | rfl) ?_
          rotate_left
          · intro w hS; try subst hS
            go_simp; try with_reducible rfl
          try simp only [Act.put, List.setIfInBounds_toArray, List.set_cons_zero, List.set_cons_succ]
          refine AnyH.take (i := 8) (d := some 40) (v := ?_) (by kernel_rfl) rfl rfl HF (fun _ _ _ h => h) (.inl ⟨by rfl, ?_⟩) (by first | assumption | rfl) ?_
          rotate_left
          · intro w hS; try subst hS
            go_simp; try with_reducible rfl
          try simp only [Act.put, List.setIfInBounds_toArray, List.set_cons_zero, List.set_cons_succ]
          refine AnyH.take (i := 9) (d := some 41) (v := ?_) (by kernel_rfl) rfl rfl HF (fun _ _ _ h => h) (.inl ⟨by rfl, ?_⟩) (by first | assumption | rfl) ?_
          rotate_left
          · intro w hS; try subst hS
            go_simp; try with_reducible rfl
          try simp only [Act.put, List.setIfInBounds_toArray, List.set_cons_zero, List.set_cons_succ]
          refine AnyH.one (i := 10) (by kernel_rfl) (by kernel_rfl) rfl HF (by rfl) (fun K hK => ?_)
          go_simp
          obtain ⟨wb, hwb, KB, SB, LB⟩ := boxN SC (Nat.le_refl _)
          rw [hwb]
          clear hwb
          have SC := SB
          refine hK _ _ SC ?_
          clear hK K
          obtain ⟨z, hz, KZ, BZ, ⟨f0, f1, f2, f3, f4, f5⟩, ⟨x0, x1, x2, x3, x4, x5⟩⟩ := stW KB u
          simp only [w0] at x0 x1 x2 x3 x4 x5
          try simp only [Act.put, List.setIfInBounds_toArray, List.set_cons_zero, List.set_cons_succ]
          refine AnyH.one (i := 11) (by kernel_rfl) (by kernel_rfl) rfl HF (by rfl) (fun K hK => ?_)
          go_simp
          have SZ := BZ _ _ SC LB
          refine hK _ _ SZ ?_
          clear hK K
          try simp only [Act.put, List.setIfInBounds_toArray, List.set_cons_zero, List.set_cons_succ]
          refine AnyH.take (i := 12) (d := some 10) (v := ?_) (by kernel_rfl) rfl rfl HF (fun _ _ _ h => h) (.inl ⟨by rfl, ?_⟩) (by first | assumption | rfl) ?_
          rotate_left
          · intro w hS; try subst hS
            go_simp; try with_reducible rfl
          try simp only [Act.put, List.setIfInBounds_toArray, List.set_cons_zero, List.set_cons_succ]
          refine AnyH.done (by kernel_rfl) ?_
          have HZ := Lib.hid SZ
          obtain ⟨y0, y1, y2, y3, y4, y5⟩ := KZ.cells
          obtain ⟨t0, t1, t2, t3, t4⟩ := RuC.cells (below_block SZ KR.out)
          have HBZ := Lib.hid (Below.after HB.out (Below.after B4.out SZ))
          clear m0 m2 hz f0 f1 f2 f3 f4 f5 x0 x1 x2 x3 x4 x5 KB KZ BZ SC LB SZ
          have HBE : Hid (begF r u.len u.lines l = if r.kind = 3 then (r.left, (l - 1) / u.lines * u.len, l - (l - 1) / u.lines * u.lines) else if l ≤ u.lines then (r.left, 0, l) else (r.right, u.len, l - u.lines)) := Lib.hid rfl
          by_cases hk3 : r.kind = 3
          · have hk3b : ((r.kind : Int) == 3) = true := by simp [hk3]
            have hbf := HBF.out
            rw [HBE.out, if_pos hk3] at hbf
            dsimp only at hbf
            obtain ⟨g1, g2, g3, g4, g5, g6⟩ := hbf
            have hlp := g6 hk3
            have hlz : ¬ u.lines = 0 := by omega
            obtain ⟨l1, hl1e⟩ : ∃ x, l - 1 = x := ⟨_, rfl⟩
            obtain ⟨q, hq⟩ : ∃ x, l1 / u.lines = x := ⟨_, rfl⟩
            have hql : q * u.lines ≤ l1 := by rw [← hq]; exact Nat.div_mul_le_self _ _
            rw [hl1e, hq] at g3 g4 g5
            have htq : Int.tdiv (l1 : Int) (u.lines : Int) = ((l1 / u.lines : Nat) : Int) := rfl
            rw [hq] at htq
            obtain ⟨p1, hp1⟩ : ∃ x, q * u.len = x := ⟨_, rfl⟩
            obtain ⟨p2, hp2⟩ : ∃ x, q * u.lines = x := ⟨_, rfl⟩
            rw [hp1] at g5
            rw [hp2] at g3 g4 g5 hql
            obtain ⟨l2, hl2⟩ : ∃ x, l - p2 = x := ⟨_, rfl⟩
            rw [hl2] at g3 g4 g5
            have hap : a + p1 ≤ tot := by have := HEQ.out; omega
            have hqq : q ≤ l1 := by rw [← hq]; exact Nat.div_le_self _ _
            have e1 : IntKind.i64.wrap ((l : Int) - 1) = (l1 : Int) := by rw [IntKind.wrap_i64]; omega
            have e2 : IntKind.i64.wrap (q : Int) = (q : Int) := by rw [IntKind.wrap_i64]; omega
            have e3 : IntKind.i64.wrap ((q : Int) * (u.len : Int)) = (p1 : Int) := by rw [← Int.natCast_mul, hp1, IntKind.wrap_i64]; omega
            have e4 : IntKind.i64.wrap ((q : Int) * (u.lines : Int)) = (p2 : Int) := by rw [← Int.natCast_mul, hp2, IntKind.wrap_i64]; omega
            have e5 : IntKind.i64.wrap ((a : Int) + (p1 : Int)) = ((a + p1 : Nat) : Int) := by rw [IntKind.wrap_i64]; omega
            have e6 : IntKind.i64.wrap ((l : Int) - (p2 : Int)) = (l2 : Int) := by rw [IntKind.wrap_i64]; omega
            have HG := Lib.hid (And.intro g1 (And.intro g2 (And.intro g3 (And.intro g4 (And.intro g5 hap)))))
            clear g1 g2 g3 g4 g5 g6 hk3 hl1e hq hp1 hp2 hl2
            go_wp2_with fail
            clear e1 e2 e3 e4 e5 e6
            go_roundw
            case rel => exact ⟨r.left, l2, a + p1, rfl, rfl, rfl, HG.out.2.2.2.2.2, .inr ⟨HG.out.2.2.1, HG.out.1, by have h1 := HG.out.2.1; have h2 := HI.out; omega, HG.out.2.2.2.1, by have h1 := HG.out.2.2.2.2.1; have h2 := HEQ.out; omega⟩, HBZ.out⟩
            case measure => have := HG.out.2.1; simp [intOf]; omega
          · have hk3b : ((r.kind : Int) == 3) = false := by simp; omega
            have hbf := HBF.out
            rw [HBE.out, if_neg hk3] at hbf
            by_cases hle : l ≤ u.lines
            · have hlei : (l : Int) ≤ (u.lines : Int) := by omega
              rw [if_pos hle] at hbf
              dsimp only at hbf
              have HG := Lib.hid hbf
              clear hbf hk3
              go_wp2_with fail
              go_roundw
              case rel => exact ⟨r.left, l, a, rfl, rfl, rfl, ha, .inr ⟨HG.out.2.2.1, HG.out.1, by have h1 := HG.out.2.1; have h2 := HI.out; omega, HG.out.2.2.2.1, by have h1 := HG.out.2.2.2.2.1; have h2 := HEQ.out; omega⟩, HBZ.out⟩
              case measure => have := HG.out.2.1; simp [intOf]; omega
            · have hlei : ¬ (l : Int) ≤ (u.lines : Int) := by omega
              rw [if_neg hle] at hbf
              dsimp only at hbf
              obtain ⟨l2, hl2⟩ : ∃ x, l - u.lines = x := ⟨_, rfl⟩
              rw [hl2] at hbf
              have hap : a + u.len ≤ tot := by have h1 := hbf.2.2.2.2.1; have h2 := HEQ.out; omega
              have e5 : IntKind.i64.wrap ((a : Int) + (u.len : Int)) = ((a + u.len : Nat) : Int) := by rw [IntKind.wrap_i64]; omega
              have e6 : IntKind.i64.wrap ((l : Int) - (u.lines : Int)) = (l2 : Int) := by rw [IntKind.wrap_i64]; omega
              have HG := Lib.hid hbf
              clear hbf hk3 hl2
              go_wp2_with fail
              clear e5 e6
              go_roundw
              case rel => exact ⟨r.right, l2, a + u.len, rfl, rfl, rfl, hap, .inr ⟨HG.out.2.2.1, HG.out.1, by have h1 := HG.out.2.1; have h2 := HI.out; omega, HG.out.2.2.2.1, by have h1 := HG.out.2.2.2.2.1; have h2 := HEQ.out; omega⟩, HBZ.out⟩
              case measure => have := HG.out.2.1; simp [intOf]; omega
        · go_simp
          obtain ⟨wb, hwb, KB, SB, LB⟩ := boxN SC (Nat.le_refl _)
          rw [hwb]
          clear hwb
          have SC := SB
          refine hK _ _ SC ?_
          clear hK K
          obtain ⟨z, hz, KZ, BZ, ⟨f0, f1, f2, f3, f4, f5⟩, ⟨x0, x1, x2, x3, x4, x5⟩⟩ := stW KB u
          simp only [w0] at x0 x1 x2 x3 x4 x5
          try simp only [Act.put, List.setIfInBounds_toArray, List.set_cons_zero, List.set_cons_succ]
          refine AnyH.one (i := 6) (by kernel_rfl) (by kernel_rfl) rfl HF (by rfl) (fun K hK => ?_)
          go_simp
          first | ((with_reducible refine And.intro ?hdep ?_); (case hdep => first | rfl | (intro h; cases h))) | skip
          refine callsIn_wide.2 ((HWL.out _ (Below.after B4.out SC)).mono ?_)
          rintro e wc ⟨rfl, bc⟩
          have SC := Below.after SC bc
          try (have KB := below_block bc KB; obtain ⟨z, hz, KZ, BZ, ⟨f0, f1, f2, f3, f4, f5⟩, ⟨x0, x1, x2, x3, x4, x5⟩⟩ := stW (show WtC wc _ w0 from KB) u; simp only [w0] at x0 x1 x2 x3 x4 x5)
          clear bc
          refine hK _ _ SC ?_
          clear hK K
          try simp only [Act.put, List.setIfInBounds_toArray, List.set_cons_zero, List.set_cons_succ]
          refine AnyH.take (i := 7) (d := some 32) (v := ?_) (by kernel_rfl) rfl rfl HF (fun _ _ _ h => h) (.inl ⟨by rfl, ?_⟩) (by first | assumption | rfl) ?_
          rotate_left
          · intro w hS; try subst hS
            go_simp; try with_reducible rfl
          try simp only [Act.put, List.setIfInBounds_toArray, List.set_cons_zero, List.set_cons_succ]
          refine AnyH.take (i := 8) (d := some 40) (v := ?_) (by kernel_rfl) rfl rfl HF (fun _ _ _ h => h) (.inl ⟨by rfl, ?_⟩) (by first | assumption | rfl) ?_
          rotate_left
          · intro w hS; try subst hS
            go_simp; try with_reducible rfl
          try simp only [Act.put, List.setIfInBounds_toArray, List.set_cons_zero, List.set_cons_succ]
          refine AnyH.take (i := 9) (d := some 41) (v := ?_) (by kernel_rfl) rfl rfl HF (fun _ _ _ h => h) (.inl ⟨by rfl, ?_⟩) (by first | assumption | rfl) ?_
          rotate_left
          · intro w hS; try subst hS
            go_simp; try with_reducible rfl
          try simp only [Act.put, List.setIfInBounds_toArray, List.set_cons_zero, List.set_cons_succ]
          refine AnyH.one (i := 11) (by kernel_rfl) (by kernel_rfl) rfl HF (by rfl) (fun K hK => ?_)
          go_simp
          have SZ := BZ _ _ SC LB
          refine hK _ _ SZ ?_
          clear hK K
          try simp only [Act.put, List.setIfInBounds_toArray, List.set_cons_zero, List.set_cons_succ]
          refine AnyH.take (i := 12) (d := some 10) (v := ?_) (by kernel_rfl) rfl rfl HF (fun _ _ _ h => h) (.inl ⟨by rfl, ?_⟩) (by first | assumption | rfl) ?_
          rotate_left
          · intro w hS; try subst hS
            go_simp; try with_reducible rfl
          try simp only [Act.put, List.setIfInBounds_toArray, List.set_cons_zero, List.set_cons_succ]
          refine AnyH.done (by kernel_rfl) ?_
          have HZ := Lib.hid SZ
          obtain ⟨y0, y1, y2, y3, y4, y5⟩ := KZ.cells
          obtain ⟨t0, t1, t2, t3, t4⟩ := RuC.cells (below_block SZ KR.out)
          have HBZ := Lib.hid (Below.after HB.out (Below.after B4.out SZ))
          clear m0 m2 hz f0 f1 f2 f3 f4 f5 x0 x1 x2 x3 x4 x5 KB KZ BZ SC LB SZ
          have HBE : Hid (begF r u.len u.lines l = if r.kind = 3 then (r.left, (l - 1) / u.lines * u.len, l - (l - 1) / u.lines * u.lines) else if l ≤ u.lines then (r.left, 0, l) else (r.right, u.len, l - u.lines)) := Lib.hid rfl
          by_cases hk3 : r.kind = 3
          · have hk3b : ((r.kind : Int) == 3) = true := by simp [hk3]
            have hbf := HBF.out
            rw [HBE.out, if_pos hk3] at hbf
            dsimp only at hbf
            obtain ⟨g1, g2, g3, g4, g5, g6⟩ := hbf
            have hlp := g6 hk3
            have hlz : ¬ u.lines = 0 := by omega
            obtain ⟨l1, hl1e⟩ : ∃ x, l - 1 = x := ⟨_, rfl⟩
            obtain ⟨q, hq⟩ : ∃ x, l1 / u.lines = x := ⟨_, rfl⟩
            have hql : q * u.lines ≤ l1 := by rw [← hq]; exact Nat.div_mul_le_self _ _
            rw [hl1e, hq] at g3 g4 g5
            have htq : Int.tdiv (l1 : Int) (u.lines : Int) = ((l1 / u.lines : Nat) : Int) := rfl
            rw [hq] at htq
            obtain ⟨p1, hp1⟩ : ∃ x, q * u.len = x := ⟨_, rfl⟩
            obtain ⟨p2, hp2⟩ : ∃ x, q * u.lines = x := ⟨_, rfl⟩
            rw [hp1] at g5
            rw [hp2] at g3 g4 g5 hql
            obtain ⟨l2, hl2⟩ : ∃ x, l - p2 = x := ⟨_, rfl⟩
            rw [hl2] at g3 g4 g5
            have hap : a + p1 ≤ tot := by have := HEQ.out; omega
            have hqq : q ≤ l1 := by rw [← hq]; exact Nat.div_le_self _ _
            have e1 : IntKind.i64.wrap ((l : Int) - 1) = (l1 : Int) := by rw [IntKind.wrap_i64]; omega
            have e2 : IntKind.i64.wrap (q : Int) = (q : Int) := by rw [IntKind.wrap_i64]; omega
            have e3 : IntKind.i64.wrap ((q : Int) * (u.len : Int)) = (p1 : Int) := by rw [← Int.natCast_mul, hp1, IntKind.wrap_i64]; omega
            have e4 : IntKind.i64.wrap ((q : Int) * (u.lines : Int)) = (p2 : Int) := by rw [← Int.natCast_mul, hp2, IntKind.wrap_i64]; omega
            have e5 : IntKind.i64.wrap ((a : Int) + (p1 : Int)) = ((a + p1 : Nat) : Int) := by rw [IntKind.wrap_i64]; omega
            have e6 : IntKind.i64.wrap ((l : Int) - (p2 : Int)) = (l2 : Int) := by rw [IntKind.wrap_i64]; omega
            have HG := Lib.hid (And.intro g1 (And.intro g2 (And.intro g3 (And.intro g4 (And.intro g5 hap)))))
            clear g1 g2 g3 g4 g5 g6 hk3 hl1e hq hp1 hp2 hl2
            go_wp2_with fail
            clear e1 e2 e3 e4 e5 e6
            go_roundw
            case rel => exact ⟨r.left, l2, a + p1, rfl, rfl, rfl, HG.out.2.2.2.2.2, .inr ⟨HG.out.2.2.1, HG.out.1, by have h1 := HG.out.2.1; have h2 := HI.out; omega, HG.out.2.2.2.1, by have h1 := HG.out.2.2.2.2.1; have h2 := HEQ.out; omega⟩, HBZ.out⟩
            case measure => have := HG.out.2.1; simp [intOf]; omega
          · have hk3b : ((r.kind : Int) == 3) = false := by simp; omega
            have hbf := HBF.out
            rw [HBE.out, if_neg hk3] at hbf
            by_cases hle : l ≤ u.lines
            · have hlei : (l : Int) ≤ (u.lines : Int) := by omega
              rw [if_pos hle] at hbf
              dsimp only at hbf
              have HG := Lib.hid hbf
              clear hbf hk3
              go_wp2_with fail
              go_roundw
              case rel => exact ⟨r.left, l, a, rfl, rfl, rfl, ha, .inr ⟨HG.out.2.2.1, HG.out.1, by have h1 := HG.out.2.1; have h2 := HI.out; omega, HG.out.2.2.2.1, by have h1 := HG.out.2.2.2.2.1; have h2 := HEQ.out; omega⟩, HBZ.out⟩
              case measure => have := HG.out.2.1; simp [intOf]; omega
            · have hlei : ¬ (l : Int) ≤ (u.lines : Int) := by omega
              rw [if_neg hle] at hbf
              dsimp only at hbf
              obtain ⟨l2, hl2⟩ : ∃ x, l - u.lines = x := ⟨_, rfl⟩
              rw [hl2] at hbf
              have hap : a + u.len ≤ tot := by have h1 := hbf.2.2.2.2.1; have h2 := HEQ.out; omega
              have e5 : IntKind.i64.wrap ((a : Int) + (u.len : Int)) = ((a + u.len : Nat) : Int) := by rw [IntKind.wrap_i64]; omega
              have e6 : IntKind.i64.wrap ((l : Int) - (u.lines : Int)) = (l2 : Int) := by rw [IntKind.wrap_i64]; omega
              have HG := Lib.hid hbf
              clear hbf hk3 hl2
              go_wp2_with fail
              clear e5 e6
              go_roundw
              case rel => exact ⟨r.right, l2, a + u.len, rfl, rfl, rfl, hap, .inr ⟨HG.out.2.2.1, HG.out.1, by have h1 := HG.out.2.1; have h2 := HI.out; omega, HG.out.2.2.2.1, by have h1 := HG.out.2.2.2.2.1; have h2 := HEQ.out; omega⟩, HBZ.out⟩
              case measure => have := HG.out.2.1; simp [intOf]; omega
end M
end Go.Proofs.Ytjbllcakaljpgaa
