/- walk: backward. -/
import Derived.Test.YtpjcfepngjpfbaaBackP
import Derived.Test.YtpjcfepngjpfbaaCopW
namespace Go.Proofs.Ytpjcfepngjpfbaa
open Go.RowKit Go.Lib
namespace M
attribute [local go_sem] Oper.semAt_some
section
variable {n0 B most : Nat} {W : World} {E : List En}
set_option maxRecDepth 100000 in
set_option maxHeartbeats 8000000 in
theorem backward_any (hs : StAt n0 W B most E) (hwf : Wf E) (hE : E.length ≤ 1048576) {id frm : Nat} (h0 : 0 < id) (hid : id ≤ E.length) (hf0 : 0 < frm) (hfr : frm ≤ (txt E id).length) :
    Calls Try.prog 62 #[.pointer (some ⟨B, 0, none⟩), .int .i64 id, .int .i64 frm] W fun e w' => ∃ v L, e = .returned v ∧ Cps W.heap.size w' v L ∧ StkC E L ∧ up E L = (txt E id).take frm ∧ Below W.heap.size W w' := by
  have HF : ∀ f, Fence.wide.fn f := fun _ => trivial
  have HS := Lib.hid hs; have HWF := Lib.hid hwf
  obtain ⟨t0, ht0⟩ : ∃ t, (txt E id).take frm = t := ⟨_, rfl⟩
  have HST : Hid (0 < id ∧ id ≤ E.length ∧ (0 < frm ∧ frm ≤ (txt E id).length) ∧ up E [] ++ (txt E id).take frm = t0) := Lib.hid ⟨h0, hid, ⟨hf0, hfr⟩, by rw [ht0]; rfl⟩
  rw [ht0]
  clear hs hwf h0 hid hf0 hfr ht0
  go_enter Try.func62, Try.ntmps62
  go_wp2_with fail
  go_loopw [1, 2, 7] (fun iv fv tv wr => ∃ (i f : Nat) (L : List Cp), iv = .int .i64 i ∧ fv = .int .i64 f ∧ Cps W.heap.size wr tv L ∧ StkC E L ∧ (0 < i ∧ i ≤ E.length ∧ (0 < f ∧ f ≤ (txt E i).length) ∧ up E L ++ (txt E i).take f = t0) ∧ L.length + 1 + 3 * i ≤ 3 * E.length + 3 ∧ Below W.heap.size W wr) (fun iv _ _ _ => (intOf iv).toNat)
  case atStart => exact ⟨id, frm, [], rfl, rfl, SlA.nil _ _ _ _ _, StkC.nil E, HST.out, by have := HST.out.2.1; simp; omega, Below.refl _ _⟩
  case round =>
    clear HST
    obtain ⟨i, f, L, rfl, rfl, hL, hk, ⟨h0, hi, ⟨hf0, hf⟩, hd⟩, hl, hB⟩ := hrel
    have HL := Lib.hid hL; have HK := Lib.hid hk; have HD := Lib.hid hd; have HB := Lib.hid hB; have HLN := Lib.hid hl; have HI := Lib.hid (And.intro h0 hi)
    obtain ⟨ta, tc, rfl⟩ := hL.len
    obtain ⟨n, hn⟩ : ∃ n, L.length = n := ⟨_, rfl⟩
    rw [hn] at HL HLN ⊢
    have HN := Lib.hid hn
    clear hL hk hd hB hl hn
    obtain ⟨hw, hlen⟩ := HWF.out.len hi
    have HW1 := Lib.hid (weight_any (HS.out.below HB.out) hi hE)
    rw [hw] at HW1
    obtain ⟨u, hu⟩ : ∃ u, wt (txt E i) = u := ⟨_, rfl⟩
    have hul : u.len = (txt E i).length := by rw [← hu]; rfl
    rw [hu] at HW1
    unfold wtV at HW1
    have HUW := Lib.hid hul
    have HF2 := Lib.hid hf; have HF0 := Lib.hid hf0
    rw [← hul] at hf hlen
    have hfb : f ≤ 1152921504606846976 := by omega
    have HRU : Hid (∀ w, Below W.heap.size W w → Calls Try.prog 23 #[.pointer (some ⟨B, 0, none⟩), .int .i64 i] w fun e w' => e = .returned (.tuple #[ruV (entAt E i).ru, .nilIface]) ∧ Below w.heap.size w w') := Lib.hid (fun w hw => rule_any (HS.out.below hw) h0 hi hE)
    have hrl := (HWF.out.rule i h0 hi).cases
    obtain ⟨r, hr⟩ : ∃ r, (entAt E i).ru = r := ⟨_, rfl⟩
    rw [hr] at HRU hrl
    unfold ruV at HRU
    have HRL := Lib.hid hrl
    clear hw hu hul hr hrl
    go_wp2_with fail
    refine HW1.out.mono ?_; rintro e w4 ⟨rfl, b4⟩
    obtain ⟨wz5, w5, hz5, hs5, ka, ba, ⟨s0, s1, s2, s3, s4, s5⟩, x0, x1, x2, x3, x4, x5⟩ := newWt w4 u
    obtain ⟨ga, hga⟩ : ∃ g, w4.heap.size = g := ⟨_, rfl⟩
    rw [hga] at hs5 ka s0 s1 s2 s3 s4 s5 x0 x1 x2 x3 x4 x5
    obtain ⟨j0, j1, j2, j3, j4, j5⟩ := ka.cells
    have b5 := Below.after b4 ba
    have HB5 := Lib.hid (Below.after HB.out b5)
    have HL5 := Lib.hid (SlA.below HL.out b5)
    have HZ5 : Hid (W.heap.size ≤ w5.heap.size) := Lib.hid HB5.out.size
    clear ka ba b4 b5 HW1 HB HL
    by_cases hfe : f = u.len
    · have hb : ((f : Int) == (u.len : Int)) = true := by simp [hfe]
      have HNX : Hid (StkC E (L ++ [(⟨i, 1⟩ : Cp)]) ∧ up E (L ++ [(⟨i, 1⟩ : Cp)]) = t0) := Lib.hid (by
        have h1 := HI.out; have h3 := HLN.out; have h4 := HN.out; have h5 := HUW.out
        refine ⟨HK.out.push ⟨h1.1, h1.2, by dsimp only; omega, by dsimp only; omega⟩ (by dsimp only; omega), ?_⟩
        rw [up_snoc, rep_one, ← HD.out, List.take_of_length_le (by omega)])
      have HAPP : Hid ((L.length + 1) * 16 ≤ 140737488355328) := Lib.hid (by have h1 := HLN.out; have h2 := HN.out; omega)
      clear hfe hf0 hf hlen h0 hi
      go_wp2_with (
        at_builtin
        refine wp_app1G (w0 := w5) (enc := encC) (v := .slice ta n tc) elemC encC_len rfl _ _ rfl rfl HL5.out (⟨i, 1⟩ : Cp) rfl rfl (encC_one _) HAPP.out HZ5.out ?_
        intro v8 w8 hS8 hg8 hb8
        have HX1 := Lib.hid hS8
        have HX2 := Lib.hid (HB5.out.trans hb8)
        clear hS8 hg8 hb8)
      exact bodyPost_ret (v := v8) (by simp [results, Try.results62, go_sem]) rfl ⟨_, _, rfl, HX1.out, HNX.out.1, HNX.out.2, HX2.out⟩
    · have hb : ((f : Int) == (u.len : Int)) = false := by simp; omega
      have hfl1 : f < u.len := by omega
      have hk23 : r.kind = 2 ∨ r.kind = 3 := by
        rcases HRL.out with ⟨-, -, -, -, -, g⟩ | ⟨a, -⟩ | ⟨a, -⟩
        · have h5 := HUW.out; rw [g] at h5; simp at h5; omega
        · exact .inl a
        · exact .inr a
      have hll : 0 < r.left ∧ r.left < i := by
        rcases HRL.out with ⟨-, -, -, -, -, g⟩ | ⟨-, -, c, d, -⟩ | ⟨-, -, c, d, -⟩
        · have h5 := HUW.out; rw [g] at h5; simp at h5; omega
        · exact ⟨c, d⟩
        · exact ⟨c, d⟩
      obtain ⟨hw2, hlen2⟩ := HWF.out.len (show r.left ≤ E.length by omega)
      have hpos : 0 < (txt E r.left).length := (HWF.out.get r.left hll.1 (by omega)).2.2.1
      have HWL : Hid (∀ w, Below W.heap.size W w → Calls Try.prog 39 #[.pointer (some ⟨B, 0, none⟩), .int .i64 r.left] w fun e w' => e = .returned (.tuple #[wtV (wt (txt E r.left)), .nilIface]) ∧ Below w.heap.size w w') := Lib.hid (fun w hw => by
        have := weight_any (HS.out.below hw) (i := r.left) (by omega) hE
        rwa [hw2] at this)
      obtain ⟨ul, hul2⟩ : ∃ u, wt (txt E r.left) = u := ⟨_, rfl⟩
      have hull : ul.len = (txt E r.left).length := by rw [← hul2]; rfl
      rw [hul2] at HWL
      unfold wtV at HWL
      have HUL := Lib.hid hull; have HLL := Lib.hid hll
      rw [← hull] at hpos hlen2
      clear hw2 hul2 hull hll hfe
      go_wp2_with fail
      clear hz5 hs5 s0 s1 s2 s3 s4 s5 x0 x1 x2 x3 x4 x5 j0 j1 j2 j3 j4 j5 hga
      refine (HRU.out w5 HB5.out).mono ?_; rintro e w4' ⟨rfl, b4⟩
      obtain ⟨wz6, w6, hz6, hs6, kr, br, ⟨r0, r1, r2, r3, r4⟩, e0, e1, e2, e3, e4⟩ := newRu w4' r
      obtain ⟨gr, hgr⟩ : ∃ g, w4'.heap.size = g := ⟨_, rfl⟩
      rw [hgr] at hs6 kr r0 r1 r2 r3 r4 e0 e1 e2 e3 e4
      obtain ⟨y0, y1, y2, y3, y4⟩ := kr.cells
      have HB6 := Lib.hid (Below.after HB5.out (Below.after b4 br)); have KR := Lib.hid kr
      have HL6 := Lib.hid (SlA.below HL5.out (Below.after b4 br))
      clear kr br b4 HRU HB5 HL5 HZ5
      go_wp2_with fail
      clear hz6 hs6 r0 r1 r2 r3 r4 e0 e1 e2 e3 e4 y0 y1 y2 y3 y4 hgr
      refine (HWL.out w6 HB6.out).mono ?_; rintro e w6' ⟨rfl, b6⟩
      obtain ⟨wz7, w7, hz7, hs7, kw, bw, ⟨o0, o1, o2, o3, o4, o5⟩, i0, i1, i2, i3, i4, i5⟩ := newWt w6' ul
      obtain ⟨gw, hgw⟩ : ∃ g, w6'.heap.size = g := ⟨_, rfl⟩
      rw [hgw] at hs7 kw o0 o1 o2 o3 o4 o5 i0 i1 i2 i3 i4 i5
      obtain ⟨m0, m1, m2, m3, m4, m5⟩ := kw.cells
      have b7 := Below.after b6 bw
      have KR7 := Lib.hid (show RuC w7 gr r from below_block b7 KR.out)
      obtain ⟨l0, l1, l2, l3, l4⟩ := KR7.out.cells
      have HB7 := Lib.hid (Below.after HB6.out b7)
      have HL7 := Lib.hid (SlA.below HL6.out b7)
      have KW := Lib.hid kw
      have HZ7 : Hid (W.heap.size ≤ w7.heap.size) := Lib.hid HB7.out.size
      clear kw bw b6 b7 HL6 HB6 KR HWL
      rcases hk23 with hk2 | hk3
      · have hkb : ((r.kind : Int) == 3) = false := by simp [hk2]
        obtain ⟨hr1, hr2, htx⟩ : 0 < r.right ∧ r.right < i ∧ txt E i = txt E r.left ++ txt E r.right := by
          rcases HRL.out with ⟨a, -⟩ | ⟨-, -, -, -, a, b, -, c⟩ | ⟨a, -⟩
          · omega
          · exact ⟨a, b, c⟩
          · omega
        by_cases hfl : f ≤ ul.len
        · have g1 : (f : Int) ≤ (ul.len : Int) := by omega
          have HNX : Hid (0 < r.left ∧ r.left ≤ E.length ∧ (0 < f ∧ f ≤ (txt E r.left).length) ∧ up E L ++ (txt E r.left).take f = t0) := Lib.hid (by
            have h1 := HI.out; have h2 := HLL.out; have h5 := HUL.out
            refine ⟨h2.1, by omega, ⟨HF0.out, by omega⟩, ?_⟩
            rw [← HD.out, htx, List.take_append_of_le_length (by omega)])
          clear hk2 hr1 hr2 htx hfl
          go_wp2_with fail
          clear hz7 hs7 o0 o1 o2 o3 o4 o5 i0 i1 i2 i3 i4 i5 l0 l1 l2 l3 l4 m0 m1 m2 m3 m4 m5 hgw
          go_roundw
          case rel => exact ⟨r.left, f, L, rfl, rfl, HL7.out, HK.out, HNX.out, by have := HLN.out; have := HN.out; have := HLL.out; omega, HB7.out⟩
          case measure => have := HLL.out; first | (simp [intOf]; omega) | simp [intOf]
        · have g1 : ¬ (f : Int) ≤ (ul.len : Int) := by omega
          have g2 : (ul.len : Int) < (f : Int) := by omega
          have hsw : IntKind.i64.wrap ((f : Int) - (ul.len : Int)) = ((f - ul.len : Nat) : Int) := by rw [IntKind.wrap_i64]; omega
          have hfp : 0 < f - ul.len := by omega
          obtain ⟨f2, hf2⟩ : ∃ y, f - ul.len = y := ⟨_, rfl⟩
          rw [hf2] at hsw hfp
          have HNX : Hid (StkC E (L ++ [(⟨r.left, 1⟩ : Cp)]) ∧ (0 < r.right ∧ r.right ≤ E.length ∧ (0 < f2 ∧ f2 ≤ (txt E r.right).length) ∧ up E (L ++ [(⟨r.left, 1⟩ : Cp)]) ++ (txt E r.right).take f2 = t0) ∧ (L ++ [(⟨r.left, 1⟩ : Cp)]).length + 1 + 3 * r.right ≤ 3 * E.length + 3) := Lib.hid (by
            have h1 := HI.out; have h2 := HLL.out; have h3 := HLN.out; have h4 := HN.out; have h5 := HUL.out; have h6 := HF2.out
            rw [htx, List.length_append] at h6
            refine ⟨HK.out.push ⟨h2.1, by dsimp only; omega, by dsimp only; omega, by dsimp only; omega⟩ (by dsimp only; omega), ⟨hr1, by omega, ⟨hfp, by omega⟩, ?_⟩, by rw [List.length_append, List.length_singleton]; omega⟩
            rw [up_snoc, rep_one, ← HD.out, htx, List.take_append, List.take_of_length_le (show (txt E r.left).length ≤ f by omega), ← h5, hf2, List.append_assoc])
          have HAPP : Hid ((L.length + 1) * 16 ≤ 140737488355328) := Lib.hid (by have h1 := HLN.out; have h2 := HN.out; omega)
          have HRR : Hid (r.right < i) := Lib.hid hr2
          clear hk2 hr1 hr2 htx hfl hf2 hfp
          go_wp2_with (
            at_builtin
            refine wp_app1G (w0 := w7) (enc := encC) (v := .slice ta n tc) elemC encC_len rfl _ _ rfl rfl HL7.out (⟨r.left, 1⟩ : Cp) rfl rfl (encC_one _) HAPP.out HZ7.out ?_
            intro v8 w8 hS8 hg8 hb8
            have hno : ∀ (k : Nat) (cs : Array Value) (t : TypeId) (fz : Nat × Nat), w7.heap[k]? = some (.cells cs t fz) → t ≠ 107 → w8.heap[k]? = some (.cells cs t fz) := fun k cs t fz hk ht => app_other HL7.out hg8 hk ht
            have HX1 := Lib.hid hS8
            have HX2 := Lib.hid (HB7.out.trans hb8)
            have KR8 := Lib.hid (show RuC w8 gr r from hno _ _ _ _ KR7.out (by decide)); have KW8 := Lib.hid (show WtC w8 gw ul from hno _ _ _ _ KW.out (by decide))
            clear hS8 hg8 hb8 hno)
          clear hz7 hs7 o0 o1 o2 o3 o4 o5 i0 i1 i2 i3 i4 i5 l0 l1 l2 l3 l4 m0 m1 m2 m3 m4 m5 hgw
          have c0 : ∀ w, Below w8.heap.size w8 w → w.cell? ⟨gw, 0, none⟩ = some (.int .i64 ul.len) := fun w hw => (WtC.cells (below_block hw KW8.out)).1
          have c3 : ∀ w, Below w8.heap.size w8 w → w.cell? ⟨gr, 3, none⟩ = some (.int .i64 r.right) := fun w hw => (RuC.cells (below_block hw KR8.out)).2.2.2.1
          refine wp_region_anyH (Below w8.heap.size w8) (by kernel_rfl) ?_
          obtain ⟨we, hwe⟩ : ∃ w, w8.drew = w := ⟨_, rfl⟩
          have SE : Below w8.heap.size w8 we := by rw [← hwe]; exact (Below.refl _ _).drew
          rw [hwe]
          clear hwe
          refine AnyH.take (i := 0) (d := some 49) (v := ?_) (by kernel_rfl) rfl rfl HF (fun _ _ _ h => h) (.inl ⟨by rfl, ?_⟩) (by first | assumption | rfl) ?_
          rotate_left
          · intro w hS; try subst hS
            go_simp; try with_reducible rfl
          try simp only [Act.put, List.setIfInBounds_toArray, List.set_cons_zero, List.set_cons_succ]
          refine AnyH.take (i := 1) (d := some 50) (v := ?_) (by kernel_rfl) rfl rfl HF (fun _ _ _ h => h) (.inl ⟨by rfl, ?_⟩) (by first | assumption | rfl) ?_
          rotate_left
          · intro w hS; try subst hS
            go_simp; try with_reducible rfl
          try simp only [Act.put, List.setIfInBounds_toArray, List.set_cons_zero, List.set_cons_succ]
          refine AnyH.take (i := 2) (d := some 51) (v := ?_) (by kernel_rfl) rfl rfl HF (fun _ _ _ h => h) (.inl ⟨by rfl, ?_⟩) (by first | assumption | rfl) ?_
          rotate_left
          · intro w hS; try subst hS
            go_simp; try with_reducible rfl
          try simp only [Act.put, List.setIfInBounds_toArray, List.set_cons_zero, List.set_cons_succ]
          refine AnyH.take (i := 3) (d := some 52) (v := ?_) (by kernel_rfl) rfl rfl HF (fun _ _ _ h => h) (.inl ⟨by rfl, ?_⟩) (by first | assumption | rfl) ?_
          rotate_left
          · intro w hS; try subst hS
            go_simp; try with_reducible rfl
          try simp only [Act.put, List.setIfInBounds_toArray, List.set_cons_zero, List.set_cons_succ]
          refine AnyH.take (i := 4) (d := some 53) (v := ?_) (by kernel_rfl) rfl rfl HF (fun _ _ _ h => h) (.inl ⟨by rfl, ?_⟩) (by first | assumption | rfl) ?_
          rotate_left
          · intro w hS; try subst hS
            go_simp; try with_reducible rfl
          try simp only [Act.put, List.setIfInBounds_toArray, List.set_cons_zero, List.set_cons_succ]
          refine AnyH.take (i := 5) (d := some 54) (v := ?_) (by kernel_rfl) rfl rfl HF (fun _ _ _ h => h) (.inl ⟨by rfl, ?_⟩) (by first | assumption | rfl) ?_
          rotate_left
          · intro w hS; try subst hS
            go_simp; try with_reducible rfl
          try simp only [Act.put, List.setIfInBounds_toArray, List.set_cons_zero, List.set_cons_succ]
          refine AnyH.take (i := 6) (d := some 1) (v := ?_) (by kernel_rfl) rfl rfl HF (fun _ _ _ h => h) (.inl ⟨by rfl, ?_⟩) (by first | assumption | rfl) ?_
          rotate_left
          · intro w hS; try subst hS
            go_simp; try with_reducible rfl
          try simp only [Act.put, List.setIfInBounds_toArray, List.set_cons_zero, List.set_cons_succ]
          refine AnyH.take (i := 7) (d := some 2) (v := ?_) (by kernel_rfl) rfl rfl HF (fun _ _ _ h => h) (.inl ⟨by rfl, ?_⟩) (by first | assumption | rfl) ?_
          rotate_left
          · intro w hS; try subst hS
            go_simp; try with_reducible rfl
          try simp only [Act.put, List.setIfInBounds_toArray, List.set_cons_zero, List.set_cons_succ]
          refine AnyH.done (by kernel_rfl) ?_
          have HY1 := Lib.hid (SlA.below HX1.out SE); have HY2 := Lib.hid (HX2.out.trans (SE.mono HX2.out.size))
          clear c0 c3 SE hsw
          go_wp2_with fail
          go_roundw
          case rel => exact ⟨r.right, f2, L ++ [(⟨r.left, 1⟩ : Cp)], rfl, rfl, HY1.out, HNX.out.1, HNX.out.2.1, HNX.out.2.2, HY2.out⟩
          case measure => have := HRR.out; first | (simp [intOf]; omega) | simp [intOf]
      · have hkb : ((r.kind : Int) == 3) = true := by simp [hk3]
        obtain ⟨ht2, htm, htx⟩ : 2 ≤ r.times ∧ r.times ≤ 1152921504606846976 ∧ txt E i = rep r.times (txt E r.left) := by
          rcases HRL.out with ⟨a, -⟩ | ⟨a, -⟩ | ⟨-, -, -, -, -, a, b, c⟩
          · omega
          · omega
          · exact ⟨a, b, c⟩
        have hlz : ¬ ul.len = 0 := by omega
        have hlz2 : ¬ (ul.len : Int) = 0 := by omega
        have hlz3 : ((ul.len : Int) == 0) = false := by simp; omega
        have hw1 : IntKind.i64.wrap ((f : Int) - 1) = ((f - 1 : Nat) : Int) := by rw [IntKind.wrap_i64]; omega
        have hq1 : ((f - 1 : Nat) : Int).tdiv (ul.len : Int) = (((f - 1) / ul.len : Nat) : Int) := rfl
        obtain ⟨hqn, hp1, hp2, hp3, hp4⟩ : (f - 1) / ul.len < r.times ∧ 0 < f - (f - 1) / ul.len * ul.len ∧ f - (f - 1) / ul.len * ul.len ≤ ul.len ∧ (f - 1) / ul.len * ul.len < f ∧ (txt E i).take f = rep ((f - 1) / ul.len) (txt E r.left) ++ (txt E r.left).take (f - (f - 1) / ul.len * ul.len) := by
          have h6 := HF2.out
          rw [htx, rep_length] at h6
          rw [htx, HUL.out]
          exact rep_take_at (by rw [← HUL.out]; omega) HF0.out h6
        have hqb : (f - 1) / ul.len ≤ 1152921504606846976 := by omega
        obtain ⟨q, hq⟩ : ∃ y, (f - 1) / ul.len = y := ⟨_, rfl⟩
        rw [hq] at hq1 hqn hp1 hp2 hp3 hp4 hqb
        have hqw : IntKind.i64.wrap (q : Int) = (q : Int) := by rw [IntKind.wrap_i64]; omega
        obtain ⟨p, hp⟩ : ∃ y, q * ul.len = y := ⟨_, rfl⟩
        rw [hp] at hp1 hp2 hp3 hp4
        have hmw : IntKind.i64.wrap ((q : Int) * (ul.len : Int)) = (p : Int) := by rw [← hp, IntKind.wrap_i64, Int.natCast_mul]; omega
        have hsw : IntKind.i64.wrap ((f : Int) - (p : Int)) = ((f - p : Nat) : Int) := by rw [IntKind.wrap_i64]; omega
        obtain ⟨f2, hf2⟩ : ∃ y, f - p = y := ⟨_, rfl⟩
        rw [hf2] at hsw hp1 hp2 hp4
        obtain ⟨fm, hfm⟩ : ∃ y, f - 1 = y := ⟨_, rfl⟩
        rw [hfm] at hw1 hq1
        have HML : Hid (0 < f2 ∧ f2 ≤ (txt E r.left).length) := Lib.hid ⟨hp1, by rw [← HUL.out]; exact hp2⟩
        have HRD := Lib.hid hp4
        clear hk3 ht2 htm htx hp hp4 hq hf2 hfm
        by_cases hm0 : 0 < q
        · have hm1 : (q : Int) > 0 := by omega
          have hm2 : (0 : Int) < (q : Int) := by omega
          have HNX : Hid (StkC E (L ++ [(⟨r.left, q⟩ : Cp)]) ∧ (0 < r.left ∧ r.left ≤ E.length ∧ (0 < f2 ∧ f2 ≤ (txt E r.left).length) ∧ up E (L ++ [(⟨r.left, q⟩ : Cp)]) ++ (txt E r.left).take f2 = t0) ∧ (L ++ [(⟨r.left, q⟩ : Cp)]).length + 1 + 3 * r.left ≤ 3 * E.length + 3) := Lib.hid (by
            have h1 := HI.out; have h2 := HLL.out; have h3 := HLN.out; have h4 := HN.out
            refine ⟨HK.out.push ⟨h2.1, by dsimp only; omega, hm0, hqb⟩ (by dsimp only; omega), ⟨h2.1, by omega, HML.out, ?_⟩, by rw [List.length_append, List.length_singleton]; omega⟩
            rw [up_snoc, ← HD.out, HRD.out, List.append_assoc])
          have HAPP : Hid ((L.length + 1) * 16 ≤ 140737488355328) := Lib.hid (by have h1 := HLN.out; have h2 := HN.out; omega)
          clear hm0 hqb hqn hp1 hp2 hp3
          go_wp2_with (
            at_builtin
            refine wp_app1G (w0 := w7) (enc := encC) (v := .slice ta n tc) elemC encC_len rfl _ _ rfl rfl HL7.out (⟨r.left, q⟩ : Cp) rfl rfl (encC_one _) HAPP.out HZ7.out ?_
            intro v8 w8 hS8 hg8 hb8
            have hno : ∀ (k : Nat) (cs : Array Value) (t : TypeId) (fz : Nat × Nat), w7.heap[k]? = some (.cells cs t fz) → t ≠ 107 → w8.heap[k]? = some (.cells cs t fz) := fun k cs t fz hk ht => app_other HL7.out hg8 hk ht
            have HX1 := Lib.hid hS8
            have HX2 := Lib.hid (HB7.out.trans hb8)
            have KR8 := Lib.hid (show RuC w8 gr r from hno _ _ _ _ KR7.out (by decide)); have KW8 := Lib.hid (show WtC w8 gw ul from hno _ _ _ _ KW.out (by decide))
            clear hS8 hg8 hb8 hno)
          clear hz7 hs7 o0 o1 o2 o3 o4 o5 i0 i1 i2 i3 i4 i5 l0 l1 l2 l3 l4 m0 m1 m2 m3 m4 m5 hgw
          have c0 : ∀ w, Below w8.heap.size w8 w → w.cell? ⟨gw, 0, none⟩ = some (.int .i64 ul.len) := fun w hw => (WtC.cells (below_block hw KW8.out)).1
          have c2 : ∀ w, Below w8.heap.size w8 w → w.cell? ⟨gr, 2, none⟩ = some (.int .i64 r.left) := fun w hw => (RuC.cells (below_block hw KR8.out)).2.2.1
          refine wp_region_anyH (Below w8.heap.size w8) (by kernel_rfl) ?_
          obtain ⟨we, hwe⟩ : ∃ w, w8.drew = w := ⟨_, rfl⟩
          have SE : Below w8.heap.size w8 we := by rw [← hwe]; exact (Below.refl _ _).drew
          rw [hwe]
          clear hwe
          refine AnyH.take (i := 0) (d := some 73) (v := ?_) (by kernel_rfl) rfl rfl HF (fun _ _ _ h => h) (.inl ⟨by rfl, ?_⟩) (by first | assumption | rfl) ?_
          rotate_left
          · intro w hS; try subst hS
            go_simp; try with_reducible rfl
          try simp only [Act.put, List.setIfInBounds_toArray, List.set_cons_zero, List.set_cons_succ]
          refine AnyH.take (i := 1) (d := some 74) (v := ?_) (by kernel_rfl) rfl rfl HF (fun _ _ _ h => h) (.inl ⟨by rfl, ?_⟩) (by first | assumption | rfl) ?_
          rotate_left
          · intro w hS; try subst hS
            go_simp; try with_reducible rfl
          try simp only [Act.put, List.setIfInBounds_toArray, List.set_cons_zero, List.set_cons_succ]
          refine AnyH.take (i := 2) (d := some 75) (v := ?_) (by kernel_rfl) rfl rfl HF (fun _ _ _ h => h) (.inl ⟨by rfl, ?_⟩) (by first | assumption | rfl) ?_
          rotate_left
          · intro w hS; try subst hS
            go_simp; try with_reducible rfl
          try simp only [Act.put, List.setIfInBounds_toArray, List.set_cons_zero, List.set_cons_succ]
          refine AnyH.take (i := 3) (d := some 76) (v := ?_) (by kernel_rfl) rfl rfl HF (fun _ _ _ h => h) (.inl ⟨by rfl, ?_⟩) (by first | assumption | rfl) ?_
          rotate_left
          · intro w hS; try subst hS
            go_simp; try with_reducible rfl
          try simp only [Act.put, List.setIfInBounds_toArray, List.set_cons_zero, List.set_cons_succ]
          refine AnyH.take (i := 4) (d := some 77) (v := ?_) (by kernel_rfl) rfl rfl HF (fun _ _ _ h => h) (.inl ⟨by rfl, ?_⟩) (by first | assumption | rfl) ?_
          rotate_left
          · intro w hS; try subst hS
            go_simp; try with_reducible rfl
          try simp only [Act.put, List.setIfInBounds_toArray, List.set_cons_zero, List.set_cons_succ]
          refine AnyH.take (i := 5) (d := some 78) (v := ?_) (by kernel_rfl) rfl rfl HF (fun _ _ _ h => h) (.inl ⟨by rfl, ?_⟩) (by first | assumption | rfl) ?_
          rotate_left
          · intro w hS; try subst hS
            go_simp; try with_reducible rfl
          try simp only [Act.put, List.setIfInBounds_toArray, List.set_cons_zero, List.set_cons_succ]
          refine AnyH.take (i := 6) (d := some 79) (v := ?_) (by kernel_rfl) rfl rfl HF (fun _ _ _ h => h) (.inl ⟨by rfl, ?_⟩) (by first | assumption | rfl) ?_
          rotate_left
          · intro w hS; try subst hS
            go_simp; try with_reducible rfl
          try simp only [Act.put, List.setIfInBounds_toArray, List.set_cons_zero, List.set_cons_succ]
          refine AnyH.take (i := 7) (d := some 80) (v := ?_) (by kernel_rfl) rfl rfl HF (fun _ _ _ h => h) (.inl ⟨by rfl, ?_⟩) (by first | assumption | rfl) ?_
          rotate_left
          · intro w hS; try subst hS
            go_simp; try with_reducible rfl
          try simp only [Act.put, List.setIfInBounds_toArray, List.set_cons_zero, List.set_cons_succ]
          refine AnyH.take (i := 8) (d := some 1) (v := ?_) (by kernel_rfl) rfl rfl HF (fun _ _ _ h => h) (.inl ⟨by rfl, ?_⟩) (by first | assumption | rfl) ?_
          rotate_left
          · intro w hS; try subst hS
            go_simp; try with_reducible rfl
          try simp only [Act.put, List.setIfInBounds_toArray, List.set_cons_zero, List.set_cons_succ]
          refine AnyH.take (i := 9) (d := some 2) (v := ?_) (by kernel_rfl) rfl rfl HF (fun _ _ _ h => h) (.inl ⟨by rfl, ?_⟩) (by first | assumption | rfl) ?_
          rotate_left
          · intro w hS; try subst hS
            go_simp; try with_reducible rfl
          try simp only [Act.put, List.setIfInBounds_toArray, List.set_cons_zero, List.set_cons_succ]
          refine AnyH.done (by kernel_rfl) ?_
          have HY1 := Lib.hid (SlA.below HX1.out SE); have HY2 := Lib.hid (HX2.out.trans (SE.mono HX2.out.size))
          clear c0 c2 SE hq1 hqw hmw hsw hw1
          go_wp2_with fail
          go_roundw
          case rel => exact ⟨r.left, f2, L ++ [(⟨r.left, q⟩ : Cp)], rfl, rfl, HY1.out, HNX.out.1, HNX.out.2.1, HNX.out.2.2, HY2.out⟩
          case measure => have := HLL.out; first | (simp [intOf]; omega) | simp [intOf]
        · have hm1 : ¬ (q : Int) > 0 := by omega
          have hm2 : ¬ (0 : Int) < (q : Int) := by omega
          have HNX : Hid (0 < r.left ∧ r.left ≤ E.length ∧ (0 < f2 ∧ f2 ≤ (txt E r.left).length) ∧ up E L ++ (txt E r.left).take f2 = t0) := Lib.hid (by
            have h1 := HI.out; have h2 := HLL.out
            refine ⟨h2.1, by omega, HML.out, ?_⟩
            rw [← HD.out, HRD.out, show q = 0 by omega]
            rfl)
          clear hm0 hqb hqn hp1 hp2 hp3
          go_wp2_with fail
          clear hz7 hs7 o0 o1 o2 o3 o4 o5 i0 i1 i2 i3 i4 i5 l0 l1 l2 l3 l4 m0 m1 m2 m3 m4 m5 hgw
          have c0 : ∀ w, Below w7.heap.size w7 w → w.cell? ⟨gw, 0, none⟩ = some (.int .i64 ul.len) := fun w hw => (WtC.cells (below_block hw KW.out)).1
          have c2 : ∀ w, Below w7.heap.size w7 w → w.cell? ⟨gr, 2, none⟩ = some (.int .i64 r.left) := fun w hw => (RuC.cells (below_block hw KR7.out)).2.2.1
          refine wp_region_anyH (Below w7.heap.size w7) (by kernel_rfl) ?_
          obtain ⟨we, hwe⟩ : ∃ w, w7.drew = w := ⟨_, rfl⟩
          have SE : Below w7.heap.size w7 we := by rw [← hwe]; exact (Below.refl _ _).drew
          rw [hwe]
          clear hwe
          refine AnyH.take (i := 0) (d := some 73) (v := ?_) (by kernel_rfl) rfl rfl HF (fun _ _ _ h => h) (.inl ⟨by rfl, ?_⟩) (by first | assumption | rfl) ?_
          rotate_left
          · intro w hS; try subst hS
            go_simp; try with_reducible rfl
          try simp only [Act.put, List.setIfInBounds_toArray, List.set_cons_zero, List.set_cons_succ]
          refine AnyH.take (i := 1) (d := some 74) (v := ?_) (by kernel_rfl) rfl rfl HF (fun _ _ _ h => h) (.inl ⟨by rfl, ?_⟩) (by first | assumption | rfl) ?_
          rotate_left
          · intro w hS; try subst hS
            go_simp; try with_reducible rfl
          try simp only [Act.put, List.setIfInBounds_toArray, List.set_cons_zero, List.set_cons_succ]
          refine AnyH.take (i := 2) (d := some 75) (v := ?_) (by kernel_rfl) rfl rfl HF (fun _ _ _ h => h) (.inl ⟨by rfl, ?_⟩) (by first | assumption | rfl) ?_
          rotate_left
          · intro w hS; try subst hS
            go_simp; try with_reducible rfl
          try simp only [Act.put, List.setIfInBounds_toArray, List.set_cons_zero, List.set_cons_succ]
          refine AnyH.take (i := 3) (d := some 76) (v := ?_) (by kernel_rfl) rfl rfl HF (fun _ _ _ h => h) (.inl ⟨by rfl, ?_⟩) (by first | assumption | rfl) ?_
          rotate_left
          · intro w hS; try subst hS
            go_simp; try with_reducible rfl
          try simp only [Act.put, List.setIfInBounds_toArray, List.set_cons_zero, List.set_cons_succ]
          refine AnyH.take (i := 4) (d := some 77) (v := ?_) (by kernel_rfl) rfl rfl HF (fun _ _ _ h => h) (.inl ⟨by rfl, ?_⟩) (by first | assumption | rfl) ?_
          rotate_left
          · intro w hS; try subst hS
            go_simp; try with_reducible rfl
          try simp only [Act.put, List.setIfInBounds_toArray, List.set_cons_zero, List.set_cons_succ]
          refine AnyH.take (i := 5) (d := some 78) (v := ?_) (by kernel_rfl) rfl rfl HF (fun _ _ _ h => h) (.inl ⟨by rfl, ?_⟩) (by first | assumption | rfl) ?_
          rotate_left
          · intro w hS; try subst hS
            go_simp; try with_reducible rfl
          try simp only [Act.put, List.setIfInBounds_toArray, List.set_cons_zero, List.set_cons_succ]
          refine AnyH.take (i := 6) (d := some 79) (v := ?_) (by kernel_rfl) rfl rfl HF (fun _ _ _ h => h) (.inl ⟨by rfl, ?_⟩) (by first | assumption | rfl) ?_
          rotate_left
          · intro w hS; try subst hS
            go_simp; try with_reducible rfl
          try simp only [Act.put, List.setIfInBounds_toArray, List.set_cons_zero, List.set_cons_succ]
          refine AnyH.take (i := 7) (d := some 80) (v := ?_) (by kernel_rfl) rfl rfl HF (fun _ _ _ h => h) (.inl ⟨by rfl, ?_⟩) (by first | assumption | rfl) ?_
          rotate_left
          · intro w hS; try subst hS
            go_simp; try with_reducible rfl
          try simp only [Act.put, List.setIfInBounds_toArray, List.set_cons_zero, List.set_cons_succ]
          refine AnyH.take (i := 8) (d := some 1) (v := ?_) (by kernel_rfl) rfl rfl HF (fun _ _ _ h => h) (.inl ⟨by rfl, ?_⟩) (by first | assumption | rfl) ?_
          rotate_left
          · intro w hS; try subst hS
            go_simp; try with_reducible rfl
          try simp only [Act.put, List.setIfInBounds_toArray, List.set_cons_zero, List.set_cons_succ]
          refine AnyH.take (i := 9) (d := some 2) (v := ?_) (by kernel_rfl) rfl rfl HF (fun _ _ _ h => h) (.inl ⟨by rfl, ?_⟩) (by first | assumption | rfl) ?_
          rotate_left
          · intro w hS; try subst hS
            go_simp; try with_reducible rfl
          try simp only [Act.put, List.setIfInBounds_toArray, List.set_cons_zero, List.set_cons_succ]
          refine AnyH.done (by kernel_rfl) ?_
          have HY1 := Lib.hid (SlA.below HL7.out SE); have HY2 := Lib.hid (Below.after HB7.out SE)
          clear c0 c2 SE hq1 hqw hmw hsw hw1
          go_wp2_with fail
          go_roundw
          case rel => exact ⟨r.left, f2, L, rfl, rfl, HY1.out, HK.out, HNX.out, by have := HLN.out; have := HN.out; have := HLL.out; omega, HY2.out⟩
          case measure => have := HLL.out; first | (simp [intOf]; omega) | simp [intOf]
end
end M
end Go.Proofs.Ytpjcfepngjpfbaa
