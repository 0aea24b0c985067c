/- walk: backward.
walk.Back: the iterator's contract.
What walk.Back returns, as an iterator: whatever the offset; what comes next in lists of letters. -/
import Derived.Test.YtpjcfepngjpfbaaPla
import Derived.Test.YtpjcfepngjpfbaaCopW
import Derived.Test.YtpjcfepngjpfbaaLetIt
import Derived.Test.YtpjcfepngjpfbaaLts
set_option linter.unusedVariables false
set_option linter.unusedSimpArgs false
namespace Go.Proofs.Ytpjcfepngjpfbaa
open Go.RowKit Go.Lib
namespace M
attribute [local go_sem] Oper.semAt_some
section
variable {n0 B most : Nat} {W : World} {E : List En}
set_option maxRecDepth 100000 in
set_option maxHeartbeats 8000000 in
theorem backward_any (hs : StAt n0 W B most E) (hwf : Wf E) (hE : E.length ≤ 1048576) {id frm : Nat} (h0 : 0 < id) (hid : id ≤ E.length) (hf0 : 0 < frm) (hfr : frm ≤ (txt E id).length) :
    Calls Try.prog 62 #[.pointer (some ⟨B, 0, none⟩), .int .i64 id, .int .i64 frm] W fun e w' => ∃ v L, e = .returned v ∧ Cps W.heap.size w' v L ∧ StkC E L ∧ up E L = (txt E id).take frm ∧ Below W.heap.size W w' := by
  have HF : ∀ f, Fence.wide.fn f := fun _ => trivial
  have HS := Lib.hid hs; have HWF := Lib.hid hwf
  obtain ⟨t0, ht0⟩ : ∃ t, (txt E id).take frm = t := ⟨_, rfl⟩
  have HST : Hid (0 < id ∧ id ≤ E.length ∧ (0 < frm ∧ frm ≤ (txt E id).length) ∧ up E [] ++ (txt E id).take frm = t0) := Lib.hid ⟨h0, hid, ⟨hf0, hfr⟩, by rw [ht0]; rfl⟩
  rw [ht0]
  clear hs hwf h0 hid hf0 hfr ht0
  go_enter Try.func62, Try.ntmps62
  go_wp2_with fail
  go_loopw [1, 2, 7] (fun iv fv tv wr => ∃ (i f : Nat) (L : List Cp), iv = .int .i64 i ∧ fv = .int .i64 f ∧ Cps W.heap.size wr tv L ∧ StkC E L ∧ (0 < i ∧ i ≤ E.length ∧ (0 < f ∧ f ≤ (txt E i).length) ∧ up E L ++ (txt E i).take f = t0) ∧ L.length + 1 + 3 * i ≤ 3 * E.length + 3 ∧ Below W.heap.size W wr) (fun iv _ _ _ => (intOf iv).toNat)
  case atStart => exact ⟨id, frm, [], rfl, rfl, SlA.nil _ _ _ _ _, StkC.nil E, HST.out, by have := HST.out.2.1; simp; omega, Below.refl _ _⟩
  case round =>
    clear HST
    obtain ⟨i, f, L, rfl, rfl, hL, hk, ⟨h0, hi, ⟨hf0, hf⟩, hd⟩, hl, hB⟩ := hrel
    have HL := Lib.hid hL; have HK := Lib.hid hk; have HD := Lib.hid hd; have HB := Lib.hid hB; have HLN := Lib.hid hl; have HI := Lib.hid (And.intro h0 hi)
    obtain ⟨ta, tc, rfl⟩ := hL.len
    obtain ⟨n, hn⟩ : ∃ n, L.length = n := ⟨_, rfl⟩
    rw [hn] at HL HLN ⊢
    have HN := Lib.hid hn
    clear hL hk hd hB hl hn
    obtain ⟨hw, hlen⟩ := HWF.out.len hi
    have HW1 := Lib.hid (weight_any (HS.out.below HB.out) hi hE)
    rw [hw] at HW1
    obtain ⟨u, hu⟩ : ∃ u, wt (txt E i) = u := ⟨_, rfl⟩
    have hul : u.len = (txt E i).length := by rw [← hu]; rfl
    rw [hu] at HW1
    unfold wtV at HW1
    have HUW := Lib.hid hul
    have HF2 := Lib.hid hf; have HF0 := Lib.hid hf0
    rw [← hul] at hf hlen
    have hfb : f ≤ 1152921504606846976 := by omega
    have HRU : Hid (∀ w, Below W.heap.size W w → Calls Try.prog 23 #[.pointer (some ⟨B, 0, none⟩), .int .i64 i] w fun e w' => e = .returned (.tuple #[ruV (entAt E i).ru, .nilIface]) ∧ Below w.heap.size w w') := Lib.hid (fun w hw => rule_any (HS.out.below hw) h0 hi hE)
    have hrl := (HWF.out.rule i h0 hi).cases
    obtain ⟨r, hr⟩ : ∃ r, (entAt E i).ru = r := ⟨_, rfl⟩
    rw [hr] at HRU hrl
    unfold ruV at HRU
    have HRL := Lib.hid hrl
    clear hw hu hul hr hrl
    go_wp2_with fail
    refine HW1.out.mono ?_; rintro e w4 ⟨rfl, b4⟩
    obtain ⟨wz5, w5, hz5, hs5, ka, ba, ⟨s0, s1, s2, s3, s4, s5⟩, x0, x1, x2, x3, x4, x5⟩ := newWt w4 u
    obtain ⟨ga, hga⟩ : ∃ g, w4.heap.size = g := ⟨_, rfl⟩
    rw [hga] at hs5 ka s0 s1 s2 s3 s4 s5 x0 x1 x2 x3 x4 x5
    obtain ⟨j0, j1, j2, j3, j4, j5⟩ := ka.cells
    have b5 := Below.after b4 ba
    have HB5 := Lib.hid (Below.after HB.out b5)
    have HL5 := Lib.hid (SlA.below HL.out b5)
    have HZ5 : Hid (W.heap.size ≤ w5.heap.size) := Lib.hid HB5.out.size
    clear ka ba b4 b5 HW1 HB HL
    by_cases hfe : f = u.len
    · have hb : ((f : Int) == (u.len : Int)) = true := by simp [hfe]
      have HNX : Hid (StkC E (L ++ [(⟨i, 1⟩ : Cp)]) ∧ up E (L ++ [(⟨i, 1⟩ : Cp)]) = t0) := Lib.hid (by
        have h1 := HI.out; have h3 := HLN.out; have h4 := HN.out; have h5 := HUW.out
        refine ⟨HK.out.push ⟨h1.1, h1.2, by dsimp only; omega, by dsimp only; omega⟩ (by dsimp only; omega), ?_⟩
        rw [up_snoc, rep_one, ← HD.out, List.take_of_length_le (by omega)])
      have HAPP : Hid ((L.length + 1) * 16 ≤ 140737488355328) := Lib.hid (by have h1 := HLN.out; have h2 := HN.out; omega)
      clear hfe hf0 hf hlen h0 hi
      go_wp2_with (
        at_builtin
        refine wp_app1G (w0 := w5) (enc := encC) (v := .slice ta n tc) elemC encC_len rfl _ _ rfl rfl HL5.out (⟨i, 1⟩ : Cp) rfl rfl (encC_one _) HAPP.out HZ5.out ?_
        intro v8 w8 hS8 hg8 hb8
        have HX1 := Lib.hid hS8
        have HX2 := Lib.hid (HB5.out.trans hb8)
        clear hS8 hg8 hb8)
      exact bodyPost_ret (v := v8) (by simp [results, Try.results62, go_sem]) rfl ⟨_, _, rfl, HX1.out, HNX.out.1, HNX.out.2, HX2.out⟩
    · have hb : ((f : Int) == (u.len : Int)) = false := by simp; omega
      have hfl1 : f < u.len := by omega
      have hk23 : r.kind = 2 ∨ r.kind = 3 := by
        rcases HRL.out with ⟨-, -, -, -, -, g⟩ | ⟨a, -⟩ | ⟨a, -⟩
        · have h5 := HUW.out; rw [g] at h5; simp at h5; omega
        · exact .inl a
        · exact .inr a
      have hll : 0 < r.left ∧ r.left < i := by
        rcases HRL.out with ⟨-, -, -, -, -, g⟩ | ⟨-, -, c, d, -⟩ | ⟨-, -, c, d, -⟩
        · have h5 := HUW.out; rw [g] at h5; simp at h5; omega
        · exact ⟨c, d⟩
        · exact ⟨c, d⟩
      obtain ⟨hw2, hlen2⟩ := HWF.out.len (show r.left ≤ E.length by omega)
      have hpos : 0 < (txt E r.left).length := (HWF.out.get r.left hll.1 (by omega)).2.2.1
      have HWL : Hid (∀ w, Below W.heap.size W w → Calls Try.prog 39 #[.pointer (some ⟨B, 0, none⟩), .int .i64 r.left] w fun e w' => e = .returned (.tuple #[wtV (wt (txt E r.left)), .nilIface]) ∧ Below w.heap.size w w') := Lib.hid (fun w hw => by
        have := weight_any (HS.out.below hw) (i := r.left) (by omega) hE
        rwa [hw2] at this)
      obtain ⟨ul, hul2⟩ : ∃ u, wt (txt E r.left) = u := ⟨_, rfl⟩
      have hull : ul.len = (txt E r.left).length := by rw [← hul2]; rfl
      rw [hul2] at HWL
      unfold wtV at HWL
      have HUL := Lib.hid hull; have HLL := Lib.hid hll
      rw [← hull] at hpos hlen2
      clear hw2 hul2 hull hll hfe
      go_wp2_with fail
      clear hz5 hs5 s0 s1 s2 s3 s4 s5 x0 x1 x2 x3 x4 x5 j0 j1 j2 j3 j4 j5 hga
      refine (HRU.out w5 HB5.out).mono ?_; rintro e w4' ⟨rfl, b4⟩
      obtain ⟨wz6, w6, hz6, hs6, kr, br, ⟨r0, r1, r2, r3, r4⟩, e0, e1, e2, e3, e4⟩ := newRu w4' r
      obtain ⟨gr, hgr⟩ : ∃ g, w4'.heap.size = g := ⟨_, rfl⟩
      rw [hgr] at hs6 kr r0 r1 r2 r3 r4 e0 e1 e2 e3 e4
      obtain ⟨y0, y1, y2, y3, y4⟩ := kr.cells
      have HB6 := Lib.hid (Below.after HB5.out (Below.after b4 br)); have KR := Lib.hid kr
      have HL6 := Lib.hid (SlA.below HL5.out (Below.after b4 br))
      clear kr br b4 HRU HB5 HL5 HZ5
      go_wp2_with fail
      clear hz6 hs6 r0 r1 r2 r3 r4 e0 e1 e2 e3 e4 y0 y1 y2 y3 y4 hgr
      refine (HWL.out w6 HB6.out).mono ?_; rintro e w6' ⟨rfl, b6⟩
      obtain ⟨wz7, w7, hz7, hs7, kw, bw, ⟨o0, o1, o2, o3, o4, o5⟩, i0, i1, i2, i3, i4, i5⟩ := newWt w6' ul
      obtain ⟨gw, hgw⟩ : ∃ g, w6'.heap.size = g := ⟨_, rfl⟩
      rw [hgw] at hs7 kw o0 o1 o2 o3 o4 o5 i0 i1 i2 i3 i4 i5
      obtain ⟨m0, m1, m2, m3, m4, m5⟩ := kw.cells
      have b7 := Below.after b6 bw
      have KR7 := Lib.hid (show RuC w7 gr r from below_block b7 KR.out)
      obtain ⟨l0, l1, l2, l3, l4⟩ := KR7.out.cells
      have HB7 := Lib.hid (Below.after HB6.out b7)
      have HL7 := Lib.hid (SlA.below HL6.out b7)
      have KW := Lib.hid kw
      have HZ7 : Hid (W.heap.size ≤ w7.heap.size) := Lib.hid HB7.out.size
      clear kw bw b6 b7 HL6 HB6 KR HWL
      rcases hk23 with hk2 | hk3
      · have hkb : ((r.kind : Int) == 3) = false := by simp [hk2]
        obtain ⟨hr1, hr2, htx⟩ : 0 < r.right ∧ r.right < i ∧ txt E i = txt E r.left ++ txt E r.right := by
          rcases HRL.out with ⟨a, -⟩ | ⟨-, -, -, -, a, b, -, c⟩ | ⟨a, -⟩
          · omega
          · exact ⟨a, b, c⟩
          · omega
        by_cases hfl : f ≤ ul.len
        · have g1 : (f : Int) ≤ (ul.len : Int) := by omega
          have HNX : Hid (0 < r.left ∧ r.left ≤ E.length ∧ (0 < f ∧ f ≤ (txt E r.left).length) ∧ up E L ++ (txt E r.left).take f = t0) := Lib.hid (by
            have h1 := HI.out; have h2 := HLL.out; have h5 := HUL.out
            refine ⟨h2.1, by omega, ⟨HF0.out, by omega⟩, ?_⟩
            rw [← HD.out, htx, List.take_append_of_le_length (by omega)])
          clear hk2 hr1 hr2 htx hfl
          go_wp2_with fail
          clear hz7 hs7 o0 o1 o2 o3 o4 o5 i0 i1 i2 i3 i4 i5 l0 l1 l2 l3 l4 m0 m1 m2 m3 m4 m5 hgw
          go_roundw
          case rel => exact ⟨r.left, f, L, rfl, rfl, HL7.out, HK.out, HNX.out, by have := HLN.out; have := HN.out; have := HLL.out; omega, HB7.out⟩
          case measure => have := HLL.out; first | (simp [intOf]; omega) | simp [intOf]
        · have g1 : ¬ (f : Int) ≤ (ul.len : Int) := by omega
          have g2 : (ul.len : Int) < (f : Int) := by omega
          have hsw : IntKind.i64.wrap ((f : Int) - (ul.len : Int)) = ((f - ul.len : Nat) : Int) := by rw [IntKind.wrap_i64]; omega
          have hfp : 0 < f - ul.len := by omega
          obtain ⟨f2, hf2⟩ : ∃ y, f - ul.len = y := ⟨_, rfl⟩
          rw [hf2] at hsw hfp
          have HNX : Hid (StkC E (L ++ [(⟨r.left, 1⟩ : Cp)]) ∧ (0 < r.right ∧ r.right ≤ E.length ∧ (0 < f2 ∧ f2 ≤ (txt E r.right).length) ∧ up E (L ++ [(⟨r.left, 1⟩ : Cp)]) ++ (txt E r.right).take f2 = t0) ∧ (L ++ [(⟨r.left, 1⟩ : Cp)]).length + 1 + 3 * r.right ≤ 3 * E.length + 3) := Lib.hid (by
            have h1 := HI.out; have h2 := HLL.out; have h3 := HLN.out; have h4 := HN.out; have h5 := HUL.out; have h6 := HF2.out
            rw [htx, List.length_append] at h6
            refine ⟨HK.out.push ⟨h2.1, by dsimp only; omega, by dsimp only; omega, by dsimp only; omega⟩ (by dsimp only; omega), ⟨hr1, by omega, ⟨hfp, by omega⟩, ?_⟩, by rw [List.length_append, List.length_singleton]; omega⟩
            rw [up_snoc, rep_one, ← HD.out, htx, List.take_append, List.take_of_length_le (show (txt E r.left).length ≤ f by omega), ← h5, hf2, List.append_assoc])
          have HAPP : Hid ((L.length + 1) * 16 ≤ 140737488355328) := Lib.hid (by have h1 := HLN.out; have h2 := HN.out; omega)
          have HRR : Hid (r.right < i) := Lib.hid hr2
          clear hk2 hr1 hr2 htx hfl hf2 hfp
          go_wp2_with (
            at_builtin
            refine wp_app1G (w0 := w7) (enc := encC) (v := .slice ta n tc) elemC encC_len rfl _ _ rfl rfl HL7.out (⟨r.left, 1⟩ : Cp) rfl rfl (encC_one _) HAPP.out HZ7.out ?_
            intro v8 w8 hS8 hg8 hb8
            have hno : ∀ (k : Nat) (cs : Array Value) (t : TypeId) (fz : Nat × Nat), w7.heap[k]? = some (.cells cs t fz) → t ≠ 107 → w8.heap[k]? = some (.cells cs t fz) := fun k cs t fz hk ht => app_other HL7.out hg8 hk ht
            have HX1 := Lib.hid hS8
            have HX2 := Lib.hid (HB7.out.trans hb8)
            have KR8 := Lib.hid (show RuC w8 gr r from hno _ _ _ _ KR7.out (by decide)); have KW8 := Lib.hid (show WtC w8 gw ul from hno _ _ _ _ KW.out (by decide))
            clear hS8 hg8 hb8 hno)
          clear hz7 hs7 o0 o1 o2 o3 o4 o5 i0 i1 i2 i3 i4 i5 l0 l1 l2 l3 l4 m0 m1 m2 m3 m4 m5 hgw
          have c0 : ∀ w, Below w8.heap.size w8 w → w.cell? ⟨gw, 0, none⟩ = some (.int .i64 ul.len) := fun w hw => (WtC.cells (below_block hw KW8.out)).1
          have c3 : ∀ w, Below w8.heap.size w8 w → w.cell? ⟨gr, 3, none⟩ = some (.int .i64 r.right) := fun w hw => (RuC.cells (below_block hw KR8.out)).2.2.2.1
          refine wp_region_anyH (Below w8.heap.size w8) (by kernel_rfl) ?_
          obtain ⟨we, hwe⟩ : ∃ w, w8.drew = w := ⟨_, rfl⟩
          have SE : Below w8.heap.size w8 we := by rw [← hwe]; exact (Below.refl _ _).drew
          rw [hwe]
          clear hwe
          refine AnyH.take (i := 0) (d := some 49) (v := ?_) (by kernel_rfl) rfl rfl HF (fun _ _ _ h => h) (.inl ⟨by rfl, ?_⟩) (by first | assumption | rfl) ?_
          rotate_left
          · intro w hS; try subst hS
            go_simp; try with_reducible rfl
          try simp only [Act.put, List.setIfInBounds_toArray, List.set_cons_zero, List.set_cons_succ]
          refine AnyH.take (i := 1) (d := some 50) (v := ?_) (by kernel_rfl) rfl rfl HF (fun _ _ _ h => h) (.inl ⟨by rfl, ?_⟩) (by first | assumption | rfl) ?_
          rotate_left
          · intro w hS; try subst hS
            go_simp; try with_reducible rfl
          try simp only [Act.put, List.setIfInBounds_toArray, List.set_cons_zero, List.set_cons_succ]
          refine AnyH.take (i := 2) (d := some 51) (v := ?_) (by kernel_rfl) rfl rfl HF (fun _ _ _ h => h) (.inl ⟨by rfl, ?_⟩) (by first | assumption | rfl) ?_
          rotate_left
          · intro w hS; try subst hS
            go_simp; try with_reducible rfl
          try simp only [Act.put, List.setIfInBounds_toArray, List.set_cons_zero, List.set_cons_succ]
          refine AnyH.take (i := 3) (d := some 52) (v := ?_) (by kernel_rfl) rfl rfl HF (fun _ _ _ h => h) (.inl ⟨by rfl, ?_⟩) (by first | assumption | rfl) ?_
          rotate_left
          · intro w hS; try subst hS
            go_simp; try with_reducible rfl
          try simp only [Act.put, List.setIfInBounds_toArray, List.set_cons_zero, List.set_cons_succ]
          refine AnyH.take (i := 4) (d := some 53) (v := ?_) (by kernel_rfl) rfl rfl HF (fun _ _ _ h => h) (.inl ⟨by rfl, ?_⟩) (by first | assumption | rfl) ?_
          rotate_left
          · intro w hS; try subst hS
            go_simp; try with_reducible rfl
          try simp only [Act.put, List.setIfInBounds_toArray, List.set_cons_zero, List.set_cons_succ]
          refine AnyH.take (i := 5) (d := some 54) (v := ?_) (by kernel_rfl) rfl rfl HF (fun _ _ _ h => h) (.inl ⟨by rfl, ?_⟩) (by first | assumption | rfl) ?_
          rotate_left
          · intro w hS; try subst hS
            go_simp; try with_reducible rfl
          try simp only [Act.put, List.setIfInBounds_toArray, List.set_cons_zero, List.set_cons_succ]
          refine AnyH.take (i := 6) (d := some 1) (v := ?_) (by kernel_rfl) rfl rfl HF (fun _ _ _ h => h) (.inl ⟨by rfl, ?_⟩) (by first | assumption | rfl) ?_
          rotate_left
          · intro w hS; try subst hS
            go_simp; try with_reducible rfl
          try simp only [Act.put, List.setIfInBounds_toArray, List.set_cons_zero, List.set_cons_succ]
          refine AnyH.take (i := 7) (d := some 2) (v := ?_) (by kernel_rfl) rfl rfl HF (fun _ _ _ h => h) (.inl ⟨by rfl, ?_⟩) (by first | assumption | rfl) ?_
          rotate_left
          · intro w hS; try subst hS
            go_simp; try with_reducible rfl
          try simp only [Act.put, List.setIfInBounds_toArray, List.set_cons_zero, List.set_cons_succ]
          refine AnyH.done (by kernel_rfl) ?_
          have HY1 := Lib.hid (SlA.below HX1.out SE); have HY2 := Lib.hid (HX2.out.trans (SE.mono HX2.out.size))
          clear c0 c3 SE hsw
          go_wp2_with fail
          go_roundw
          case rel => exact ⟨r.right, f2, L ++ [(⟨r.left, 1⟩ : Cp)], rfl, rfl, HY1.out, HNX.out.1, HNX.out.2.1, HNX.out.2.2, HY2.out⟩
          case measure => have := HRR.out; first | (simp [intOf]; omega) | simp [intOf]
      · have hkb : ((r.kind : Int) == 3) = true := by simp [hk3]
        obtain ⟨ht2, htm, htx⟩ : 2 ≤ r.times ∧ r.times ≤ 1152921504606846976 ∧ txt E i = rep r.times (txt E r.left) := by
          rcases HRL.out with ⟨a, -⟩ | ⟨a, -⟩ | ⟨-, -, -, -, -, a, b, c⟩
          · omega
          · omega
          · exact ⟨a, b, c⟩
        have hlz : ¬ ul.len = 0 := by omega
        have hlz2 : ¬ (ul.len : Int) = 0 := by omega
        have hlz3 : ((ul.len : Int) == 0) = false := by simp; omega
        have hw1 : IntKind.i64.wrap ((f : Int) - 1) = ((f - 1 : Nat) : Int) := by rw [IntKind.wrap_i64]; omega
        have hq1 : ((f - 1 : Nat) : Int).tdiv (ul.len : Int) = (((f - 1) / ul.len : Nat) : Int) := rfl
        obtain ⟨hqn, hp1, hp2, hp3, hp4⟩ : (f - 1) / ul.len < r.times ∧ 0 < f - (f - 1) / ul.len * ul.len ∧ f - (f - 1) / ul.len * ul.len ≤ ul.len ∧ (f - 1) / ul.len * ul.len < f ∧ (txt E i).take f = rep ((f - 1) / ul.len) (txt E r.left) ++ (txt E r.left).take (f - (f - 1) / ul.len * ul.len) := by
          have h6 := HF2.out
          rw [htx, rep_length] at h6
          rw [htx, HUL.out]
          exact rep_take_at (by rw [← HUL.out]; omega) HF0.out h6
        have hqb : (f - 1) / ul.len ≤ 1152921504606846976 := by omega
        obtain ⟨q, hq⟩ : ∃ y, (f - 1) / ul.len = y := ⟨_, rfl⟩
        rw [hq] at hq1 hqn hp1 hp2 hp3 hp4 hqb
        have hqw : IntKind.i64.wrap (q : Int) = (q : Int) := by rw [IntKind.wrap_i64]; omega
        obtain ⟨p, hp⟩ : ∃ y, q * ul.len = y := ⟨_, rfl⟩
        rw [hp] at hp1 hp2 hp3 hp4
        have hmw : IntKind.i64.wrap ((q : Int) * (ul.len : Int)) = (p : Int) := by rw [← hp, IntKind.wrap_i64, Int.natCast_mul]; omega
        have hsw : IntKind.i64.wrap ((f : Int) - (p : Int)) = ((f - p : Nat) : Int) := by rw [IntKind.wrap_i64]; omega
        obtain ⟨f2, hf2⟩ : ∃ y, f - p = y := ⟨_, rfl⟩
        rw [hf2] at hsw hp1 hp2 hp4
        obtain ⟨fm, hfm⟩ : ∃ y, f - 1 = y := ⟨_, rfl⟩
        rw [hfm] at hw1 hq1
        have HML : Hid (0 < f2 ∧ f2 ≤ (txt E r.left).length) := Lib.hid ⟨hp1, by rw [← HUL.out]; exact hp2⟩
        have HRD := Lib.hid hp4
        clear hk3 ht2 htm htx hp hp4 hq hf2 hfm
        by_cases hm0 : 0 < q
        · have hm1 : (q : Int) > 0 := by omega
          have hm2 : (0 : Int) < (q : Int) := by omega
          have HNX : Hid (StkC E (L ++ [(⟨r.left, q⟩ : Cp)]) ∧ (0 < r.left ∧ r.left ≤ E.length ∧ (0 < f2 ∧ f2 ≤ (txt E r.left).length) ∧ up E (L ++ [(⟨r.left, q⟩ : Cp)]) ++ (txt E r.left).take f2 = t0) ∧ (L ++ [(⟨r.left, q⟩ : Cp)]).length + 1 + 3 * r.left ≤ 3 * E.length + 3) := Lib.hid (by
            have h1 := HI.out; have h2 := HLL.out; have h3 := HLN.out; have h4 := HN.out
            refine ⟨HK.out.push ⟨h2.1, by dsimp only; omega, hm0, hqb⟩ (by dsimp only; omega), ⟨h2.1, by omega, HML.out, ?_⟩, by rw [List.length_append, List.length_singleton]; omega⟩
            rw [up_snoc, ← HD.out, HRD.out, List.append_assoc])
          have HAPP : Hid ((L.length + 1) * 16 ≤ 140737488355328) := Lib.hid (by have h1 := HLN.out; have h2 := HN.out; omega)
          clear hm0 hqb hqn hp1 hp2 hp3
          go_wp2_with (
            at_builtin
            refine wp_app1G (w0 := w7) (enc := encC) (v := .slice ta n tc) elemC encC_len rfl _ _ rfl rfl HL7.out (⟨r.left, q⟩ : Cp) rfl rfl (encC_one _) HAPP.out HZ7.out ?_
            intro v8 w8 hS8 hg8 hb8
            have hno : ∀ (k : Nat) (cs : Array Value) (t : TypeId) (fz : Nat × Nat), w7.heap[k]? = some (.cells cs t fz) → t ≠ 107 → w8.heap[k]? = some (.cells cs t fz) := fun k cs t fz hk ht => app_other HL7.out hg8 hk ht
            have HX1 := Lib.hid hS8
            have HX2 := Lib.hid (HB7.out.trans hb8)
            have KR8 := Lib.hid (show RuC w8 gr r from hno _ _ _ _ KR7.out (by decide)); have KW8 := Lib.hid (show WtC w8 gw ul from hno _ _ _ _ KW.out (by decide))
            clear hS8 hg8 hb8 hno)
          clear hz7 hs7 o0 o1 o2 o3 o4 o5 i0 i1 i2 i3 i4 i5 l0 l1 l2 l3 l4 m0 m1 m2 m3 m4 m5 hgw
          have c0 : ∀ w, Below w8.heap.size w8 w → w.cell? ⟨gw, 0, none⟩ = some (.int .i64 ul.len) := fun w hw => (WtC.cells (below_block hw KW8.out)).1
          have c2 : ∀ w, Below w8.heap.size w8 w → w.cell? ⟨gr, 2, none⟩ = some (.int .i64 r.left) := fun w hw => (RuC.cells (below_block hw KR8.out)).2.2.1
          refine wp_region_anyH (Below w8.heap.size w8) (by kernel_rfl) ?_
          obtain ⟨we, hwe⟩ : ∃ w, w8.drew = w := ⟨_, rfl⟩
          have SE : Below w8.heap.size w8 we := by rw [← hwe]; exact (Below.refl _ _).drew
          rw [hwe]
          clear hwe
          refine AnyH.take (i := 0) (d := some 73) (v := ?_) (by kernel_rfl) rfl rfl HF (fun _ _ _ h => h) (.inl ⟨by rfl, ?_⟩) (by first | assumption | rfl) ?_
          rotate_left
          · intro w hS; try subst hS
            go_simp; try with_reducible rfl
          try simp only [Act.put, List.setIfInBounds_toArray, List.set_cons_zero, List.set_cons_succ]
          refine AnyH.take (i := 1) (d := some 74) (v := ?_) (by kernel_rfl) rfl rfl HF (fun _ _ _ h => h) (.inl ⟨by rfl, ?_⟩) (by first | assumption | rfl) ?_
          rotate_left
          · intro w hS; try subst hS
            go_simp; try with_reducible rfl
          try simp only [Act.put, List.setIfInBounds_toArray, List.set_cons_zero, List.set_cons_succ]
          refine AnyH.take (i := 2) (d := some 75) (v := ?_) (by kernel_rfl) rfl rfl HF (fun _ _ _ h => h) (.inl ⟨by rfl, ?_⟩) (by first | assumption | rfl) ?_
          rotate_left
          · intro w hS; try subst hS
            go_simp; try with_reducible rfl
          try simp only [Act.put, List.setIfInBounds_toArray, List.set_cons_zero, List.set_cons_succ]
          refine AnyH.take (i := 3) (d := some 76) (v := ?_) (by kernel_rfl) rfl rfl HF (fun _ _ _ h => h) (.inl ⟨by rfl, ?_⟩) (by first | assumption | rfl) ?_
          rotate_left
          · intro w hS; try subst hS
            go_simp; try with_reducible rfl
          try simp only [Act.put, List.setIfInBounds_toArray, List.set_cons_zero, List.set_cons_succ]
          refine AnyH.take (i := 4) (d := some 77) (v := ?_) (by kernel_rfl) rfl rfl HF (fun _ _ _ h => h) (.inl ⟨by rfl, ?_⟩) (by first | assumption | rfl) ?_
          rotate_left
          · intro w hS; try subst hS
            go_simp; try with_reducible rfl
          try simp only [Act.put, List.setIfInBounds_toArray, List.set_cons_zero, List.set_cons_succ]
          refine AnyH.take (i := 5) (d := some 78) (v := ?_) (by kernel_rfl) rfl rfl HF (fun _ _ _ h => h) (.inl ⟨by rfl, ?_⟩) (by first | assumption | rfl) ?_
          rotate_left
          · intro w hS; try subst hS
            go_simp; try with_reducible rfl
          try simp only [Act.put, List.setIfInBounds_toArray, List.set_cons_zero, List.set_cons_succ]
          refine AnyH.take (i := 6) (d := some 79) (v := ?_) (by kernel_rfl) rfl rfl HF (fun _ _ _ h => h) (.inl ⟨by rfl, ?_⟩) (by first | assumption | rfl) ?_
          rotate_left
          · intro w hS; try subst hS
            go_simp; try with_reducible rfl
          try simp only [Act.put, List.setIfInBounds_toArray, List.set_cons_zero, List.set_cons_succ]
          refine AnyH.take (i := 7) (d := some 80) (v := ?_) (by kernel_rfl) rfl rfl HF (fun _ _ _ h => h) (.inl ⟨by rfl, ?_⟩) (by first | assumption | rfl) ?_
          rotate_left
          · intro w hS; try subst hS
            go_simp; try with_reducible rfl
          try simp only [Act.put, List.setIfInBounds_toArray, List.set_cons_zero, List.set_cons_succ]
          refine AnyH.take (i := 8) (d := some 1) (v := ?_) (by kernel_rfl) rfl rfl HF (fun _ _ _ h => h) (.inl ⟨by rfl, ?_⟩) (by first | assumption | rfl) ?_
          rotate_left
          · intro w hS; try subst hS
            go_simp; try with_reducible rfl
          try simp only [Act.put, List.setIfInBounds_toArray, List.set_cons_zero, List.set_cons_succ]
          refine AnyH.take (i := 9) (d := some 2) (v := ?_) (by kernel_rfl) rfl rfl HF (fun _ _ _ h => h) (.inl ⟨by rfl, ?_⟩) (by first | assumption | rfl) ?_
          rotate_left
          · intro w hS; try subst hS
            go_simp; try with_reducible rfl
          try simp only [Act.put, List.setIfInBounds_toArray, List.set_cons_zero, List.set_cons_succ]
          refine AnyH.done (by kernel_rfl) ?_
          have HY1 := Lib.hid (SlA.below HX1.out SE); have HY2 := Lib.hid (HX2.out.trans (SE.mono HX2.out.size))
          clear c0 c2 SE hq1 hqw hmw hsw hw1
          go_wp2_with fail
          go_roundw
          case rel => exact ⟨r.left, f2, L ++ [(⟨r.left, q⟩ : Cp)], rfl, rfl, HY1.out, HNX.out.1, HNX.out.2.1, HNX.out.2.2, HY2.out⟩
          case measure => have := HLL.out; first | (simp [intOf]; omega) | simp [intOf]
        · have hm1 : ¬ (q : Int) > 0 := by omega
          have hm2 : ¬ (0 : Int) < (q : Int) := by omega
          have HNX : Hid (0 < r.left ∧ r.left ≤ E.length ∧ (0 < f2 ∧ f2 ≤ (txt E r.left).length) ∧ up E L ++ (txt E r.left).take f2 = t0) := Lib.hid (by
            have h1 := HI.out; have h2 := HLL.out
            refine ⟨h2.1, by omega, HML.out, ?_⟩
            rw [← HD.out, HRD.out, show q = 0 by omega]
            rfl)
          clear hm0 hqb hqn hp1 hp2 hp3
          go_wp2_with fail
          clear hz7 hs7 o0 o1 o2 o3 o4 o5 i0 i1 i2 i3 i4 i5 l0 l1 l2 l3 l4 m0 m1 m2 m3 m4 m5 hgw
          have c0 : ∀ w, Below w7.heap.size w7 w → w.cell? ⟨gw, 0, none⟩ = some (.int .i64 ul.len) := fun w hw => (WtC.cells (below_block hw KW.out)).1
          have c2 : ∀ w, Below w7.heap.size w7 w → w.cell? ⟨gr, 2, none⟩ = some (.int .i64 r.left) := fun w hw => (RuC.cells (below_block hw KR7.out)).2.2.1
          refine wp_region_anyH (Below w7.heap.size w7) (by kernel_rfl) ?_
          obtain ⟨we, hwe⟩ : ∃ w, w7.drew = w := ⟨_, rfl⟩
          have SE : Below w7.heap.size w7 we := by rw [← hwe]; exact (Below.refl _ _).drew
          rw [hwe]
          clear hwe
          refine AnyH.take (i := 0) (d := some 73) (v := ?_) (by kernel_rfl) rfl rfl HF (fun _ _ _ h => h) (.inl ⟨by rfl, ?_⟩) (by first | assumption | rfl) ?_
          rotate_left
          · intro w hS; try subst hS
            go_simp; try with_reducible rfl
          try simp only [Act.put, List.setIfInBounds_toArray, List.set_cons_zero, List.set_cons_succ]
          refine AnyH.take (i := 1) (d := some 74) (v := ?_) (by kernel_rfl) rfl rfl HF (fun _ _ _ h => h) (.inl ⟨by rfl, ?_⟩) (by first | assumption | rfl) ?_
          rotate_left
          · intro w hS; try subst hS
            go_simp; try with_reducible rfl
          try simp only [Act.put, List.setIfInBounds_toArray, List.set_cons_zero, List.set_cons_succ]
          refine AnyH.take (i := 2) (d := some 75) (v := ?_) (by kernel_rfl) rfl rfl HF (fun _ _ _ h => h) (.inl ⟨by rfl, ?_⟩) (by first | assumption | rfl) ?_
          rotate_left
          · intro w hS; try subst hS
            go_simp; try with_reducible rfl
          try simp only [Act.put, List.setIfInBounds_toArray, List.set_cons_zero, List.set_cons_succ]
          refine AnyH.take (i := 3) (d := some 76) (v := ?_) (by kernel_rfl) rfl rfl HF (fun _ _ _ h => h) (.inl ⟨by rfl, ?_⟩) (by first | assumption | rfl) ?_
          rotate_left
          · intro w hS; try subst hS
            go_simp; try with_reducible rfl
          try simp only [Act.put, List.setIfInBounds_toArray, List.set_cons_zero, List.set_cons_succ]
          refine AnyH.take (i := 4) (d := some 77) (v := ?_) (by kernel_rfl) rfl rfl HF (fun _ _ _ h => h) (.inl ⟨by rfl, ?_⟩) (by first | assumption | rfl) ?_
          rotate_left
          · intro w hS; try subst hS
            go_simp; try with_reducible rfl
          try simp only [Act.put, List.setIfInBounds_toArray, List.set_cons_zero, List.set_cons_succ]
          refine AnyH.take (i := 5) (d := some 78) (v := ?_) (by kernel_rfl) rfl rfl HF (fun _ _ _ h => h) (.inl ⟨by rfl, ?_⟩) (by first | assumption | rfl) ?_
          rotate_left
          · intro w hS; try subst hS
            go_simp; try with_reducible rfl
          try simp only [Act.put, List.setIfInBounds_toArray, List.set_cons_zero, List.set_cons_succ]
          refine AnyH.take (i := 6) (d := some 79) (v := ?_) (by kernel_rfl) rfl rfl HF (fun _ _ _ h => h) (.inl ⟨by rfl, ?_⟩) (by first | assumption | rfl) ?_
          rotate_left
          · intro w hS; try subst hS
            go_simp; try with_reducible rfl
          try simp only [Act.put, List.setIfInBounds_toArray, List.set_cons_zero, List.set_cons_succ]
          refine AnyH.take (i := 7) (d := some 80) (v := ?_) (by kernel_rfl) rfl rfl HF (fun _ _ _ h => h) (.inl ⟨by rfl, ?_⟩) (by first | assumption | rfl) ?_
          rotate_left
          · intro w hS; try subst hS
            go_simp; try with_reducible rfl
          try simp only [Act.put, List.setIfInBounds_toArray, List.set_cons_zero, List.set_cons_succ]
          refine AnyH.take (i := 8) (d := some 1) (v := ?_) (by kernel_rfl) rfl rfl HF (fun _ _ _ h => h) (.inl ⟨by rfl, ?_⟩) (by first | assumption | rfl) ?_
          rotate_left
          · intro w hS; try subst hS
            go_simp; try with_reducible rfl
          try simp only [Act.put, List.setIfInBounds_toArray, List.set_cons_zero, List.set_cons_succ]
          refine AnyH.take (i := 9) (d := some 2) (v := ?_) (by kernel_rfl) rfl rfl HF (fun _ _ _ h => h) (.inl ⟨by rfl, ?_⟩) (by first | assumption | rfl) ?_
          rotate_left
          · intro w hS; try subst hS
            go_simp; try with_reducible rfl
          try simp only [Act.put, List.setIfInBounds_toArray, List.set_cons_zero, List.set_cons_succ]
          refine AnyH.done (by kernel_rfl) ?_
          have HY1 := Lib.hid (SlA.below HL7.out SE); have HY2 := Lib.hid (Below.after HB7.out SE)
          clear c0 c2 SE hq1 hqw hmw hsw hw1
          go_wp2_with fail
          go_roundw
          case rel => exact ⟨r.left, f2, L, rfl, rfl, HY1.out, HK.out, HNX.out, by have := HLN.out; have := HN.out; have := HLL.out; omega, HY2.out⟩
          case measure => have := HLL.out; first | (simp [intOf]; omega) | simp [intOf]
end
end M
end Go.Proofs.Ytpjcfepngjpfbaa
namespace Go.Proofs.Ytpjcfepngjpfbaa
open Go.RowKit Go.Lib
namespace M
attribute [local go_sem] Oper.semAt_some
theorem lzs_snoc (s : List Nat) (b a : Nat) : lzs (s ++ [b]) a = lzs s a ++ [(a + s.length, b)] := by rw [lzs_append]; rfl
/-- Between two rounds. -/
def BkI (z gt g n0 M B most : Nat) (E : List En) (t0 : List Nat) (J : List (Nat × Nat) → World → Prop) (k : Nat) (av : Value) (wr : World) : Prop :=
  ∃ (a : Nat) (L : List Cp) (v : Value) (pre : List (Nat × Nat)), wkC E L = k ∧ av = .int .i64 a ∧ CxC wr gt v ∧ Cps z wr v L ∧ StkC E L ∧ (pre ++ (lzs (up E L) 0).reverse = (lzs t0 0).reverse ∧ (up E L).length = a ∧ a ≤ 1152921504606846976) ∧ J pre wr ∧ StB n0 M wr B most E ∧ CpB wr g B ∧ z ≤ wr.heap.size
set_option maxRecDepth 100000 in
set_option maxHeartbeats 8000000 in
theorem back_stops (n : Nat) {n0 B most g M : Nat} {w : World} {E : List En} {id frm : Nat} (hC : LtC w g B id frm) (hs : StAt n0 w B most E) (hwf : Wf E) (hE : E.length ≤ 1048576) (h0 : 0 < id) (hid : id ≤ E.length) (hf0 : 0 < frm) (hfr : frm ≤ (txt E id).length) (hM : w.heap.size ≤ M) :
    SeqStopsT Fence.wide n Try.prog 61 #[.pointer (some ⟨g, 0, none⟩), .pointer (some ⟨g + 1, 0, none⟩), .pointer (some ⟨g + 2, 0, none⟩)] (fun x : Nat × Nat => #[.int .i64 x.1, .int .u8 x.2]) (KpI LtK M) CpT (fun ys => ys = (lzs ((txt E id).take frm) 0).reverse) (fun pre => pre <+: (lzs ((txt E id).take frm) 0).reverse) (fun pre x => pre ++ [x] <+: (lzs ((txt E id).take frm) 0).reverse) w := by
  intro l J Jx W hW hJ _ hY hj0
  have HF : ∀ f, Fence.wide.fn f := fun _ => trivial
  have hlb := (hwf.len hid).2
  have hCW := hC.below hW
  obtain ⟨c0, c1, c2⟩ := hCW.cells
  have HCW := Lib.hid hCW
  have HSB := Lib.hid ((hs.b hM).kpl (KpL.of (ts := []) hW (Nat.le_refl _)) (by decide) (by decide))
  have HFW := Lib.hid (backward_any HSB.out.st hwf hE h0 hid hf0 hfr)
  have HCB := Lib.hid hCW.st
  have HWF := Lib.hid hwf
  obtain ⟨t0, ht0⟩ : ∃ t, (txt E id).take frm = t := ⟨_, rfl⟩
  have HT0 : Hid (t0.length = frm ∧ frm ≤ 1152921504606846976) := Lib.hid (by rw [← ht0, List.length_take]; omega)
  rw [ht0] at HFW hY ⊢
  have HJ := Lib.hid hJ
  have HR : Hid (∀ pre x W1, J pre W1 → pre ++ [x] <+: (lzs t0 0).reverse → ∀ m, YieldAt Fence.wide m Try.prog l #[.int .i64 (x : Nat × Nat).1, .int .u8 x.2] W1 fun e W' => (e = .returned (.bool true) ∧ J (pre ++ [x]) W' ∧ KpI LtK M W1 W' ∧ W1.heap.size ≤ W'.heap.size) ∨ (e = .returned (.bool false) ∧ Jx (pre ++ [x]) W')) := Lib.hid (fun pre x W1 hj hl m => yield_anyDepth m (hY pre x W1 hj hl))
  have HJ0 := Lib.hid hj0
  clear hC hs hwf h0 hid hf0 hfr hCW ht0 hJ hY hj0 hlb hW
  refine callsIn_of_wp Try.func61 rfl trivial ?_ rfl
  simp only [Try.ntmps61, List.size_toArray, List.length_cons, List.length_nil, Nat.reduceAdd, Nat.reduceSub, Array.replicate_succ, Array.replicate_zero, List.push_toArray, List.append_toArray, List.nil_append, List.cons_append]
  gi_wp2_with fail
  refine ⟨(fun h => by cases h), callsIn_wide.2 (HFW.out.mono ?_)⟩
  rintro e w1 ⟨v, L0, rfl, hL0, hk0, hd0, b1⟩
  obtain ⟨va, vc, rfl⟩ := hL0.len
  obtain ⟨k0, hk00⟩ : ∃ k, L0.length = k := ⟨_, rfl⟩
  rw [hk00] at hL0 ⊢
  obtain ⟨gt, hgt⟩ : ∃ y, w1.heap.size = y := ⟨_, rfl⟩
  obtain ⟨w2, hw2⟩ : ∃ y, w1.alloc (.cells #[.slice va k0 vc] 102) = y := ⟨_, rfl⟩
  have x2 : CxC w2 gt (.slice va k0 vc) := by rw [← hw2, ← hgt]; exact heap_new' _ _
  have b2 : Below w1.heap.size w1 w2 := by rw [← hw2]; exact (Below.refl _ _).alloc (Nat.le_refl _) _
  have b12 := Below.after b1 b2
  obtain ⟨z, hz⟩ : ∃ y, W.heap.size = y := ⟨_, rfl⟩
  have hzw : z ≤ w2.heap.size := by rw [← hz]; exact b12.size
  have HST : Hid (BkI z gt g n0 M B most E t0 J (wkC E L0) (.int .i64 frm) w2) := Lib.hid ⟨frm, L0, _, [], rfl, rfl, x2, by rw [← hz]; exact hL0.below b2, hk0, ⟨by rw [hd0]; rfl, by rw [hd0]; exact HT0.out.1, HT0.out.2⟩, HJ.out _ _ _ HJ0.out (KpL.of b12 (Nat.le_refl _)), HSB.out.kpl (KpL.of (ts := []) b12 (Nat.le_refl _)) (by decide) (by decide), below_block b12 HCB.out, hzw⟩
  have HZ := Lib.hid hz
  have HGT : Hid (z ≤ gt) := Lib.hid (by rw [← hz, ← hgt]; exact b1.size)
  have d2 := (HCW.out.below b12).cells.2.2
  generalize wkC E L0 = wk at *
  clear hL0 hk0 hd0 b1 b2 b12 x2 hzw c0 c1 HCW HFW HSB HCB HJ0 hk00
  gi_wp2_with fail
  clear hw2 hgt d2 c2 hz
  gi_loopg [6] wk (fun k av wr => BkI z gt g n0 M B most E t0 J k av wr)
  case atStart => exact HST.out
  case round =>
    clear HST
    obtain ⟨a, L, v, pre, hk, rfl, hx, hL, hsk, ⟨hpre, hab⟩, hj, hst, hcp, hzr⟩ := hrel
    have HX := Lib.hid hx; have HL := Lib.hid hL; have HSK := Lib.hid hsk; have HPR := Lib.hid hpre; have HAB := Lib.hid hab; have HJR := Lib.hid hj; have HST := Lib.hid hst; have HCP := Lib.hid hcp; have HZR := Lib.hid hzr; have HKW := Lib.hid hk
    obtain ⟨y0, -⟩ := hx.cell
    have y1 := hcp.cell
    clear hx hsk hpre hab hj hst hcp hzr hk
    rcases List.eq_nil_or_concat L with rfl | ⟨L', c, rfl⟩
    · obtain ⟨la, lc, rfl⟩ := hL.len
      have HEND : Hid (pre = (lzs t0 0).reverse) := Lib.hid (by have h := HPR.out; rw [← h]; show pre = pre ++ []; rw [List.append_nil])
      clear hL
      gi_wp2_with fail
      go_end0
      exact ⟨⟨_, rfl⟩, .inl ⟨pre, HEND.out, HJR.out⟩⟩
    · rw [List.concat_eq_append] at hL HL HSK HPR HAB HKW
      obtain ⟨gl, n1, cap, rfl, hn1⟩ : ∃ gl n1 cap, v = .slice (some ⟨gl, 0, none⟩) (n1 + 1) cap ∧ L'.length = n1 := by
        rcases hL.shape with ⟨-, h⟩ | ⟨gl, cap, h, -, -⟩
        · simp at h
        · exact ⟨gl, L'.length, cap, by rw [h, List.length_append, List.length_singleton], rfl⟩
      have htop := HSK.out.top
      have hnb : n1 ≤ 4000000 := by have := HSK.out.len; rw [List.length_append, List.length_singleton] at this; omega
      have HTK := Lib.hid (take_any HST.out.st hE hn1 hnb HX.out HL.out htop.1 HGT.out)
      have HOC := Lib.hid htop.1
      have HPOP := Lib.hid HSK.out.pop
      have HTOP : Hid ((popC L' c).length + 3 * c.id ≤ 3 * E.length + 3) := Lib.hid (by have h1 := HSK.out.pop.2; have h2 := htop.2; omega)
      have HDN := Lib.hid (up_pop E L' c htop.1.one)
      have HWK := Lib.hid (wkC_pop E L' c htop.1.one)
      have HRL := Lib.hid (HWF.out.rule c.id htop.1.pos htop.1.le).cases
      obtain ⟨r, hr⟩ : ∃ r, (entAt E c.id).ru = r := ⟨_, rfl⟩
      rw [hr] at HTK HRL
      unfold ruV at HTK
      generalize popC L' c = P at *
      have hn2 : (0 : Int) < ((n1 + 1 : Nat) : Int) := by omega
      have HN1 := Lib.hid hn1
      clear hL htop hr hn1
      gi_wp2_with fail
      clear hn2 y0 y1
      refine ⟨(fun h => by cases h), callsIn_wide.2 (HTK.out.mono ?_)⟩
      rintro e w3 ⟨rfl, m, hm, x3, l3, k3⟩
      obtain ⟨wz, w4, hz4, hs4, kr, br, ⟨r0, r1, r2, r3, r4⟩, e0, e1, e2, e3, e4⟩ := newRu w3 r
      obtain ⟨gr, hgr⟩ : ∃ y, w3.heap.size = y := ⟨_, rfl⟩
      rw [hgr] at hs4 kr r0 r1 r2 r3 r4 e0 e1 e2 e3 e4
      obtain ⟨q0, q1, q2, q3, q4⟩ := kr.cells
      have k34 := k3.trans (KpL.of (ts := CpT) br (Nat.le_trans HZR.out k3.below.size))
      have X4 := Lib.hid (show CxC w4 gt (.slice (some ⟨gl, 0, none⟩) m cap) from below_block br x3)
      have L4 := Lib.hid (SlA.below l3 br)
      have J4 := Lib.hid (HJ.out _ _ _ HJR.out (by rw [HZ.out]; exact k34))
      have S4 := Lib.hid (HST.out.kpl k34 (by decide) (by decide))
      have C4 : Hid (CpB w4 g B) := Lib.hid (k34.cells _ (by decide) _ _ _ HCP.out)
      have Z4 : Hid (z ≤ w4.heap.size) := Lib.hid (Nat.le_trans HZR.out k34.below.size)
      have HM := Lib.hid hm
      obtain ⟨y0, yf⟩ := X4.out.cell
      clear hm x3 l3 k3 kr br k34 HTK HX HL HJR HST HCP HZR
      have HFIN : Hid (∀ (w5 : World) (v5 : Value) (Ln : List Cp), Cps z w5 v5 Ln → KpL CpT z w4 w5 → CxC w5 gt (.slice (some ⟨gl, 0, none⟩) m cap) → StkC E Ln → up E Ln = up E (L' ++ [c]) → BkI z gt g n0 M B most E t0 J (wkC E Ln) (.int .i64 a) (w5.setCell ⟨gt, 0, none⟩ v5)) := Lib.hid (by
        intro w5 v5 Ln hc hkp hx hst hd
        have kp := hkp.set (p := ⟨gt, 0, none⟩) hx (by simp) HGT.out v5
        refine ⟨a, Ln, v5, pre, rfl, rfl, ?_, SlA.setCell hc (a := ⟨gt, 0, none⟩) _ hx (by decide), hst, ⟨by rw [hd]; exact HPR.out, by rw [hd]; exact HAB.out⟩, HJ.out _ _ _ J4.out (by rw [HZ.out]; exact kp), S4.out.kpl kp (by decide) (by decide), kp.cells _ (by decide) _ _ _ C4.out, Nat.le_trans Z4.out kp.others.size⟩
        unfold CxC at hx ⊢
        exact heap_set0 _ hx)
      rcases HRL.out with ⟨hk, -, -, -, -, htx⟩ | ⟨hk, -, l0, l1, rr0, rr1, -, htx⟩ | ⟨hk, -, l0, l1, -, t2, t3, htx⟩
      · have hk1 : ((r.kind : Int) == 1) = true := by simp [hk]
        obtain ⟨m1, hm1⟩ : ∃ y, (up E P).length = y := ⟨_, rfl⟩
        have HUP : Hid (up E (L' ++ [c]) = up E P ++ [r.letter]) := Lib.hid (by rw [HDN.out, htx])
        have HAM : Hid (a = m1 + 1) := Lib.hid (by have h := HAB.out.1; rw [HUP.out, List.length_append, hm1] at h; simp at h; omega)
        have HP2 : Hid ((pre ++ [(m1, r.letter)]) ++ (lzs (up E P) 0).reverse = (lzs t0 0).reverse) := Lib.hid (by
          rw [← HPR.out, HUP.out, lzs_snoc, List.reverse_append, hm1, Nat.zero_add, List.append_assoc]; rfl)
        have HM1 := Lib.hid hm1
        obtain ⟨fn, tmps, assign, body, hy, hRR⟩ := HR.out pre (m1, r.letter) w4 J4.out ⟨_, HP2.out⟩ (n - 1)
        dsimp only at hy
        have HRR := Lib.hid hRR
        have haw : IntKind.i64.wrap ((a : Int) - 1) = (m1 : Int) := by rw [IntKind.wrap_i64]; have h1 := HAB.out.2; have h2 := HAM.out; omega
        have HLT : Hid (wkC E P < gk) := Lib.hid (by have h1 := HKW.out; have h2 := HWK.out; rw [htx] at h2; simp at h2; omega)
        clear hk hRR htx hm1
        gi_wp2_with fail
        refine ⟨(fun h => by cases h), HRR.out.mono ?_⟩
        rintro e w5 (⟨rfl, hj5, hkp, hsz⟩ | ⟨rfl, hjx⟩)
        · have X5 : Hid (CxC w5 gt (.slice (some ⟨gl, 0, none⟩) m cap)) := Lib.hid (hkp.cells _ (by decide) _ _ _ X4.out)
          have L5 := Lib.hid (SlA.keep L4.out (hkp.cells _ (by decide)))
          have S5 := Lib.hid (S4.out.kpi hkp (by decide) (by decide))
          have C5 : Hid (CpB w5 g B) := Lib.hid (hkp.cells _ (by decide) _ _ _ C4.out)
          have J5 := Lib.hid hj5
          have Z5 : Hid (z ≤ w5.heap.size) := Lib.hid (Nat.le_trans Z4.out hsz)
          clear hj5 hkp hsz hz4 hs4 r0 r1 r2 r3 r4 e0 e1 e2 e3 e4 q0 q1 q2 q3 q4 y0 yf hgr
          gi_wp2_with fail
          gi_roundg (wkC E P)
          case measure => exact HLT.out
          case rel => exact ⟨m1, P, _, pre ++ [(m1, r.letter)], rfl, rfl, X5.out, L5.out, HPOP.out.1, ⟨HP2.out, HM1.out, by have h1 := HAB.out.2; have h2 := HAM.out; omega⟩, J5.out, S5.out, C5.out, Z5.out⟩
        · have HJX := Lib.hid hjx
          clear hjx hz4 hs4 r0 r1 r2 r3 r4 e0 e1 e2 e3 e4 q0 q1 q2 q3 q4 y0 yf hgr
          gi_wp2_with fail
          refine bodyPost_ret (results_none rfl _ _ _) rfl ?_
          exact ⟨⟨_, rfl⟩, .inr ⟨pre ++ [(m1, r.letter)], ⟨_, HP2.out⟩, HJX.out⟩⟩
      · have hk1 : ((r.kind : Int) == 1) = false := by simp [hk]
        have hk2 : ((r.kind : Int) == 2) = true := by simp [hk]
        have HNX : Hid (StkC E (P ++ [⟨r.left, 1⟩, ⟨r.right, 1⟩]) ∧ up E (P ++ [⟨r.left, 1⟩, ⟨r.right, 1⟩]) = up E (L' ++ [c])) := Lib.hid (by
          have h1 := HTOP.out; have h2 := HOC.out
          have h3 := h2.le
          refine ⟨?_, ?_⟩
          · rw [show P ++ [(⟨r.left, 1⟩ : Cp), ⟨r.right, 1⟩] = (P ++ [⟨r.left, 1⟩]) ++ [⟨r.right, 1⟩] by simp]
            exact (HPOP.out.1.push ⟨l0, by dsimp only; omega, by dsimp only; omega, by dsimp only; omega⟩ (by dsimp only; omega)).push ⟨rr0, by dsimp only; omega, by dsimp only; omega, by dsimp only; omega⟩ (by rw [List.length_append, List.length_singleton]; dsimp only; omega)
          · rw [show P ++ [(⟨r.left, 1⟩ : Cp), ⟨r.right, 1⟩] = (P ++ [⟨r.left, 1⟩]) ++ [⟨r.right, 1⟩] by simp, up_snoc, up_snoc, rep_one, rep_one, HDN.out, htx, List.append_assoc])
        have HLT : Hid (wkC E (P ++ [⟨r.left, 1⟩, ⟨r.right, 1⟩]) < gk) := Lib.hid (by
          have h3 := HOC.out.le
          have p1 := (HWF.out.get r.left l0 (by omega)).2.2.1
          have p2 := (HWF.out.get r.right rr0 (by omega)).2.2.1
          have h1 := HKW.out; have h2 := HWK.out
          have h4 := wk_pair p1 p2
          rw [htx, List.length_append] at h2
          rw [show P ++ [(⟨r.left, 1⟩ : Cp), ⟨r.right, 1⟩] = (P ++ [⟨r.left, 1⟩]) ++ [⟨r.right, 1⟩] by simp, wkC_snoc, wkC_snoc]
          dsimp only
          omega)
        have HLN : Hid (P.length ≤ 3 * E.length + 3) := Lib.hid (by have := HTOP.out; omega)
        obtain ⟨Wc, hWc⟩ : ∃ w, w4.alloc (.cells #[.int .i64 r.left, .int .i64 1, .int .i64 r.right, .int .i64 1] 107) = w := ⟨_, rfl⟩
        have lc : Cps w4.heap.size Wc (.slice (some ⟨w4.heap.size, 0, none⟩) 2 2) [⟨r.left, 1⟩, ⟨r.right, 1⟩] := by rw [← hWc]; exact SlA.lit (l := [⟨r.left, 1⟩, ⟨r.right, 1⟩]) encC_len rfl (by simp; unfold maxLen; omega)
        have bc : Below w4.heap.size w4 Wc := by rw [← hWc]; exact (Below.refl _ _).alloc (Nat.le_refl _) _
        have HLC := Lib.hid lc
        have HSC := Lib.hid (SlA.below L4.out bc)
        have HZC : Hid (z ≤ Wc.heap.size) := Lib.hid (Nat.le_trans Z4.out bc.size)
        have HKC : Hid (KpL CpT z w4 Wc) := Lib.hid (KpL.of bc Z4.out)
        have HXC : Hid (CxC Wc gt (.slice (some ⟨gl, 0, none⟩) m cap)) := Lib.hid (below_block bc X4.out)
        clear lc bc hk l0 l1 htx rr0 rr1
        gi_wp2_with (
          gi_at_builtin
          refine wp_catInO (l2 := [⟨r.left, 1⟩, ⟨r.right, 1⟩]) elemC encC_len encC_one rfl _ _ rfl rfl HSC.out rfl rfl HLC.out (by have := HLN.out; simp; omega) HZC.out ?_
          intro v5 w5 hS5 hg5 hb5
          obtain ⟨va5, vc5, rfl⟩ := hS5.len
          obtain ⟨nn, hnn⟩ : ∃ y, (P ++ [(⟨r.left, 1⟩ : Cp), ⟨r.right, 1⟩]).length = y := ⟨_, rfl⟩
          rw [hnn] at hS5 ⊢
          have HX5 : Hid (CxC w5 gt (.slice (some ⟨gl, 0, none⟩) m cap)) := Lib.hid (keep_own HSC.out hg5 (by decide) _ _ _ HXC.out)
          have HKP := Lib.hid (HKC.out.trans (KpL.own (ts := CpT) HSC.out hg5 HZC.out (by simp)))
          have HL5 := Lib.hid hS5
          obtain ⟨z0, zf⟩ := HX5.out.cell
          clear hS5 hg5 hb5 hnn)
        gi_roundg (wkC E (P ++ [⟨r.left, 1⟩, ⟨r.right, 1⟩]))
        case measure => exact HLT.out
        case rel => exact HFIN.out _ _ _ HL5.out HKP.out HX5.out HNX.out.1 HNX.out.2
      · have hk1 : ((r.kind : Int) == 1) = false := by simp [hk]
        have hk2 : ((r.kind : Int) == 2) = false := by simp [hk]
        have hk3 : ((r.kind : Int) == 3) = true := by simp [hk]
        have HNX : Hid (StkC E (P ++ [⟨r.left, r.times⟩]) ∧ up E (P ++ [⟨r.left, r.times⟩]) = up E (L' ++ [c])) := Lib.hid (by
          have h1 := HTOP.out; have h2 := HOC.out
          have h3 := h2.le
          refine ⟨HPOP.out.1.push ⟨l0, by dsimp only; omega, by dsimp only; omega, by dsimp only; omega⟩ (by dsimp only; omega), ?_⟩
          rw [up_snoc, HDN.out, htx])
        have HLT : Hid (wkC E (P ++ [⟨r.left, r.times⟩]) < gk) := Lib.hid (by
          have h3 := HOC.out.le
          have p1 := (HWF.out.get r.left l0 (by omega)).2.2.1
          have h1 := HKW.out; have h2 := HWK.out
          have h4 := wk_power t2 p1
          rw [htx, rep_length] at h2
          rw [wkC_snoc]
          dsimp only
          omega)
        have HLN : Hid (P.length ≤ 3 * E.length + 3) := Lib.hid (by have := HTOP.out; omega)
        obtain ⟨Wc, hWc⟩ : ∃ w, w4.alloc (.cells #[.int .i64 r.left, .int .i64 r.times] 107) = w := ⟨_, rfl⟩
        have lc : Cps w4.heap.size Wc (.slice (some ⟨w4.heap.size, 0, none⟩) 1 1) [⟨r.left, r.times⟩] := by rw [← hWc]; exact SlA.lit (l := [⟨r.left, r.times⟩]) encC_len rfl (by simp; unfold maxLen; omega)
        have bc : Below w4.heap.size w4 Wc := by rw [← hWc]; exact (Below.refl _ _).alloc (Nat.le_refl _) _
        have HLC := Lib.hid lc
        have HSC := Lib.hid (SlA.below L4.out bc)
        have HZC : Hid (z ≤ Wc.heap.size) := Lib.hid (Nat.le_trans Z4.out bc.size)
        have HKC : Hid (KpL CpT z w4 Wc) := Lib.hid (KpL.of bc Z4.out)
        have HXC : Hid (CxC Wc gt (.slice (some ⟨gl, 0, none⟩) m cap)) := Lib.hid (below_block bc X4.out)
        clear lc bc hk l0 l1 htx t2 t3
        gi_wp2_with (
          gi_at_builtin
          refine wp_catInO (l2 := [⟨r.left, r.times⟩]) elemC encC_len encC_one rfl _ _ rfl rfl HSC.out rfl rfl HLC.out (by have := HLN.out; simp; omega) HZC.out ?_
          intro v5 w5 hS5 hg5 hb5
          obtain ⟨va5, vc5, rfl⟩ := hS5.len
          obtain ⟨nn, hnn⟩ : ∃ y, (P ++ [(⟨r.left, r.times⟩ : Cp)]).length = y := ⟨_, rfl⟩
          rw [hnn] at hS5 ⊢
          have HX5 : Hid (CxC w5 gt (.slice (some ⟨gl, 0, none⟩) m cap)) := Lib.hid (keep_own HSC.out hg5 (by decide) _ _ _ HXC.out)
          have HKP := Lib.hid (HKC.out.trans (KpL.own (ts := CpT) HSC.out hg5 HZC.out (by simp)))
          have HL5 := Lib.hid hS5
          obtain ⟨z0, zf⟩ := HX5.out.cell
          clear hS5 hg5 hb5 hnn)
        gi_roundg (wkC E (P ++ [⟨r.left, r.times⟩]))
        case measure => exact HLT.out
        case rel => exact HFIN.out _ _ _ HL5.out HKP.out HX5.out HNX.out.1 HNX.out.2
end M
end Go.Proofs.Ytpjcfepngjpfbaa
namespace Go.Proofs.Ytpjcfepngjpfbaa
open Go.RowKit Go.Lib
namespace M
attribute [local go_sem] Oper.semAt_some
set_option maxRecDepth 100000 in
theorem seqL_nilB (w : World) : SeqL w (.func (.func 60) #[] #[]) [] := by
  refine ⟨60, #[], rfl, enters_of Try.func60 (by kernel_rfl) rfl, fun n => stops_nil n fun l W => ?_⟩
  refine callsIn_of_wp Try.func60 rfl trivial ?_ rfl
  simp only [Try.ntmps60, List.size_toArray, List.length_cons, List.length_nil, Nat.reduceAdd, Nat.reduceSub, Array.replicate_succ, Array.replicate_zero, List.push_toArray, List.append_toArray, List.nil_append, List.cons_append]
  gi_wp2_with fail
  go_end0
  exact ⟨⟨_, rfl⟩, rfl⟩
set_option maxRecDepth 100000 in
theorem back_seq {n0 B most : Nat} {W : World} {E : List En} (hs : StAt n0 W B most E) (hwf : Wf E) (hE : E.length ≤ 1048576) {id frm : Nat} (hid : id ≤ E.length) (hfr : frm ≤ (txt E id).length) :
    Calls Try.prog 26 #[.pointer (some ⟨B, 0, none⟩), .int .i64 id, .int .i64 frm] W fun e w' => ∃ v, e = .returned v ∧ SeqL w' v (lzs ((txt E id).take frm) 0).reverse ∧ Below W.heap.size W w' := by
  by_cases h : 0 < frm
  · refine (back_some hs hwf hE hid h hfr).mono ?_
    rintro e w' ⟨rfl, hl, hb⟩
    refine ⟨_, rfl, ⟨_, _, rfl, enters_of Try.func61 (by kernel_rfl) rfl, fun n => ?_⟩, hb⟩
    have h0 : 0 < id := Nat.pos_of_ne_zero (fun e => by subst e; rw [txt_zero] at hfr; simp at hfr; omega)
    exact back_stops n (M := w'.heap.size) hl (hs.below hb) hwf hE h0 hid h hfr (Nat.le_refl _)
  · have he : (txt E id).take frm = [] := by rw [show frm = 0 by omega]; rfl
    rw [he]
    refine (back_out (W := W) (B := B) (id := id) (fun w hw => known1_any (hs.below hw) hid hE) (frm := frm) (.inr (.inl ⟨rfl, by omega⟩))).mono ?_
    rintro e w' ⟨rfl, hb⟩
    exact ⟨_, rfl, seqL_nilB _, hb⟩
theorem lzs_get : ∀ (l : List Nat) (a i : Nat) (h : i < (lzs l a).length), (lzs l a)[i] = (a + i, l[i]'(by rw [lzs_length] at h; exact h))
  | b :: l, a, 0, h => rfl
  | b :: l, a, i + 1, h => by
    show (lzs l (a + 1))[i]'_ = _
    rw [lzs_get l (a + 1) i]
    simp only [List.getElem_cons_succ, Prod.mk.injEq, and_true]; omega
theorem pre_next {α : Type} {pre ys : List α} {x : α} (h : pre ++ [x] <+: ys) : ∃ hl : pre.length < ys.length, ys[pre.length] = x := by
  have hl := h.length_le
  rw [List.length_append, List.length_singleton] at hl
  refine ⟨by omega, ?_⟩
  have := h.getElem (i := pre.length) (by simp)
  rw [← this]; simp
/-- The next letter behind an offset. -/
theorem lzs_next {t : List Nat} {fr : Nat} {pre : List (Nat × Nat)} {x : Nat × Nat} (h : pre ++ [x] <+: lzs (t.drop fr) fr) : x.1 = fr + pre.length ∧ fr + pre.length < t.length ∧ t[fr + pre.length]? = some x.2 := by
  obtain ⟨hl, hx⟩ := pre_next h
  rw [lzs_get] at hx
  rw [lzs_length, List.length_drop] at hl
  have hlt : fr + pre.length < t.length := by omega
  rw [← hx]
  refine ⟨rfl, hlt, ?_⟩
  dsimp only
  rw [List.getElem_drop, List.getElem?_eq_getElem hlt]
/-- The next letter before an offset. -/
theorem lzs_prev {t : List Nat} {fr : Nat} (hf : fr ≤ t.length) {pre : List (Nat × Nat)} {x : Nat × Nat} (h : pre ++ [x] <+: (lzs (t.take fr) 0).reverse) : pre.length < fr ∧ x.1 = fr - 1 - pre.length ∧ t[fr - 1 - pre.length]? = some x.2 := by
  obtain ⟨hl, hx⟩ := pre_next h
  have hlen : (lzs (t.take fr) 0).length = fr := by rw [lzs_length, List.length_take]; omega
  rw [List.length_reverse, hlen] at hl
  rw [List.getElem_reverse, lzs_get] at hx
  rw [← hx]
  refine ⟨hl, by dsimp only; omega, ?_⟩
  have hlt : fr - 1 - pre.length < t.length := by omega
  dsimp only
  rw [List.getElem_take, List.getElem?_eq_getElem hlt]
  congr 2
  omega
end M
end Go.Proofs.Ytpjcfepngjpfbaa
