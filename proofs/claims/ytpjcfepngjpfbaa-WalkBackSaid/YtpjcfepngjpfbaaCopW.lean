/- walk: known, forward. -/
import Derived.Test.YtpjcfepngjpfbaaPla
import Derived.Test.YtpjcfepngjpfbaaAcc
import Derived.Test.YtpjcfepngjpfbaaCom
set_option linter.unusedVariables false
set_option linter.unusedSimpArgs false
namespace Go.Proofs.Ytpjcfepngjpfbaa
open Go.RowKit Go.Lib
namespace M
attribute [local go_sem] Oper.semAt_some
def encC (c : Cp) : List Value := [.int .i64 c.id, .int .i64 c.times]
theorem encC_len (c : Cp) : (encC c).length = 2 := rfl
theorem encC_one (c : Cp) : ∀ u ∈ encC c, u.oneCell' = true := by simp [encC, Value.oneCell']
abbrev Cps (B : Nat) (W : World) (v : Value) (L : List Cp) : Prop := SlA B W 107 2 encC v L
theorem elemC : Elem Try.prog 102 107 2 16 := elem_of Try.underlying102 (z := .agg #[.int .i64 0, .int .i64 0]) (by kernel_rfl) rfl (by decide) (by decide)
section
variable {n0 B most : Nat} {W : World} {E : List En}
set_option maxRecDepth 100000 in
set_option maxHeartbeats 1000000 in
theorem known1_any (hs : StAt n0 W B most E) {i : Nat} (hi : i ≤ E.length) (hE : E.length ≤ 1048576) :
    Calls Try.prog 43 #[.pointer (some ⟨B, 0, none⟩), .int .i64 i] W fun e w' => e = .returned (.tuple #[.int .i64 (entAt E i).w.len, .bool true]) ∧ Below W.heap.size W w' := by
  have HF : ∀ f, Fence.wide.fn f := fun _ => trivial
  have HW := Lib.hid (weight_any hs hi hE)
  generalize (entAt E i).w = u at *
  unfold wtV at HW
  clear hs
  go_enter Try.func43, Try.ntmps43
  go_wp2_with fail
  refine HW.out.mono ?_; rintro e w1 ⟨rfl, b1⟩
  obtain ⟨wz, w2, hz, hs1, kw, bw, ⟨p0, p1, p2, p3, p4, p5⟩, q0, q1, q2, q3, q4, q5⟩ := newWt w1 u
  obtain ⟨gc, hgc⟩ : ∃ g, w1.heap.size = g := ⟨_, rfl⟩
  rw [hgc] at hs1 kw p0 p1 p2 p3 p4 p5 q0 q1 q2 q3 q4 q5
  have HB2 := Lib.hid (Below.after b1 bw); have KU := Lib.hid kw
  clear b1 kw bw
  go_wp2_with fail
  clear hz hs1 p0 p1 p2 p3 p4 p5 q0 q1 q2 q3 q4 q5 hgc
  have m0 : ∀ w, Below w2.heap.size w2 w → w.cell? ⟨gc, 0, none⟩ = some (.int .i64 u.len) := fun w hw => (WtC.cells (below_block hw KU.out)).1
  refine wp_region_anyH (Below w2.heap.size w2) (by kernel_rfl) ?_
  have S0 : Below w2.heap.size w2 w2.drew := (Below.refl _ _).drew
  refine AnyH.take (i := 0) (d := some 14) (v := ?_) (by kernel_rfl) rfl rfl HF (fun _ _ _ h => h) (.inl ⟨by rfl, ?_⟩) (by first | assumption | rfl) ?_
  rotate_left
  · intro w hS; try subst hS
    go_simp; try with_reducible rfl
  try simp only [Act.put, List.setIfInBounds_toArray, List.set_cons_zero, List.set_cons_succ]
  refine AnyH.take (i := 1) (d := some 15) (v := ?_) (by kernel_rfl) rfl rfl HF (fun _ _ _ h => h) (.inl ⟨by rfl, ?_⟩) (by first | assumption | rfl) ?_
  rotate_left
  · intro w hS; try subst hS
    go_simp; try with_reducible rfl
  try simp only [Act.put, List.setIfInBounds_toArray, List.set_cons_zero, List.set_cons_succ]
  refine AnyH.take (i := 2) (d := some 16) (v := ?_) (by kernel_rfl) rfl rfl HF (fun _ _ _ h => h) (.inl ⟨by rfl, ?_⟩) (by first | assumption | rfl) ?_
  rotate_left
  · intro w hS; try subst hS
    go_simp; try with_reducible rfl
  try simp only [Act.put, List.setIfInBounds_toArray, List.set_cons_zero, List.set_cons_succ]
  refine AnyH.take (i := 3) (d := some 17) (v := ?_) (by kernel_rfl) rfl rfl HF (fun _ _ _ h => h) (.inl ⟨by rfl, ?_⟩) (by first | assumption | rfl) ?_
  rotate_left
  · intro w hS; try subst hS
    go_simp; try with_reducible rfl
  try simp only [Act.put, List.setIfInBounds_toArray, List.set_cons_zero, List.set_cons_succ]
  refine AnyH.take (i := 4) (d := some 4) (v := ?_) (by kernel_rfl) rfl rfl HF (fun _ _ _ h => h) (.inl ⟨by rfl, ?_⟩) (by first | assumption | rfl) ?_
  rotate_left
  · intro w hS; try subst hS
    go_simp; try with_reducible rfl
  try simp only [Act.put, List.setIfInBounds_toArray, List.set_cons_zero, List.set_cons_succ]
  refine AnyH.take (i := 5) (d := some 5) (v := ?_) (by kernel_rfl) rfl rfl HF (fun _ _ _ h => h) (.inl ⟨by rfl, ?_⟩) (by first | assumption | rfl) ?_
  rotate_left
  · intro w hS; try subst hS
    go_simp; try with_reducible rfl
  try simp only [Act.put, List.setIfInBounds_toArray, List.set_cons_zero, List.set_cons_succ]
  refine AnyH.done (by kernel_rfl) ?_
  clear m0
  go_wp2_with fail
  go_ret2
  exact ⟨rfl, Below.after HB2.out S0⟩
set_option maxRecDepth 100000 in
set_option maxHeartbeats 8000000 in
theorem forward_any (hs : StAt n0 W B most E) (hwf : Wf E) (hE : E.length ≤ 1048576) {id frm : Nat} (h0 : 0 < id) (hid : id ≤ E.length) (hfr : frm < (txt E id).length) :
    Calls Try.prog 46 #[.pointer (some ⟨B, 0, none⟩), .int .i64 id, .int .i64 frm] W fun e w' => ∃ v L, e = .returned v ∧ Cps W.heap.size w' v L ∧ StkC E L ∧ dn E L = (txt E id).drop frm ∧ Below W.heap.size W w' := by
  have HF : ∀ f, Fence.wide.fn f := fun _ => trivial
  have HS := Lib.hid hs; have HWF := Lib.hid hwf
  obtain ⟨t0, ht0⟩ : ∃ t, (txt E id).drop frm = t := ⟨_, rfl⟩
  have HST : Hid (0 < id ∧ id ≤ E.length ∧ frm < (txt E id).length ∧ (txt E id).drop frm ++ dn E [] = t0) := Lib.hid ⟨h0, hid, hfr, by rw [ht0]; show t0 ++ [] = t0; rw [List.append_nil]⟩
  rw [ht0]
  clear hs hwf h0 hid hfr ht0
  go_enter Try.func46, Try.ntmps46
  go_wp2_with fail
  go_loopw [1, 2, 7] (fun iv fv tv wr => ∃ (i f : Nat) (L : List Cp), iv = .int .i64 i ∧ fv = .int .i64 f ∧ Cps W.heap.size wr tv L ∧ StkC E L ∧ (0 < i ∧ i ≤ E.length ∧ f < (txt E i).length ∧ (txt E i).drop f ++ dn E L = t0) ∧ L.length + 1 + 3 * i ≤ 3 * E.length + 3 ∧ Below W.heap.size W wr) (fun iv _ _ _ => (intOf iv).toNat)
  case atStart => exact ⟨id, frm, [], rfl, rfl, SlA.nil _ _ _ _ _, StkC.nil E, HST.out, by have := HST.out.2.1; simp; omega, Below.refl _ _⟩
  case round =>
    clear HST
    obtain ⟨i, f, L, rfl, rfl, hL, hk, ⟨h0, hi, hf, hd⟩, hl, hB⟩ := hrel
    have HL := Lib.hid hL; have HK := Lib.hid hk; have HD := Lib.hid hd; have HB := Lib.hid hB; have HLN := Lib.hid hl; have HI := Lib.hid (And.intro h0 hi)
    obtain ⟨ta, tc, rfl⟩ := hL.len
    obtain ⟨n, hn⟩ : ∃ n, L.length = n := ⟨_, rfl⟩
    rw [hn] at HL HLN ⊢
    have HN := Lib.hid hn
    clear hL hk hd hB hl hn
    have hlen := (HWF.out.len hi).2
    by_cases hf0 : 0 < f
    · have hf1 : (f : Int) > 0 := by omega
      have hf2 : (0 : Int) < (f : Int) := by omega
      have HRU := Lib.hid (rule_any (HS.out.below HB.out) h0 hi hE)
      have hrl := (HWF.out.rule i h0 hi).cases
      obtain ⟨r, hr⟩ : ∃ r, (entAt E i).ru = r := ⟨_, rfl⟩
      rw [hr] at HRU hrl
      unfold ruV at HRU
      have hk23 : r.kind = 2 ∨ r.kind = 3 := by
        rcases hrl with ⟨-, -, -, -, -, g⟩ | ⟨a, -⟩ | ⟨a, -⟩
        · rw [g] at hf; simp at hf; omega
        · exact .inl a
        · exact .inr a
      have hll : 0 < r.left ∧ r.left < i := by
        rcases hrl with ⟨-, -, -, -, -, g⟩ | ⟨-, -, c, d, -⟩ | ⟨-, -, c, d, -⟩
        · rw [g] at hf; simp at hf; omega
        · exact ⟨c, d⟩
        · exact ⟨c, d⟩
      obtain ⟨hw2, hlen2⟩ := HWF.out.len (show r.left ≤ E.length by omega)
      have hpos : 0 < (txt E r.left).length := (HWF.out.get r.left hll.1 (by omega)).2.2.1
      have HWL : Hid (∀ w, Below W.heap.size W w → Calls Try.prog 39 #[.pointer (some ⟨B, 0, none⟩), .int .i64 r.left] w fun e w' => e = .returned (.tuple #[wtV (wt (txt E r.left)), .nilIface]) ∧ Below w.heap.size w w') := Lib.hid (fun w hw => by
        have := weight_any (HS.out.below hw) (i := r.left) (by omega) hE
        rwa [hw2] at this)
      obtain ⟨ul, hul2⟩ : ∃ u, wt (txt E r.left) = u := ⟨_, rfl⟩
      have hull : ul.len = (txt E r.left).length := by rw [← hul2]; rfl
      rw [hul2] at HWL
      unfold wtV at HWL
      have HUL := Lib.hid hull; have HRL := Lib.hid hrl; have HLL := Lib.hid hll
      rw [← hull] at hpos hlen2
      have HF2 := Lib.hid hf
      have hfb : f ≤ 1152921504606846976 := by omega
      clear hr hw2 hul2 hull hrl hll hf
      go_wp2_with fail
      refine HRU.out.mono ?_; rintro e w4 ⟨rfl, b4⟩
      obtain ⟨wz5, w5, hz5, hs5, kr, br, ⟨r0, r1, r2, r3, r4⟩, e0, e1, e2, e3, e4⟩ := newRu w4 r
      obtain ⟨gr, hgr⟩ : ∃ g, w4.heap.size = g := ⟨_, rfl⟩
      rw [hgr] at hs5 kr r0 r1 r2 r3 r4 e0 e1 e2 e3 e4
      obtain ⟨y0, y1, y2, y3, y4⟩ := kr.cells
      have HB5 := Lib.hid (Below.after HB.out (Below.after b4 br)); have KR := Lib.hid kr
      have HL5 := Lib.hid (SlA.below HL.out (Below.after b4 br))
      clear kr br b4 HRU HB HL
      go_wp2_with fail
      clear hz5 hs5 r0 r1 r2 r3 r4 e0 e1 e2 e3 e4 y0 y1 y2 y3 y4 hgr
      refine (HWL.out w5 HB5.out).mono ?_; rintro e w6 ⟨rfl, b6⟩
      obtain ⟨wz7, w7, hz6, hs6, kw, bw, ⟨o0, o1, o2, o3, o4, o5⟩, i0, i1, i2, i3, i4, i5⟩ := newWt w6 ul
      obtain ⟨gw, hgw⟩ : ∃ g, w6.heap.size = g := ⟨_, rfl⟩
      rw [hgw] at hs6 kw o0 o1 o2 o3 o4 o5 i0 i1 i2 i3 i4 i5
      obtain ⟨m0, m1, m2, m3, m4, m5⟩ := kw.cells
      have b7 := Below.after b6 bw
      have KR7 := Lib.hid (show RuC w7 gr r from below_block b7 KR.out)
      obtain ⟨l0, l1, l2, l3, l4⟩ := KR7.out.cells
      have HB7 := Lib.hid (Below.after HB5.out b7)
      have HL7 := Lib.hid (SlA.below HL5.out b7)
      have KW := Lib.hid kw
      have HZ7 : Hid (W.heap.size ≤ w7.heap.size) := Lib.hid HB7.out.size
      clear kw bw b6 b7 HL5 HB5 KR HWL
      have c0 : ∀ w, Below w7.heap.size w7 w → w.cell? ⟨gw, 0, none⟩ = some (.int .i64 ul.len) := fun w hw => (WtC.cells (below_block hw KW.out)).1
      have c2 : ∀ w, Below w7.heap.size w7 w → w.cell? ⟨gr, 2, none⟩ = some (.int .i64 r.left) := fun w hw => (RuC.cells (below_block hw KR7.out)).2.2.1
      have c3 : ∀ w, Below w7.heap.size w7 w → w.cell? ⟨gr, 3, none⟩ = some (.int .i64 r.right) := fun w hw => (RuC.cells (below_block hw KR7.out)).2.2.2.1
      have c4 : ∀ w, Below w7.heap.size w7 w → w.cell? ⟨gr, 4, none⟩ = some (.int .i64 r.times) := fun w hw => (RuC.cells (below_block hw KR7.out)).2.2.2.2
      obtain ⟨wd, hwd⟩ : ∃ w, w7.drew = w := ⟨_, rfl⟩
      have SD : Below w7.heap.size w7 wd := by rw [← hwd]; exact (Below.refl _ _).drew
      rcases hk23 with hk2 | hk3
      · have hkb : ((r.kind : Int) == 3) = false := by simp [hk2]
        obtain ⟨hr1, hr2, htx⟩ : 0 < r.right ∧ r.right < i ∧ txt E i = txt E r.left ++ txt E r.right := by
          rcases HRL.out with ⟨a, -⟩ | ⟨-, -, -, -, a, b, -, c⟩ | ⟨a, -⟩
          · omega
          · exact ⟨a, b, c⟩
          · omega
        by_cases hfl : f < ul.len
        · have g1 : (f : Int) < (ul.len : Int) := by omega
          have HNX : Hid (StkC E (L ++ [(⟨r.right, 1⟩ : Cp)]) ∧ (0 < r.left ∧ r.left ≤ E.length ∧ f < (txt E r.left).length ∧ (txt E r.left).drop f ++ dn E (L ++ [(⟨r.right, 1⟩ : Cp)]) = t0) ∧ (L ++ [(⟨r.right, 1⟩ : Cp)]).length + 1 + 3 * r.left ≤ 3 * E.length + 3) := Lib.hid (by
            have h1 := HI.out; have h2 := HLL.out; have h3 := HLN.out; have h4 := HN.out; have h5 := HUL.out
            refine ⟨HK.out.push ⟨hr1, by dsimp only; omega, by dsimp only; omega, by dsimp only; omega⟩ (by dsimp only; omega), ⟨h2.1, by omega, by omega, ?_⟩, by rw [List.length_append, List.length_singleton]; omega⟩
            rw [dn_snoc, rep_one, ← HD.out, htx, List.drop_append_of_le_length (by omega), List.append_assoc])
          have HAPP : Hid ((L.length + 1) * 16 ≤ 140737488355328) := Lib.hid (by have h1 := HLN.out; have h2 := HN.out; omega)
          clear hk2 hr1 hr2 htx hfl c0 c2 c3 c4 SD hwd
          go_wp2_with (
            at_builtin
            refine wp_app1G (w0 := w7) (enc := encC) (v := .slice ta n tc) elemC encC_len rfl _ _ rfl rfl HL7.out (⟨r.right, 1⟩ : Cp) rfl rfl (encC_one _) HAPP.out HZ7.out ?_
            intro v8 w8 hS8 hg8 hb8
            have HX1 := Lib.hid hS8
            have HX2 := Lib.hid (HB7.out.trans hb8)
            obtain ⟨l0, l1, l2, l3, l4⟩ : w8.cell? ⟨gr, 0, none⟩ = some (.int .i64 r.kind) ∧ w8.cell? ⟨gr, 1, none⟩ = some (.int .u8 r.letter) ∧ w8.cell? ⟨gr, 2, none⟩ = some (.int .i64 r.left) ∧ w8.cell? ⟨gr, 3, none⟩ = some (.int .i64 r.right) ∧ w8.cell? ⟨gr, 4, none⟩ = some (.int .i64 r.times) := RuC.cells (show w8.heap[gr]? = _ from (hg8.block gr (by rw [World.size_alloc]; have := (Array.getElem?_eq_some_iff.1 (show w7.heap[gr]? = _ from KR7.out)).1; omega) (by
              intro e
              have h1 := HL7.out
              rcases h1.2 with ⟨hv, _⟩ | ⟨g, cap, cur, hv, _, hgb, _⟩
              · rw [hv] at e; simp [Value.ownBlock] at e
              · rw [hv] at e
                obtain rfl : gr = g := by simpa [Value.ownBlock] using e
                have h2 : w7.heap[gr]? = _ := KR7.out
                rw [hgb] at h2; simp at h2)).trans (below_block ((Below.refl _ w7).alloc (Nat.le_refl _) _) KR7.out))
            clear hS8 hg8 hb8)
          clear hz6 hs6 o0 o1 o2 o3 o4 o5 i0 i1 i2 i3 i4 i5 l0 l1 l2 l3 l4 m0 m1 m2 m3 m4 m5 hgw
          go_roundw
          case rel => exact ⟨r.left, f, L ++ [(⟨r.right, 1⟩ : Cp)], rfl, rfl, HX1.out, HNX.out.1, HNX.out.2.1, HNX.out.2.2, HX2.out⟩
          case measure => have := HLL.out; first | (simp [intOf]; omega) | simp [intOf]
        · have g1 : ¬ (f : Int) < (ul.len : Int) := by omega
          have hsw : IntKind.i64.wrap ((f : Int) - (ul.len : Int)) = ((f - ul.len : Nat) : Int) := by rw [IntKind.wrap_i64]; omega
          obtain ⟨f2, hf2⟩ : ∃ y, f - ul.len = y := ⟨_, rfl⟩
          rw [hf2] at hsw
          have HNX : Hid (0 < r.right ∧ r.right ≤ E.length ∧ f2 < (txt E r.right).length ∧ (txt E r.right).drop f2 ++ dn E L = t0) := Lib.hid (by
            have h1 := HI.out; have h5 := HUL.out; have h6 := HF2.out
            rw [htx, List.length_append] at h6
            refine ⟨hr1, by omega, by omega, ?_⟩
            rw [← HD.out, htx, List.drop_append, List.drop_of_length_le (show (txt E r.left).length ≤ f by omega), List.nil_append, ← h5, hf2])
          have HRR : Hid (r.right < i) := Lib.hid hr2
          clear hk2 hr1 hr2 htx hfl hf2
          go_wp2_with fail
          clear hz6 hs6 o0 o1 o2 o3 o4 o5 i0 i1 i2 i3 i4 i5 l0 l1 l2 l3 l4 m0 m1 m2 m3 m4 m5 hgw
          refine wp_region_anyH (Below w7.heap.size w7) (by kernel_rfl) ?_
          rw [hwd]
          clear hwd
          refine AnyH.take (i := 0) (d := some 28) (v := ?_) (by kernel_rfl) rfl rfl HF (fun _ _ _ h => h) (.inl ⟨by rfl, ?_⟩) (by first | assumption | rfl) ?_
          rotate_left
          · intro w hS; try subst hS
            go_simp; try with_reducible rfl
          try simp only [Act.put, List.setIfInBounds_toArray, List.set_cons_zero, List.set_cons_succ]
          refine AnyH.take (i := 1) (d := some 29) (v := ?_) (by kernel_rfl) rfl rfl HF (fun _ _ _ h => h) (.inl ⟨by rfl, ?_⟩) (by first | assumption | rfl) ?_
          rotate_left
          · intro w hS; try subst hS
            go_simp; try with_reducible rfl
          try simp only [Act.put, List.setIfInBounds_toArray, List.set_cons_zero, List.set_cons_succ]
          refine AnyH.take (i := 2) (d := some 30) (v := ?_) (by kernel_rfl) rfl rfl HF (fun _ _ _ h => h) (.inl ⟨by rfl, ?_⟩) (by first | assumption | rfl) ?_
          rotate_left
          · intro w hS; try subst hS
            go_simp; try with_reducible rfl
          try simp only [Act.put, List.setIfInBounds_toArray, List.set_cons_zero, List.set_cons_succ]
          refine AnyH.take (i := 3) (d := some 31) (v := ?_) (by kernel_rfl) rfl rfl HF (fun _ _ _ h => h) (.inl ⟨by rfl, ?_⟩) (by first | assumption | rfl) ?_
          rotate_left
          · intro w hS; try subst hS
            go_simp; try with_reducible rfl
          try simp only [Act.put, List.setIfInBounds_toArray, List.set_cons_zero, List.set_cons_succ]
          refine AnyH.take (i := 4) (d := some 32) (v := ?_) (by kernel_rfl) rfl rfl HF (fun _ _ _ h => h) (.inl ⟨by rfl, ?_⟩) (by first | assumption | rfl) ?_
          rotate_left
          · intro w hS; try subst hS
            go_simp; try with_reducible rfl
          try simp only [Act.put, List.setIfInBounds_toArray, List.set_cons_zero, List.set_cons_succ]
          refine AnyH.take (i := 5) (d := some 33) (v := ?_) (by kernel_rfl) rfl rfl HF (fun _ _ _ h => h) (.inl ⟨by rfl, ?_⟩) (by first | assumption | rfl) ?_
          rotate_left
          · intro w hS; try subst hS
            go_simp; try with_reducible rfl
          try simp only [Act.put, List.setIfInBounds_toArray, List.set_cons_zero, List.set_cons_succ]
          refine AnyH.take (i := 6) (d := some 1) (v := ?_) (by kernel_rfl) rfl rfl HF (fun _ _ _ h => h) (.inl ⟨by rfl, ?_⟩) (by first | assumption | rfl) ?_
          rotate_left
          · intro w hS; try subst hS
            go_simp; try with_reducible rfl
          try simp only [Act.put, List.setIfInBounds_toArray, List.set_cons_zero, List.set_cons_succ]
          refine AnyH.take (i := 7) (d := some 2) (v := ?_) (by kernel_rfl) rfl rfl HF (fun _ _ _ h => h) (.inl ⟨by rfl, ?_⟩) (by first | assumption | rfl) ?_
          rotate_left
          · intro w hS; try subst hS
            go_simp; try with_reducible rfl
          try simp only [Act.put, List.setIfInBounds_toArray, List.set_cons_zero, List.set_cons_succ]
          refine AnyH.done (by kernel_rfl) ?_
          have HX1 := Lib.hid (SlA.below HL7.out SD); have HX2 := Lib.hid (Below.after HB7.out SD)
          clear c0 c2 c3 c4 SD hsw
          go_wp2_with fail
          go_roundw
          case rel => exact ⟨r.right, f2, L, rfl, rfl, HX1.out, HK.out, HNX.out, by have := HLN.out; have := HN.out; have := HRR.out; omega, HX2.out⟩
          case measure => have := HRR.out; first | (simp [intOf]; omega) | simp [intOf]
      · have hkb : ((r.kind : Int) == 3) = true := by simp [hk3]
        obtain ⟨ht2, htm, htx⟩ : 2 ≤ r.times ∧ r.times ≤ 1152921504606846976 ∧ txt E i = rep r.times (txt E r.left) := by
          rcases HRL.out with ⟨a, -⟩ | ⟨a, -⟩ | ⟨-, -, -, -, -, a, b, c⟩
          · omega
          · omega
          · exact ⟨a, b, c⟩
        have hlz : ¬ ul.len = 0 := by omega
        have hlz2 : ¬ (ul.len : Int) = 0 := by omega
        have hlz3 : ((ul.len : Int) == 0) = false := by simp; omega
        have hq1 : (f : Int).tdiv (ul.len : Int) = ((f / ul.len : Nat) : Int) := rfl
        have hq2 : (f : Int).tmod (ul.len : Int) = ((f % ul.len : Nat) : Int) := rfl
        have hqn : f / ul.len < r.times := by
          have h6 := HF2.out
          rw [htx, rep_length, ← HUL.out] at h6
          exact Nat.div_lt_of_lt_mul (by rw [Nat.mul_comm]; exact h6)
        have HRD : Hid ((txt E i).drop f = (txt E r.left).drop (f % ul.len) ++ rep (r.times - 1 - f / ul.len) (txt E r.left)) := Lib.hid (by
          have h6 := HF2.out
          rw [htx, rep_length] at h6
          rw [htx, HUL.out]
          exact rep_drop_at (by rw [← HUL.out]; omega) h6)
        have hml : f % ul.len < ul.len := Nat.mod_lt _ (by omega)
        generalize f / ul.len = q at *
        generalize f % ul.len = f2 at *
        have hqw : IntKind.i64.wrap (q : Int) = (q : Int) := by rw [IntKind.wrap_i64]; omega
        have hmw : IntKind.i64.wrap (f2 : Int) = (f2 : Int) := by rw [IntKind.wrap_i64]; omega
        have htw : IntKind.i64.wrap ((r.times : Int) - 1) = ((r.times - 1 : Nat) : Int) := by rw [IntKind.wrap_i64]; omega
        have hsw : IntKind.i64.wrap (((r.times - 1 : Nat) : Int) - (q : Int)) = ((r.times - 1 - q : Nat) : Int) := by rw [IntKind.wrap_i64]; omega
        have hmm : r.times - 1 - q ≤ 1152921504606846976 := by omega
        generalize r.times - 1 - q = more at *
        generalize r.times - 1 = tm1 at *
        have HML : Hid (f2 < (txt E r.left).length) := Lib.hid (by rw [← HUL.out]; exact hml)
        clear hk3 ht2 htm htx hqn hml
        go_wp2_with fail
        clear hz6 hs6 o0 o1 o2 o3 o4 o5 i0 i1 i2 i3 i4 i5 l0 l1 l2 l3 l4 m0 m1 m2 m3 m4 m5 hgw
        refine wp_region_anyH (Below w7.heap.size w7) (by kernel_rfl) ?_
        rw [hwd]
        clear hwd
        refine AnyH.take (i := 0) (d := some 38) (v := ?_) (by kernel_rfl) rfl rfl HF (fun _ _ _ h => h) (.inl ⟨by rfl, ?_⟩) (by first | assumption | rfl) ?_
        rotate_left
        · intro w hS; try subst hS
          go_simp; try with_reducible rfl
        try simp only [Act.put, List.setIfInBounds_toArray, List.set_cons_zero, List.set_cons_succ]
        refine AnyH.take (i := 1) (d := some 39) (v := ?_) (by kernel_rfl) rfl rfl HF (fun _ _ _ h => h) (.inl ⟨by rfl, ?_⟩) (by first | assumption | rfl) ?_
        rotate_left
        · intro w hS; try subst hS
          go_simp; try with_reducible rfl
        try simp only [Act.put, List.setIfInBounds_toArray, List.set_cons_zero, List.set_cons_succ]
        refine AnyH.take (i := 2) (d := some 40) (v := ?_) (by kernel_rfl) rfl rfl HF (fun _ _ _ h => h) (.inl ⟨by rfl, ?_⟩) (by first | assumption | rfl) ?_
        rotate_left
        · intro w hS; try subst hS
          go_simp; try with_reducible rfl
        try simp only [Act.put, List.setIfInBounds_toArray, List.set_cons_zero, List.set_cons_succ]
        refine AnyH.take (i := 3) (d := some 41) (v := ?_) (by kernel_rfl) rfl rfl HF (fun _ _ _ h => h) (.inl ⟨by rfl, ?_⟩) (by first | assumption | rfl) ?_
        rotate_left
        · intro w hS; try subst hS
          go_simp; try with_reducible rfl
        try simp only [Act.put, List.setIfInBounds_toArray, List.set_cons_zero, List.set_cons_succ]
        refine AnyH.take (i := 4) (d := some 42) (v := ?_) (by kernel_rfl) rfl rfl HF (fun _ _ _ h => h) (.inl ⟨by rfl, ?_⟩) (by first | assumption | rfl) ?_
        rotate_left
        · intro w hS; try subst hS
          go_simp; try with_reducible rfl
        try simp only [Act.put, List.setIfInBounds_toArray, List.set_cons_zero, List.set_cons_succ]
        refine AnyH.take (i := 5) (d := some 43) (v := ?_) (by kernel_rfl) rfl rfl HF (fun _ _ _ h => h) (.inl ⟨by rfl, ?_⟩) (by first | assumption | rfl) ?_
        rotate_left
        · intro w hS; try subst hS
          go_simp; try with_reducible rfl
        try simp only [Act.put, List.setIfInBounds_toArray, List.set_cons_zero, List.set_cons_succ]
        refine AnyH.take (i := 6) (d := some 44) (v := ?_) (by kernel_rfl) rfl rfl HF (fun _ _ _ h => h) (.inl ⟨by rfl, ?_⟩) (by first | assumption | rfl) ?_
        rotate_left
        · intro w hS; try subst hS
          go_simp; try with_reducible rfl
        try simp only [Act.put, List.setIfInBounds_toArray, List.set_cons_zero, List.set_cons_succ]
        refine AnyH.take (i := 7) (d := some 45) (v := ?_) (by kernel_rfl) rfl rfl HF (fun _ _ _ h => h) (.inl ⟨by rfl, ?_⟩) (by first | assumption | rfl) ?_
        rotate_left
        · intro w hS; try subst hS
          go_simp; try with_reducible rfl
        try simp only [Act.put, List.setIfInBounds_toArray, List.set_cons_zero, List.set_cons_succ]
        refine AnyH.take (i := 8) (d := some 12) (v := ?_) (by kernel_rfl) rfl rfl HF (fun _ _ _ h => h) (.inl ⟨by rfl, ?_⟩) (by first | assumption | rfl) ?_
        rotate_left
        · intro w hS; try subst hS
          go_simp; try with_reducible rfl
        try simp only [Act.put, List.setIfInBounds_toArray, List.set_cons_zero, List.set_cons_succ]
        refine AnyH.done (by kernel_rfl) ?_
        have KRd := Lib.hid (show RuC wd gr r from below_block SD KR7.out); have KWd := Lib.hid (show WtC wd gw ul from below_block SD KW.out)
        have HLd := Lib.hid (SlA.below HL7.out SD); have HBd := Lib.hid (Below.after HB7.out SD)
        have HZd : Hid (W.heap.size ≤ wd.heap.size) := Lib.hid HBd.out.size
        clear c0 c2 c3 c4 SD
        by_cases hm0 : 0 < more
        · have hm1 : (more : Int) > 0 := by omega
          have hm2 : (0 : Int) < (more : Int) := by omega
          have HNX : Hid (StkC E (L ++ [(⟨r.left, more⟩ : Cp)]) ∧ (0 < r.left ∧ r.left ≤ E.length ∧ f2 < (txt E r.left).length ∧ (txt E r.left).drop f2 ++ dn E (L ++ [(⟨r.left, more⟩ : Cp)]) = t0) ∧ (L ++ [(⟨r.left, more⟩ : Cp)]).length + 1 + 3 * r.left ≤ 3 * E.length + 3) := Lib.hid (by
            have h1 := HI.out; have h2 := HLL.out; have h3 := HLN.out; have h4 := HN.out
            refine ⟨HK.out.push ⟨h2.1, by dsimp only; omega, hm0, hmm⟩ (by dsimp only; omega), ⟨h2.1, by omega, HML.out, ?_⟩, by rw [List.length_append, List.length_singleton]; omega⟩
            rw [dn_snoc, ← HD.out, HRD.out, List.append_assoc])
          have HAPP : Hid ((L.length + 1) * 16 ≤ 140737488355328) := Lib.hid (by have h1 := HLN.out; have h2 := HN.out; omega)
          obtain ⟨-, -, l2, -, -⟩ := KRd.out.cells
          clear hm0 hmm
          go_wp2_with (
            at_builtin
            refine wp_app1G (w0 := wd) (enc := encC) (v := .slice ta n tc) elemC encC_len rfl _ _ rfl rfl HLd.out (⟨r.left, more⟩ : Cp) rfl rfl (encC_one _) HAPP.out HZd.out ?_
            intro v8 w8 hS8 hg8 hb8
            have hno : ∀ (k : Nat) (cs : Array Value) (t : TypeId) (fz : Nat × Nat), wd.heap[k]? = some (.cells cs t fz) → t ≠ 107 → w8.heap[k]? = some (.cells cs t fz) := fun k cs t fz hk ht => by
              refine (hg8.block k (by rw [World.size_alloc]; have := (Array.getElem?_eq_some_iff.1 hk).1; omega) ?_).trans (below_block ((Below.refl _ wd).alloc (Nat.le_refl _) _) hk)
              intro e
              have h1 := HLd.out
              rcases h1.2 with ⟨hv, _⟩ | ⟨g, cap, cur, hv, _, hgb, _⟩
              · rw [hv] at e; simp [Value.ownBlock] at e
              · rw [hv] at e
                obtain rfl : k = g := by simpa [Value.ownBlock] using e
                rw [hk] at hgb; simp at hgb; exact ht hgb.2.1
            have HX1 := Lib.hid hS8
            have HX2 := Lib.hid (HBd.out.trans hb8)
            have KR8 := Lib.hid (show RuC w8 gr r from hno _ _ _ _ KRd.out (by decide)); have KW8 := Lib.hid (show WtC w8 gw ul from hno _ _ _ _ KWd.out (by decide))
            clear hS8 hg8 hb8 hno)
          clear l2
          have c0 : ∀ w, Below w8.heap.size w8 w → w.cell? ⟨gw, 0, none⟩ = some (.int .i64 ul.len) := fun w hw => (WtC.cells (below_block hw KW8.out)).1
          have c2 : ∀ w, Below w8.heap.size w8 w → w.cell? ⟨gr, 2, none⟩ = some (.int .i64 r.left) := fun w hw => (RuC.cells (below_block hw KR8.out)).2.2.1
          refine wp_region_anyH (Below w8.heap.size w8) (by kernel_rfl) ?_
          obtain ⟨we, hwe⟩ : ∃ w, w8.drew = w := ⟨_, rfl⟩
          have SE : Below w8.heap.size w8 we := by rw [← hwe]; exact (Below.refl _ _).drew
          rw [hwe]
          clear hwe
          refine AnyH.take (i := 0) (d := some 55) (v := ?_) (by kernel_rfl) rfl rfl HF (fun _ _ _ h => h) (.inl ⟨by rfl, ?_⟩) (by first | assumption | rfl) ?_
          rotate_left
          · intro w hS; try subst hS
            go_simp; try with_reducible rfl
          try simp only [Act.put, List.setIfInBounds_toArray, List.set_cons_zero, List.set_cons_succ]
          refine AnyH.take (i := 1) (d := some 56) (v := ?_) (by kernel_rfl) rfl rfl HF (fun _ _ _ h => h) (.inl ⟨by rfl, ?_⟩) (by first | assumption | rfl) ?_
          rotate_left
          · intro w hS; try subst hS
            go_simp; try with_reducible rfl
          try simp only [Act.put, List.setIfInBounds_toArray, List.set_cons_zero, List.set_cons_succ]
          refine AnyH.take (i := 2) (d := some 57) (v := ?_) (by kernel_rfl) rfl rfl HF (fun _ _ _ h => h) (.inl ⟨by rfl, ?_⟩) (by first | assumption | rfl) ?_
          rotate_left
          · intro w hS; try subst hS
            go_simp; try with_reducible rfl
          try simp only [Act.put, List.setIfInBounds_toArray, List.set_cons_zero, List.set_cons_succ]
          refine AnyH.take (i := 3) (d := some 58) (v := ?_) (by kernel_rfl) rfl rfl HF (fun _ _ _ h => h) (.inl ⟨by rfl, ?_⟩) (by first | assumption | rfl) ?_
          rotate_left
          · intro w hS; try subst hS
            go_simp; try with_reducible rfl
          try simp only [Act.put, List.setIfInBounds_toArray, List.set_cons_zero, List.set_cons_succ]
          refine AnyH.take (i := 4) (d := some 59) (v := ?_) (by kernel_rfl) rfl rfl HF (fun _ _ _ h => h) (.inl ⟨by rfl, ?_⟩) (by first | assumption | rfl) ?_
          rotate_left
          · intro w hS; try subst hS
            go_simp; try with_reducible rfl
          try simp only [Act.put, List.setIfInBounds_toArray, List.set_cons_zero, List.set_cons_succ]
          refine AnyH.take (i := 5) (d := some 60) (v := ?_) (by kernel_rfl) rfl rfl HF (fun _ _ _ h => h) (.inl ⟨by rfl, ?_⟩) (by first | assumption | rfl) ?_
          rotate_left
          · intro w hS; try subst hS
            go_simp; try with_reducible rfl
          try simp only [Act.put, List.setIfInBounds_toArray, List.set_cons_zero, List.set_cons_succ]
          refine AnyH.take (i := 6) (d := some 1) (v := ?_) (by kernel_rfl) rfl rfl HF (fun _ _ _ h => h) (.inl ⟨by rfl, ?_⟩) (by first | assumption | rfl) ?_
          rotate_left
          · intro w hS; try subst hS
            go_simp; try with_reducible rfl
          try simp only [Act.put, List.setIfInBounds_toArray, List.set_cons_zero, List.set_cons_succ]
          refine AnyH.take (i := 7) (d := some 2) (v := ?_) (by kernel_rfl) rfl rfl HF (fun _ _ _ h => h) (.inl ⟨by rfl, ?_⟩) (by first | assumption | rfl) ?_
          rotate_left
          · intro w hS; try subst hS
            go_simp; try with_reducible rfl
          try simp only [Act.put, List.setIfInBounds_toArray, List.set_cons_zero, List.set_cons_succ]
          refine AnyH.done (by kernel_rfl) ?_
          have HY1 := Lib.hid (SlA.below HX1.out SE); have HY2 := Lib.hid (HX2.out.trans (SE.mono HX2.out.size))
          clear c0 c2 SE hq1 hq2 hqw hmw htw hsw
          go_wp2_with fail
          go_roundw
          case rel => exact ⟨r.left, f2, L ++ [(⟨r.left, more⟩ : Cp)], rfl, rfl, HY1.out, HNX.out.1, HNX.out.2.1, HNX.out.2.2, HY2.out⟩
          case measure => have := HLL.out; first | (simp [intOf]; omega) | simp [intOf]
        · have hm1 : ¬ (more : Int) > 0 := by omega
          have hm2 : ¬ (0 : Int) < (more : Int) := by omega
          have HNX : Hid (0 < r.left ∧ r.left ≤ E.length ∧ f2 < (txt E r.left).length ∧ (txt E r.left).drop f2 ++ dn E L = t0) := Lib.hid (by
            have h1 := HI.out; have h2 := HLL.out
            refine ⟨h2.1, by omega, HML.out, ?_⟩
            rw [← HD.out, HRD.out, show more = 0 by omega]
            show _ = (_ ++ []) ++ _
            rw [List.append_nil])
          clear hm0 hmm
          go_wp2_with fail
          have c0 : ∀ w, Below wd.heap.size wd w → w.cell? ⟨gw, 0, none⟩ = some (.int .i64 ul.len) := fun w hw => (WtC.cells (below_block hw KWd.out)).1
          have c2 : ∀ w, Below wd.heap.size wd w → w.cell? ⟨gr, 2, none⟩ = some (.int .i64 r.left) := fun w hw => (RuC.cells (below_block hw KRd.out)).2.2.1
          refine wp_region_anyH (Below wd.heap.size wd) (by kernel_rfl) ?_
          obtain ⟨we, hwe⟩ : ∃ w, wd.drew = w := ⟨_, rfl⟩
          have SE : Below wd.heap.size wd we := by rw [← hwe]; exact (Below.refl _ _).drew
          rw [hwe]
          clear hwe
          refine AnyH.take (i := 0) (d := some 55) (v := ?_) (by kernel_rfl) rfl rfl HF (fun _ _ _ h => h) (.inl ⟨by rfl, ?_⟩) (by first | assumption | rfl) ?_
          rotate_left
          · intro w hS; try subst hS
            go_simp; try with_reducible rfl
          try simp only [Act.put, List.setIfInBounds_toArray, List.set_cons_zero, List.set_cons_succ]
          refine AnyH.take (i := 1) (d := some 56) (v := ?_) (by kernel_rfl) rfl rfl HF (fun _ _ _ h => h) (.inl ⟨by rfl, ?_⟩) (by first | assumption | rfl) ?_
          rotate_left
          · intro w hS; try subst hS
            go_simp; try with_reducible rfl
          try simp only [Act.put, List.setIfInBounds_toArray, List.set_cons_zero, List.set_cons_succ]
          refine AnyH.take (i := 2) (d := some 57) (v := ?_) (by kernel_rfl) rfl rfl HF (fun _ _ _ h => h) (.inl ⟨by rfl, ?_⟩) (by first | assumption | rfl) ?_
          rotate_left
          · intro w hS; try subst hS
            go_simp; try with_reducible rfl
          try simp only [Act.put, List.setIfInBounds_toArray, List.set_cons_zero, List.set_cons_succ]
          refine AnyH.take (i := 3) (d := some 58) (v := ?_) (by kernel_rfl) rfl rfl HF (fun _ _ _ h => h) (.inl ⟨by rfl, ?_⟩) (by first | assumption | rfl) ?_
          rotate_left
          · intro w hS; try subst hS
            go_simp; try with_reducible rfl
          try simp only [Act.put, List.setIfInBounds_toArray, List.set_cons_zero, List.set_cons_succ]
          refine AnyH.take (i := 4) (d := some 59) (v := ?_) (by kernel_rfl) rfl rfl HF (fun _ _ _ h => h) (.inl ⟨by rfl, ?_⟩) (by first | assumption | rfl) ?_
          rotate_left
          · intro w hS; try subst hS
            go_simp; try with_reducible rfl
          try simp only [Act.put, List.setIfInBounds_toArray, List.set_cons_zero, List.set_cons_succ]
          refine AnyH.take (i := 5) (d := some 60) (v := ?_) (by kernel_rfl) rfl rfl HF (fun _ _ _ h => h) (.inl ⟨by rfl, ?_⟩) (by first | assumption | rfl) ?_
          rotate_left
          · intro w hS; try subst hS
            go_simp; try with_reducible rfl
          try simp only [Act.put, List.setIfInBounds_toArray, List.set_cons_zero, List.set_cons_succ]
          refine AnyH.take (i := 6) (d := some 1) (v := ?_) (by kernel_rfl) rfl rfl HF (fun _ _ _ h => h) (.inl ⟨by rfl, ?_⟩) (by first | assumption | rfl) ?_
          rotate_left
          · intro w hS; try subst hS
            go_simp; try with_reducible rfl
          try simp only [Act.put, List.setIfInBounds_toArray, List.set_cons_zero, List.set_cons_succ]
          refine AnyH.take (i := 7) (d := some 2) (v := ?_) (by kernel_rfl) rfl rfl HF (fun _ _ _ h => h) (.inl ⟨by rfl, ?_⟩) (by first | assumption | rfl) ?_
          rotate_left
          · intro w hS; try subst hS
            go_simp; try with_reducible rfl
          try simp only [Act.put, List.setIfInBounds_toArray, List.set_cons_zero, List.set_cons_succ]
          refine AnyH.done (by kernel_rfl) ?_
          have HY1 := Lib.hid (SlA.below HLd.out SE); have HY2 := Lib.hid (Below.after HBd.out SE)
          clear c0 c2 SE hq1 hq2 hqw hmw htw hsw
          go_wp2_with fail
          go_roundw
          case rel => exact ⟨r.left, f2, L, rfl, rfl, HY1.out, HK.out, HNX.out, by have := HLN.out; have := HN.out; have := HLL.out; omega, HY2.out⟩
          case measure => have := HLL.out; first | (simp [intOf]; omega) | simp [intOf]
    · have hf1 : ¬ (f : Int) > 0 := by omega
      have hf2 : ¬ (0 : Int) < (f : Int) := by omega
      have HNX : Hid (StkC E (L ++ [(⟨i, 1⟩ : Cp)]) ∧ dn E (L ++ [(⟨i, 1⟩ : Cp)]) = t0) := Lib.hid (by
        have h1 := HI.out; have h3 := HLN.out; have h4 := HN.out
        refine ⟨HK.out.push ⟨h1.1, h1.2, by dsimp only; omega, by dsimp only; omega⟩ (by dsimp only; omega), ?_⟩
        rw [dn_snoc, rep_one, ← HD.out, show f = 0 by omega, List.drop_zero])
      have HAPP : Hid ((L.length + 1) * 16 ≤ 140737488355328) := Lib.hid (by have h1 := HLN.out; have h2 := HN.out; omega)
      have HZ : Hid (W.heap.size ≤ wr.heap.size) := Lib.hid HB.out.size
      clear hf0 hf hlen h0 hi
      go_wp2_with (
        at_builtin
        refine wp_app1G (w0 := wr) (enc := encC) (v := .slice ta n tc) elemC encC_len rfl _ _ rfl rfl HL.out (⟨i, 1⟩ : Cp) rfl rfl (encC_one _) HAPP.out HZ.out ?_
        intro v8 w8 hS8 hg8 hb8
        have HX1 := Lib.hid hS8
        have HX2 := Lib.hid (HB.out.trans hb8)
        clear hS8 hg8 hb8)
      exact bodyPost_ret (v := v8) (by simp [results, Try.results46, go_sem]) rfl ⟨_, rfl, _, HX1.out, HNX.out.1, HNX.out.2, HX2.out⟩
end
end M
end Go.Proofs.Ytpjcfepngjpfbaa
