/- The contracts of cut, drop, Drop, Min and Max, at each instance. -/
import Derived.Test.YtlfodhejpbjfcaaMethsd
import Derived.Test.YtlfodhejpbjfcaaPm
set_option linter.unusedVariables false
set_option linter.unusedSimpArgs false
namespace Go.Proofs.Ytlfodhejpbjfcaa
open Go.RowKit
namespace sd

set_option maxRecDepth 100000 in
set_option maxHeartbeats 1600000 in
theorem cut_any : ∀ (l : Tr ByteArray Int) (k : ByteArray) (v : Int) (r : Tr ByteArray Int) {W : World} {p : Option Addr}, Is W p (.node l k v r) → l.sz + r.sz ≤ 900000 →
    Calls Try.prog 100 #[.pointer p] W fun e w' => ∃ q q' fl fr, e = .returned (.tuple #[.pointer q, .pointer q']) ∧ Is w' q (.node fl (cutF l k v r).1.1 (cutF l k v r).1.2 fr) ∧ Is w' q' (cutF l k v r).2 ∧ Below W.heap.size W w' := by
  intro l
  induction l with
  | nil =>
    intro k v r W p h _
    have HH := Lib.hid h
    obtain ⟨b, pl, pr, rfl, hb, hl, hr⟩ := h
    obtain rfl : pl = none := hl
    obtain ⟨-, -, c2, c3, -, -⟩ := node_cells hb
    have HR := Lib.hid hr
    clear hb hr
    go_enter Try.func100, Try.ntmps100
    go_wp2_with fail
    go_quiet (fail)
    go_wp2_with fail
    go_ret2
    exact ⟨_, _, .nil, r, rfl, IsT.below (Below.drewN' _ W _) HH.out, IsT.below (Below.drewN' _ W _) HR.out, Below.drewN' _ _ _⟩
  | node l' k' v' r' ih _ =>
    intro k v r W p h hs
    obtain ⟨b, pl, pr, rfl, hb, hl, hr⟩ := h
    have hl' := hl
    obtain ⟨b2, pl2, pr2, rfl, -, -, -⟩ := hl'
    obtain ⟨c0, c1, c2, c3, -, -⟩ := node_cells hb
    have n1 := l'.sz_nonneg; have n2 := r'.sz_nonneg; have n3 := r.sz_nonneg
    simp only [Tr.sz] at hs
    have H1 := Lib.hid (ih k' v' r' hl (by omega))
    have hz := cutF_sz l' k' v' r'
    have S1 := Lib.hid (show (cutF l' k' v' r').2.sz + r.sz ≤ 999990 by omega)
    have HR := Lib.hid hr
    have d0 := cell_at c0; have d1 := cell_at c1; have d3 := cell_at c3
    have D0 := Lib.hid d0; have D1 := Lib.hid d1; have D3 := Lib.hid d3
    clear hb hl hr ih c0 c1 c3 d0 d1 d3 hs hz n1 n2 n3
    show Calls _ _ _ W fun e w' => ∃ q q' fl fr, e = .returned (.tuple #[.pointer q, .pointer q']) ∧ Is w' q (.node fl (cutF l' k' v' r').1.1 (cutF l' k' v' r').1.2 fr) ∧ Is w' q' (levelF (cutF l' k' v' r').2 k v r) ∧ Below W.heap.size W w'
    generalize cutF l' k' v' r' = c at *
    go_enter Try.func100, Try.ntmps100
    go_wp2_with fail
    refine H1.out.mono ?_; rintro e w1 ⟨q, q', fl, fr, rfl, hq, hq', hB⟩
    have e0 := fun w (hw : Below w1.heap.size w1 w) => D0.out w (Below.step hB hw)
    have e1 := fun w (hw : Below w1.heap.size w1 w) => D1.out w (Below.step hB hw)
    have e3 := fun w (hw : Below w1.heap.size w1 w) => D3.out w (Below.step hB hw)
    have HQ := Lib.hid hq; have HQ' := Lib.hid hq'; have HB := Lib.hid hB; have HR1 := Lib.hid (HR.out.below hB)
    have B0 : Below w1.heap.size w1 w1 := Below.refl _ _
    clear hq hq' hB c2
    go_wp2_with fail
    go_region_held3 (fun w' => Below w1.heap.size w1 w') (first | assumption | exact Below.drew (by assumption)) (
      (go_at_call 95; with_reducible refine (level_any k v (IsT.below (by assumption) HQ'.out) (IsT.below (by assumption) HR1.out) S1.out).mono ?_; rintro e w' ⟨p2, rfl, hT2, hB2⟩; have hC2 : Below w1.heap.size w1 w' := Below.step (by assumption) hB2))
    go_wp2_with fail
    go_ret2
    exact ⟨_, _, fl, fr, rfl, IsT.below hC2 HQ.out, hT2, Below.step HB.out hC2⟩

set_option maxRecDepth 100000 in
set_option maxHeartbeats 1600000 in
theorem drop_any (k : ByteArray) : ∀ (T : Tr ByteArray Int) {W : World} {p : Option Addr}, Is W p T → T.sz ≤ 900000 →
    Calls Try.prog 88 #[.pointer p, Value.string k] W fun e w' => ∃ p', e = .returned (.pointer p') ∧ Is w' p' (dropF lt k T) ∧ Below W.heap.size W w' := by
  intro T
  induction T with
  | nil =>
    intro W p h _
    obtain rfl : p = none := h
    go_enter Try.func88, Try.ntmps88
    go_wp2_with fail
    go_ret
    exact ⟨_, rfl, rfl, Below.refl _ _⟩
  | node l nk nv r ihl ihr =>
    intro W p h hs
    obtain ⟨b, pl, pr, rfl, hb, hl, hr⟩ := h
    obtain ⟨c0, c1, c2, c3, -, -⟩ := node_cells hb
    have d0 := cell_at c0; have d1 := cell_at c1; have d2 := cell_at c2; have d3 := cell_at c3
    have HL := Lib.hid hl; have HR := Lib.hid hr
    have n1 := l.sz_nonneg; have n2 := r.sz_nonneg
    simp only [Tr.sz] at hs
    have B0 : Below W.heap.size W W := Below.refl _ _
    by_cases h1 : lt k nk = true
    · have e1 : dropF lt k (.node l nk nv r) = levelF (dropF lt k l) nk nv r := dropF_l h1
      rw [e1]
      have hk : Op.bytesLess k.toList nk.toList = true := by simpa [lt] using h1
      have hz := dropF_sz lt k l
      have S1 := Lib.hid (show (dropF lt k l).sz + r.sz ≤ 999990 by omega)
      have IH := Lib.hid (fun (w : World) (q : Option Addr) (hq : Is w q l) => ihl hq (by omega))
      clear ihl ihr h1 e1 hs n1 n2 hz c1 c2 c3 hb hl hr
      generalize dropF lt k l = T1 at *
      go_enter Try.func88, Try.ntmps88
      go_wp2_with fail
      go_region_held3 (fun w' => Below W.heap.size W w') (first | assumption | exact Below.drew (by assumption)) (first
        | (go_at_call 88; with_reducible refine (IH.out _ _ (IsT.below (by assumption) HL.out)).mono ?_; rintro e w' ⟨p1, rfl, hT1, hB1⟩; have hC1 : Below W.heap.size W w' := Below.step (by assumption) hB1)
        | (go_at_call 95; with_reducible refine (level_any nk nv hT1 (IsT.below (by assumption) HR.out) S1.out).mono ?_; rintro e w' ⟨p2, rfl, hT2, hB2⟩; have hC2 : Below W.heap.size W w' := Below.step (by assumption) hB2))
      go_wp2_with fail
      go_ret
      exact ⟨_, rfl, hT2, hC2⟩
    · have hk : Op.bytesLess k.toList nk.toList = false := by simpa [lt] using h1
      by_cases h2 : lt nk k = true
      · have e1 : dropF lt k (.node l nk nv r) = levelF l nk nv (dropF lt k r) := dropF_r h1 h2
        rw [e1]
        have hk2 : Op.bytesLess nk.toList k.toList = true := by simpa [lt] using h2
        have hz := dropF_sz lt k r
        have S1 := Lib.hid (show l.sz + (dropF lt k r).sz ≤ 999990 by omega)
        have IH := Lib.hid (fun (w : World) (q : Option Addr) (hq : Is w q r) => ihr hq (by omega))
        clear ihl ihr h1 h2 e1 hs n1 n2 hz c1 c2 c3 hb hl hr
        generalize dropF lt k r = T1 at *
        go_enter Try.func88, Try.ntmps88
        go_wp2_with fail
        go_region_held3 (fun w' => Below W.heap.size W w') (first | assumption | exact Below.drew (by assumption)) (first
          | (go_at_call 88; with_reducible refine (IH.out _ _ (IsT.below (by assumption) HR.out)).mono ?_; rintro e w' ⟨p1, rfl, hT1, hB1⟩; have hC1 : Below W.heap.size W w' := Below.step (by assumption) hB1)
          | (go_at_call 95; with_reducible refine (level_any nk nv (IsT.below (by assumption) HL.out) hT1 S1.out).mono ?_; rintro e w' ⟨p2, rfl, hT2, hB2⟩; have hC2 : Below W.heap.size W w' := Below.step (by assumption) hB2))
        go_wp2_with fail
        go_ret
        exact ⟨_, rfl, hT2, hC2⟩
      · have hk2 : Op.bytesLess nk.toList k.toList = false := by simpa [lt] using h2
        cases r with
        | nil =>
          have e1 : dropF lt k (.node l nk nv .nil) = l := dropF_0 h1 h2
          rw [e1]
          obtain rfl : pr = none := hr
          clear ihl ihr h1 h2 e1 hs n1 n2 d0 d1 d2 d3 hb hl c1
          go_enter Try.func88, Try.ntmps88
          go_wp2_with fail
          go_ret
          exact ⟨_, rfl, HL.out, B0⟩
        | node rl rk rv rr =>
          have e1 : dropF lt k (.node l nk nv (.node rl rk rv rr)) = levelF l (cutF rl rk rv rr).1.1 (cutF rl rk rv rr).1.2 (cutF rl rk rv rr).2 := dropF_n h1 h2
          rw [e1]
          have hr' := hr
          obtain ⟨b2, pl2, pr2, rfl, -, -, -⟩ := hr'
          have hz := cutF_sz rl rk rv rr
          have n3 := rl.sz_nonneg; have n4 := rr.sz_nonneg
          simp only [Tr.sz] at hs n2
          have H1 := Lib.hid (cut_any rl rk rv rr hr (by omega))
          have S1 := Lib.hid (show l.sz + (cutF rl rk rv rr).2.sz ≤ 999990 by omega)
          have D2 := Lib.hid d2
          clear ihl ihr h1 h2 e1 hs n1 n2 n3 n4 hz d0 d1 d2 d3 hb hl hr c1 HR
          generalize cutF rl rk rv rr = c at *
          go_enter Try.func88, Try.ntmps88
          go_wp2_with fail
          refine H1.out.mono ?_; rintro e w1 ⟨q, q', fl, fr, rfl, hq, hq', hB⟩
          have HQ' := Lib.hid hq'; have HB := Lib.hid hB; have HL1 := Lib.hid (HL.out.below hB)
          obtain ⟨b3, pl3, pr3, rfl, hb3, -, -⟩ := hq
          obtain ⟨f0, f1, -, -, -, -⟩ := node_cells hb3
          have g0 := cell_at f0; have g1 := cell_at f1
          have g2 := fun w (hw : Below w1.heap.size w1 w) => D2.out w (Below.step hB hw)
          have B1 : Below w1.heap.size w1 w1 := Below.refl _ _
          clear hq' hB hb3 f0 f1 c0 c2 c3 B0
          go_wp2_with fail
          go_region_held3 (fun w' => Below w1.heap.size w1 w') (first | assumption | exact Below.drew (by assumption)) (
            (go_at_call 95; with_reducible refine (level_any _ _ (IsT.below (by assumption) HL1.out) (IsT.below (by assumption) HQ'.out) S1.out).mono ?_; rintro e w' ⟨p2, rfl, hT2, hB2⟩; have hC2 : Below w1.heap.size w1 w' := Below.step (by assumption) hB2))
          go_wp2_with fail
          go_ret
          exact ⟨_, rfl, hT2, Below.step HB.out hC2⟩

set_option maxHeartbeats 1600000 in
theorem Drop_any (k : ByteArray) {W : World} {p : Option Addr} {T : Tr ByteArray Int} (h : Is W p T) (hs : T.sz ≤ 900000) :
    Calls Try.prog 63 #[.agg #[.pointer p], Value.string k] W fun e w' => ∃ q, e = .returned (.agg #[.pointer q]) ∧ Is w' q (dropM lt k T) ∧ Below W.heap.size W w' := by
  have hb : Below W.heap.size W ((W.alloc (.cells #[.pointer p] 110)).alloc (.cells #[.pointer none] 110)) := ((Below.refl _ W).alloc (Nat.le_refl _) _).alloc (by simp) _
  have hT := h.below hb
  have H1 := Lib.hid (find_any k hT)
  have H2 := Lib.hid (drop_any k T hT hs)
  have HT := Lib.hid hT
  have HB := Lib.hid hb
  have hc : ((W.alloc (.cells #[.pointer p] 110)).alloc (.cells #[.pointer none] 110)).heap[W.heap.size + 1]? = some (.cells #[.pointer none] 110 (0, 0)) := by
    simpa using heap_new (W.alloc (.cells #[.pointer p] 110)) (.cells #[.pointer none] 110)
  have HC := Lib.hid hc
  have HW := Lib.hid h
  clear h hs hb hT hc
  go_enter Try.func63, Try.ntmps63
  go_wp2_with fail
  refine H1.out.mono ?_; rintro e w' ⟨q, rfl, hq, rfl⟩
  cases hf : findF lt k T with
  | nil =>
    rw [hf] at hq
    obtain rfl : q = none := hq
    have e1 : dropM lt k T = T := by unfold dropM; rw [hf]
    have E := Lib.hid e1
    have hb2 : Below W.heap.size W ((W.alloc (.cells #[.pointer p] 110)).alloc (.cells #[.pointer p] 110)) := ((Below.refl _ W).alloc (Nat.le_refl _) _).alloc (by simp) _
    have HK := Lib.hid (HW.out.below hb2); have HB2 := Lib.hid hb2
    clear hf e1 hb2
    go_wp2_with fail
    refine bodyPost_ret (v := .agg #[.pointer p]) (by simp [results, Try.results63, go_sem]) rfl ⟨p, rfl, ?_, ?_⟩
    · rw [E.out]; first | exact HK.out | simpa using HK.out
    · first | exact HB2.out | simpa using HB2.out
  | node fl fk fv fr =>
    rw [hf] at hq
    obtain ⟨b, pl, pr, rfl, -, -, -⟩ := hq
    have e1 : dropM lt k T = dropF lt k T := by unfold dropM; rw [hf]
    have E := Lib.hid e1
    clear hf e1
    generalize dropF lt k T = T' at *
    go_wp2_with fail
    refine H2.out.mono ?_; rintro e w1 ⟨q, rfl, hq, hB⟩
    have hc := box_below hB HC.out
    have hc1 := box_cell hc; have hc2 := box_frozen hc
    have hk2 := hq.keep (KeepT.setCell (nt := 189) (a := ⟨W.heap.size + 1, 0, none⟩) (v := .pointer q) hc (by decide))
    have hB2 : Below W.heap.size W (w1.setCell ⟨W.heap.size + 1, 0, none⟩ (.pointer q)) := (Below.step HB.out hB).setCell (by simp) _
    have HQ := Lib.hid hk2; have HB3 := Lib.hid hB2
    clear hk2 hq hB hc hB2
    go_wp2_with fail
    refine bodyPost_ret (v := .agg #[.pointer q]) (by simp [results, Try.results63, go_sem, hc1]) rfl ⟨q, rfl, by rw [E.out]; exact HQ.out, HB3.out⟩

end sd
end Go.Proofs.Ytlfodhejpbjfcaa
