/- law17's some: nothing is yielded. -/
import Derived.Test.YtpjcfepngjpfbaaNoIt
import Derived.Test.YtpjcfepngjpfbaaLtk
set_option linter.unusedVariables false
set_option linter.unusedSimpArgs false
namespace Go.Proofs.Ytpjcfepngjpfbaa
open Go.RowKit Go.Lib
namespace M
attribute [local go_sem] Oper.semAt_some
set_option maxRecDepth 100000 in
set_option maxHeartbeats 8000000 in
theorem some_gen {W : World} {p : Option Addr} {id at_ n : Int} {k : Nat}
    (hL : ∀ w, Below W.heap.size W w → Calls Try.prog 16 #[.pointer p, .int .i64 id, .int .i64 at_] w fun e w' => ∃ v, e = .returned v ∧ NoSeq v ∧ Below w.heap.size w w')
    (hB : ∀ w, Below W.heap.size W w → Calls Try.prog 26 #[.pointer p, .int .i64 id, .int .i64 at_] w fun e w' => ∃ v, e = .returned v ∧ NoSeq v ∧ Below w.heap.size w w')
    (hP : ∀ w, Below W.heap.size W w → Calls Try.prog 20 #[.pointer p, .int .i64 id, .int .i64 at_, .int .i64 n] w fun e w' => ∃ v, e = .returned v ∧ NoSeq v ∧ Below w.heap.size w w')
    (hq : p = none ∨ ∃ B, p = some ⟨B, 0, none⟩ ∧ ∀ w, Below W.heap.size W w → Calls Try.prog 21 #[.pointer p] w fun e w' => e = .returned (.int .i64 k) ∧ w' = w)
    (hR : (p = none ∨ id < 0 ∨ (k : Int) < id) → ∀ w, Below W.heap.size W w → Calls Try.prog 22 #[.pointer p, .int .i64 id] w fun e w' => ∃ v, e = .returned v ∧ NoSeq v ∧ Below w.heap.size w w') :
    Calls Try.prog 35 #[.pointer p, .int .i64 id, .int .i64 at_, .int .i64 n] W fun e w' => e = .returned (.bool false) ∧ Below W.heap.size W w' := by
  have HF : ∀ f, Fence.wide.fn f := fun _ => trivial
  obtain ⟨W0, hW0⟩ : ∃ w, W.alloc (.cells #[.bool false] 4) = w := ⟨_, rfl⟩
  have n8 : W0.heap[W.heap.size]? = some (.cells #[.bool false] 4 (0, 0)) := by rw [← hW0]; exact heap_new' _ _
  have b0 : Below W.heap.size W W0 := by rw [← hW0]; exact (Below.refl _ W).alloc (Nat.le_refl _) _
  have HL := Lib.hid (hL _ b0); have HB := Lib.hid hB; have HP := Lib.hid hP; have HR := Lib.hid hR; have HQ := Lib.hid hq
  have HN8 := Lib.hid n8; have HB0 := Lib.hid b0
  clear hL hB hP hR hq n8 b0
  refine (callsIn_wide (n := 9)).1 ?_
  refine callsIn_of_wp_marks Try.func35 rfl trivial ?_ rfl
  simp only [Try.ntmps35, List.size_toArray, List.length_cons, List.length_nil, Nat.reduceAdd, Nat.reduceSub, Array.replicate_succ, Array.replicate_zero, List.push_toArray, List.append_toArray, List.nil_append, List.cons_append]
  gi_wp2_with fail
  first | refine callsIn_wide.2 (HL.out.mono ?_) | refine ⟨(fun h => by cases h), callsIn_wide.2 (HL.out.mono ?_)⟩ | refine ⟨trivial, (fun h => by cases h), callsIn_wide.2 (HL.out.mono ?_)⟩
  rintro e w1 ⟨vq, rfl, ⟨gf, rfl, hen, hst⟩, b1⟩
  have HEN := Lib.hid hen; have HST := Lib.hid hst
  have HB1 := Lib.hid (Below.after HB0.out b1)
  have HM1 : Hid (Marks w1.heap.size w1 []) := Lib.hid (Marks.nil _ _)
  have HN1 := Lib.hid (below_block b1 HN8.out)
  have HG8 : Hid (W.heap.size < w1.heap.size) := Lib.hid (Array.getElem?_eq_some_iff.1 HN1.out).1
  clear hen hst b1 hW0 HL
  gi_wp2_with fail
  refine wpIn_rangeFunc_T (α := Unit) rfl (by omega) (gf := gf) (lb := #[]) rfl trivial HEN.out (stops_nil (encs := fun _ : Unit => #[.int .i64 0, .int .i64 0]) (Kp := fun _ _ => True) (ts := []) (Nx := fun _ _ => False) (w := w1) 8 (HST.out 8)) (fun _ _ => trivial) (fun _ _ _ _ _ _ _ _ => trivial) (Below.refl _ _) (fun _ => rfl)
    (fun _ Y => Below w1.heap.size w1 Y) (fun _ _ _ => False)
    (fun s A C row hs hg hr => own_below hg hr (Nat.le_refl _) (Nat.le_refl _) hs) (fun c s A C row hs => hs.elim)
    (fun s A C hs h => hs.trans h.below) (fun c s A C hs => hs.elim)
    (Below.refl _ _) (fun l pre x Y Yb K hI hn => hn.elim) ?_ (fun D c pre Y hD hp hx => hx.elim)
  rintro D1 xs Y1 hD1 - h1 hDc
  have HZ1 : Hid (w1.heap.size ≤ Y1.heap.size) := Lib.hid h1.size
  have HM2 : Hid (Marks w1.heap.size Y1 [{ target := .collected D1, args := #[] }]) := Lib.hid ((HM1.out.below h1).cons (fun D' h => by cases h) hD1 hDc)
  have HB2 := Lib.hid (Below.after HB1.out h1)
  have HN2 := Lib.hid (below_block h1 HN1.out)
  have HK := Lib.hid (HB.out _ HB2.out)
  clear h1 hDc hD1 HEN HST HB1 HN1 HM1
  gi_wp2_with fail
  first | refine callsIn_wide.2 (HK.out.mono ?_) | refine ⟨(fun h => by cases h), callsIn_wide.2 (HK.out.mono ?_)⟩ | refine ⟨trivial, (fun h => by cases h), callsIn_wide.2 (HK.out.mono ?_)⟩
  rintro e w3 ⟨vq, rfl, ⟨gf, rfl, hen, hst⟩, b3⟩
  have HEN := Lib.hid hen; have HST := Lib.hid hst
  have HB3 := Lib.hid (Below.after HB2.out b3)
  have HM3 := Lib.hid (HM2.out.below b3)
  have HN3 := Lib.hid (below_block b3 HN2.out)
  have HZ3 : Hid (w1.heap.size ≤ w3.heap.size) := Lib.hid (Nat.le_trans HZ1.out b3.size)
  clear hen hst b3 HK HB2 HM2 HN2
  gi_wp2_with fail
  refine wpIn_rangeFunc_T (α := Unit) rfl (by omega) (gf := gf) (lb := #[]) rfl trivial HEN.out (stops_nil (encs := fun _ : Unit => #[.int .i64 0, .int .i64 0]) (Kp := fun _ _ => True) (ts := []) (Nx := fun _ _ => False) (w := w3) 8 (HST.out 8)) (fun _ _ => trivial) (fun _ _ _ _ _ _ _ _ => trivial) (Below.refl _ _) (fun _ => rfl)
    (fun _ Y => Below w3.heap.size w3 Y) (fun _ _ _ => False)
    (fun s A C row hs hg hr => own_below hg hr (Nat.le_refl _) (Nat.le_refl _) hs) (fun c s A C row hs => hs.elim)
    (fun s A C hs h => hs.trans h.below) (fun c s A C hs => hs.elim)
    (Below.refl _ _) (fun l pre x Y Yb K hI hn => hn.elim) ?_ (fun D c pre Y hD hp hx => hx.elim)
  rintro D2 xs Y2 hD2 - h1 hDc
  have HZ4 : Hid (w1.heap.size ≤ Y2.heap.size) := Lib.hid (Nat.le_trans HZ3.out h1.size)
  have HM4 := Lib.hid ((HM3.out.below h1).cons (D := D2) (fun D' h => Nat.lt_of_lt_of_le (HM3.out.lt h) hD2) (Nat.le_trans HZ3.out hD2) hDc)
  have HB4 := Lib.hid (Below.after HB3.out h1)
  have HN4 := Lib.hid (below_block h1 HN3.out)
  have HK := Lib.hid (HP.out _ HB4.out)
  clear h1 hDc hD2 HEN HST HB3 HN3 HM3
  gi_wp2_with fail
  first | refine callsIn_wide.2 (HK.out.mono ?_) | refine ⟨(fun h => by cases h), callsIn_wide.2 (HK.out.mono ?_)⟩ | refine ⟨trivial, (fun h => by cases h), callsIn_wide.2 (HK.out.mono ?_)⟩
  rintro e w5 ⟨vq, rfl, ⟨gf, rfl, hen, hst⟩, b5⟩
  have HEN := Lib.hid hen; have HST := Lib.hid hst
  have HB5 := Lib.hid (Below.after HB4.out b5)
  have HM5 := Lib.hid (HM4.out.below b5)
  have HN5 := Lib.hid (below_block b5 HN4.out)
  have HZ5 : Hid (w1.heap.size ≤ w5.heap.size) := Lib.hid (Nat.le_trans HZ4.out b5.size)
  clear hen hst b5 HK HB4 HM4 HN4
  gi_wp2_with fail
  refine wpIn_rangeFunc_T (α := Unit) rfl (by omega) (gf := gf) (lb := #[]) rfl trivial HEN.out (stops_nil (encs := fun _ : Unit => #[.int .i64 0, .int .i64 0]) (Kp := fun _ _ => True) (ts := []) (Nx := fun _ _ => False) (w := w5) 8 (HST.out 8)) (fun _ _ => trivial) (fun _ _ _ _ _ _ _ _ => trivial) (Below.refl _ _) (fun _ => rfl)
    (fun _ Y => Below w5.heap.size w5 Y) (fun _ _ _ => False)
    (fun s A C row hs hg hr => own_below hg hr (Nat.le_refl _) (Nat.le_refl _) hs) (fun c s A C row hs => hs.elim)
    (fun s A C hs h => hs.trans h.below) (fun c s A C hs => hs.elim)
    (Below.refl _ _) (fun l pre x Y Yb K hI hn => hn.elim) ?_ (fun D c pre Y hD hp hx => hx.elim)
  rintro D3 xs Y3 hD3 - h1 hDc
  have HZ6 : Hid (w1.heap.size ≤ Y3.heap.size) := Lib.hid (Nat.le_trans HZ5.out h1.size)
  have HM6 := Lib.hid ((HM5.out.below h1).cons (D := D3) (fun D' h => Nat.lt_of_lt_of_le (HM5.out.lt h) hD3) (Nat.le_trans HZ5.out hD3) hDc)
  have HB6 := Lib.hid (Below.after HB5.out h1)
  have HN6 := Lib.hid (below_block h1 HN5.out)
  clear h1 hDc hD3 HEN HST HB5 HN5 HM5
  rcases HQ.out with rfl | ⟨B, rfl, hln⟩
  · have HK := Lib.hid (HR.out (.inl rfl) _ HB6.out)
    gi_wp2_with fail
    first | refine callsIn_wide.2 (HK.out.mono ?_) | refine ⟨(fun h => by cases h), callsIn_wide.2 (HK.out.mono ?_)⟩ | refine ⟨trivial, (fun h => by cases h), callsIn_wide.2 (HK.out.mono ?_)⟩
    rintro e w7 ⟨vq, rfl, ⟨gf, rfl, hen, hst⟩, b7⟩
    have HEN := Lib.hid hen; have HST := Lib.hid hst
    have HB7 := Lib.hid (Below.after HB6.out b7)
    have HM7 := Lib.hid (HM6.out.below b7)
    have HN7 := Lib.hid (below_block b7 HN6.out)
    have HZ7 : Hid (w1.heap.size ≤ w7.heap.size) := Lib.hid (Nat.le_trans HZ6.out b7.size)
    clear hen hst b7 HK HB6 HM6 HN6
    gi_wp2_with fail
    refine wpIn_rangeFunc_T (α := Unit) rfl (by omega) (gf := gf) (lb := #[]) rfl trivial HEN.out (stops_nil (encs := fun _ : Unit => #[.int .i64 0]) (Kp := fun _ _ => True) (ts := []) (Nx := fun _ _ => False) (w := w7) 8 (HST.out 8)) (fun _ _ => trivial) (fun _ _ _ _ _ _ _ _ => trivial) (Below.refl _ _) (fun _ => rfl)
      (fun _ Y => Below w7.heap.size w7 Y) (fun _ _ _ => False)
      (fun s A C row hs hg hr => own_below hg hr (Nat.le_refl _) (Nat.le_refl _) hs) (fun c s A C row hs => hs.elim)
      (fun s A C hs h => hs.trans h.below) (fun c s A C hs => hs.elim)
      (Below.refl _ _) (fun l pre x Y Yb K hI hn => hn.elim) ?_ (fun D c pre Y hD hp hx => hx.elim)
    rintro D4 xs Y4 hD4 - h1 hDc
    have HZ8 : Hid (w1.heap.size ≤ Y4.heap.size) := Lib.hid (Nat.le_trans HZ7.out h1.size)
    have HM8 := Lib.hid ((HM7.out.below h1).cons (D := D4) (fun D' h => Nat.lt_of_lt_of_le (HM7.out.lt h) hD4) (Nat.le_trans HZ7.out hD4) hDc)
    have HB8 := Lib.hid (Below.after HB7.out h1)
    have HN8b := Lib.hid (below_block h1 HN7.out)
    clear h1 hDc hD4 HEN HST HB7 HN7 HM7
    have k8 := HN8b.out
    have c8 : Y4.cell? ⟨W.heap.size, 0, none⟩ = some (.bool false) := by simp [World.cell?, k8]
    have f8 : Y4.frozen? ⟨W.heap.size, 0, none⟩ = false := by simp [World.frozen?, k8]
    obtain ⟨Ye, hYe⟩ : ∃ y, Y4.setCell ⟨W.heap.size, 0, none⟩ (.bool false) = y := ⟨_, rfl⟩
    have HC8 : Hid (Ye.heap[W.heap.size]? = some (.cells #[.bool false] 4 (0, 0))) := Lib.hid (by rw [← hYe]; exact heap_set0 _ k8)
    have HBF : Hid (Below W.heap.size W Ye) := Lib.hid (by rw [← hYe]; exact HB8.out.setCell (p := ⟨W.heap.size, 0, none⟩) (Nat.le_refl _) _)
    have HMF := Lib.hid (HM8.out.keep (by rw [← hYe]; exact KeepsOthers.setCell Y4 ⟨W.heap.size, 0, none⟩ (.bool false) : KeepsOthers Y4 Ye))
    have HZF : Hid (w1.heap.size ≤ Ye.heap.size) := Lib.hid (by rw [← hYe]; have := HZ8.out; simpa using this)
    clear k8
    gi_wp2_with fail
    refine HMF.out.leaves HZF.out fun w' hb' => ?_
    have hc7 := (hb'.block W.heap.size HG8.out).trans HC8.out
    have hc8 : w'.cell? ⟨W.heap.size, 0, none⟩ = some (.bool false) := by simp [World.cell?, hc7]
    refine ⟨.bool false, ?_, rfl, HBF.out.trans (hb'.mono (Nat.le_of_lt HG8.out))⟩
    simp [results, Try.f35, go_sem, hc8]
  · have HLN := Lib.hid (hln _ HB6.out)
    clear hln
    by_cases hc1 : id < 0
    · have HK := Lib.hid (HR.out (.inr (.inl hc1)) _ HB6.out)
      gi_wp2_with fail
      first | refine callsIn_wide.2 (HK.out.mono ?_) | refine ⟨(fun h => by cases h), callsIn_wide.2 (HK.out.mono ?_)⟩ | refine ⟨trivial, (fun h => by cases h), callsIn_wide.2 (HK.out.mono ?_)⟩
      rintro e w7 ⟨vq, rfl, ⟨gf, rfl, hen, hst⟩, b7⟩
      have HEN := Lib.hid hen; have HST := Lib.hid hst
      have HB7 := Lib.hid (Below.after HB6.out b7)
      have HM7 := Lib.hid (HM6.out.below b7)
      have HN7 := Lib.hid (below_block b7 HN6.out)
      have HZ7 : Hid (w1.heap.size ≤ w7.heap.size) := Lib.hid (Nat.le_trans HZ6.out b7.size)
      clear hen hst b7 HK HB6 HM6 HN6
      gi_wp2_with fail
      refine wpIn_rangeFunc_T (α := Unit) rfl (by omega) (gf := gf) (lb := #[]) rfl trivial HEN.out (stops_nil (encs := fun _ : Unit => #[.int .i64 0]) (Kp := fun _ _ => True) (ts := []) (Nx := fun _ _ => False) (w := w7) 8 (HST.out 8)) (fun _ _ => trivial) (fun _ _ _ _ _ _ _ _ => trivial) (Below.refl _ _) (fun _ => rfl)
        (fun _ Y => Below w7.heap.size w7 Y) (fun _ _ _ => False)
        (fun s A C row hs hg hr => own_below hg hr (Nat.le_refl _) (Nat.le_refl _) hs) (fun c s A C row hs => hs.elim)
        (fun s A C hs h => hs.trans h.below) (fun c s A C hs => hs.elim)
        (Below.refl _ _) (fun l pre x Y Yb K hI hn => hn.elim) ?_ (fun D c pre Y hD hp hx => hx.elim)
      rintro D4 xs Y4 hD4 - h1 hDc
      have HZ8 : Hid (w1.heap.size ≤ Y4.heap.size) := Lib.hid (Nat.le_trans HZ7.out h1.size)
      have HM8 := Lib.hid ((HM7.out.below h1).cons (D := D4) (fun D' h => Nat.lt_of_lt_of_le (HM7.out.lt h) hD4) (Nat.le_trans HZ7.out hD4) hDc)
      have HB8 := Lib.hid (Below.after HB7.out h1)
      have HN8b := Lib.hid (below_block h1 HN7.out)
      clear h1 hDc hD4 HEN HST HB7 HN7 HM7
      have k8 := HN8b.out
      have c8 : Y4.cell? ⟨W.heap.size, 0, none⟩ = some (.bool false) := by simp [World.cell?, k8]
      have f8 : Y4.frozen? ⟨W.heap.size, 0, none⟩ = false := by simp [World.frozen?, k8]
      obtain ⟨Ye, hYe⟩ : ∃ y, Y4.setCell ⟨W.heap.size, 0, none⟩ (.bool false) = y := ⟨_, rfl⟩
      have HC8 : Hid (Ye.heap[W.heap.size]? = some (.cells #[.bool false] 4 (0, 0))) := Lib.hid (by rw [← hYe]; exact heap_set0 _ k8)
      have HBF : Hid (Below W.heap.size W Ye) := Lib.hid (by rw [← hYe]; exact HB8.out.setCell (p := ⟨W.heap.size, 0, none⟩) (Nat.le_refl _) _)
      have HMF := Lib.hid (HM8.out.keep (by rw [← hYe]; exact KeepsOthers.setCell Y4 ⟨W.heap.size, 0, none⟩ (.bool false) : KeepsOthers Y4 Ye))
      have HZF : Hid (w1.heap.size ≤ Ye.heap.size) := Lib.hid (by rw [← hYe]; have := HZ8.out; simpa using this)
      clear k8
      gi_wp2_with fail
      refine HMF.out.leaves HZF.out fun w' hb' => ?_
      have hc7 := (hb'.block W.heap.size HG8.out).trans HC8.out
      have hc8 : w'.cell? ⟨W.heap.size, 0, none⟩ = some (.bool false) := by simp [World.cell?, hc7]
      refine ⟨.bool false, ?_, rfl, HBF.out.trans (hb'.mono (Nat.le_of_lt HG8.out))⟩
      simp [results, Try.f35, go_sem, hc8]
    · by_cases hc2 : (k : Int) < id
      · have HK := Lib.hid (HR.out (.inr (.inr hc2)) _ HB6.out)
        gi_wp2_with fail
        first | refine callsIn_wide.2 (HLN.out.mono ?_) | refine ⟨(fun h => by cases h), callsIn_wide.2 (HLN.out.mono ?_)⟩ | refine ⟨trivial, (fun h => by cases h), callsIn_wide.2 (HLN.out.mono ?_)⟩
        rintro e w ⟨rfl, h⟩
        rw [h]
        clear h w
        gi_wp2_with fail
        first | refine callsIn_wide.2 (HK.out.mono ?_) | refine ⟨(fun h => by cases h), callsIn_wide.2 (HK.out.mono ?_)⟩ | refine ⟨trivial, (fun h => by cases h), callsIn_wide.2 (HK.out.mono ?_)⟩
        rintro e w7 ⟨vq, rfl, ⟨gf, rfl, hen, hst⟩, b7⟩
        have HEN := Lib.hid hen; have HST := Lib.hid hst
        have HB7 := Lib.hid (Below.after HB6.out b7)
        have HM7 := Lib.hid (HM6.out.below b7)
        have HN7 := Lib.hid (below_block b7 HN6.out)
        have HZ7 : Hid (w1.heap.size ≤ w7.heap.size) := Lib.hid (Nat.le_trans HZ6.out b7.size)
        clear hen hst b7 HK HB6 HM6 HN6
        gi_wp2_with fail
        refine wpIn_rangeFunc_T (α := Unit) rfl (by omega) (gf := gf) (lb := #[]) rfl trivial HEN.out (stops_nil (encs := fun _ : Unit => #[.int .i64 0]) (Kp := fun _ _ => True) (ts := []) (Nx := fun _ _ => False) (w := w7) 8 (HST.out 8)) (fun _ _ => trivial) (fun _ _ _ _ _ _ _ _ => trivial) (Below.refl _ _) (fun _ => rfl)
          (fun _ Y => Below w7.heap.size w7 Y) (fun _ _ _ => False)
          (fun s A C row hs hg hr => own_below hg hr (Nat.le_refl _) (Nat.le_refl _) hs) (fun c s A C row hs => hs.elim)
          (fun s A C hs h => hs.trans h.below) (fun c s A C hs => hs.elim)
          (Below.refl _ _) (fun l pre x Y Yb K hI hn => hn.elim) ?_ (fun D c pre Y hD hp hx => hx.elim)
        rintro D4 xs Y4 hD4 - h1 hDc
        have HZ8 : Hid (w1.heap.size ≤ Y4.heap.size) := Lib.hid (Nat.le_trans HZ7.out h1.size)
        have HM8 := Lib.hid ((HM7.out.below h1).cons (D := D4) (fun D' h => Nat.lt_of_lt_of_le (HM7.out.lt h) hD4) (Nat.le_trans HZ7.out hD4) hDc)
        have HB8 := Lib.hid (Below.after HB7.out h1)
        have HN8b := Lib.hid (below_block h1 HN7.out)
        clear h1 hDc hD4 HEN HST HB7 HN7 HM7
        have k8 := HN8b.out
        have c8 : Y4.cell? ⟨W.heap.size, 0, none⟩ = some (.bool false) := by simp [World.cell?, k8]
        have f8 : Y4.frozen? ⟨W.heap.size, 0, none⟩ = false := by simp [World.frozen?, k8]
        obtain ⟨Ye, hYe⟩ : ∃ y, Y4.setCell ⟨W.heap.size, 0, none⟩ (.bool false) = y := ⟨_, rfl⟩
        have HC8 : Hid (Ye.heap[W.heap.size]? = some (.cells #[.bool false] 4 (0, 0))) := Lib.hid (by rw [← hYe]; exact heap_set0 _ k8)
        have HBF : Hid (Below W.heap.size W Ye) := Lib.hid (by rw [← hYe]; exact HB8.out.setCell (p := ⟨W.heap.size, 0, none⟩) (Nat.le_refl _) _)
        have HMF := Lib.hid (HM8.out.keep (by rw [← hYe]; exact KeepsOthers.setCell Y4 ⟨W.heap.size, 0, none⟩ (.bool false) : KeepsOthers Y4 Ye))
        have HZF : Hid (w1.heap.size ≤ Ye.heap.size) := Lib.hid (by rw [← hYe]; have := HZ8.out; simpa using this)
        clear k8
        gi_wp2_with fail
        refine HMF.out.leaves HZF.out fun w' hb' => ?_
        have hc7 := (hb'.block W.heap.size HG8.out).trans HC8.out
        have hc8 : w'.cell? ⟨W.heap.size, 0, none⟩ = some (.bool false) := by simp [World.cell?, hc7]
        refine ⟨.bool false, ?_, rfl, HBF.out.trans (hb'.mono (Nat.le_of_lt HG8.out))⟩
        simp [results, Try.f35, go_sem, hc8]
      · gi_wp2_with fail
        first | refine callsIn_wide.2 (HLN.out.mono ?_) | refine ⟨(fun h => by cases h), callsIn_wide.2 (HLN.out.mono ?_)⟩ | refine ⟨trivial, (fun h => by cases h), callsIn_wide.2 (HLN.out.mono ?_)⟩
        rintro e w ⟨rfl, h⟩
        rw [h]
        clear h w
        have k8 := HN6.out
        have c8 : Y3.cell? ⟨W.heap.size, 0, none⟩ = some (.bool false) := by simp [World.cell?, k8]
        have f8 : Y3.frozen? ⟨W.heap.size, 0, none⟩ = false := by simp [World.frozen?, k8]
        obtain ⟨Ye, hYe⟩ : ∃ y, Y3.setCell ⟨W.heap.size, 0, none⟩ (.bool false) = y := ⟨_, rfl⟩
        have HC8 : Hid (Ye.heap[W.heap.size]? = some (.cells #[.bool false] 4 (0, 0))) := Lib.hid (by rw [← hYe]; exact heap_set0 _ k8)
        have HBF : Hid (Below W.heap.size W Ye) := Lib.hid (by rw [← hYe]; exact HB6.out.setCell (p := ⟨W.heap.size, 0, none⟩) (Nat.le_refl _) _)
        have HMF := Lib.hid (HM6.out.keep (by rw [← hYe]; exact KeepsOthers.setCell Y3 ⟨W.heap.size, 0, none⟩ (.bool false) : KeepsOthers Y3 Ye))
        have HZF : Hid (w1.heap.size ≤ Ye.heap.size) := Lib.hid (by rw [← hYe]; have := HZ6.out; simpa using this)
        clear k8
        gi_wp2_with fail
        refine HMF.out.leaves HZF.out fun w' hb' => ?_
        have hc7 := (hb'.block W.heap.size HG8.out).trans HC8.out
        have hc8 : w'.cell? ⟨W.heap.size, 0, none⟩ = some (.bool false) := by simp [World.cell?, hc7]
        refine ⟨.bool false, ?_, rfl, HBF.out.trans (hb'.mono (Nat.le_of_lt HG8.out))⟩
        simp [results, Try.f35, go_sem, hc8]
section
variable {n0 B most : Nat} {W : World} {E : List En}
theorem some_nil (W : World) (id at_ n : Int) : Calls Try.prog 35 #[.pointer none, .int .i64 id, .int .i64 at_, .int .i64 n] W fun e w' => e = .returned (.bool false) ∧ Below W.heap.size W w' :=
  some_gen (k := 0) (fun w _ => lettersV_bad (fun w _ => known_nil w id) at_) (fun w _ => backV_bad (fun w _ => known_nil w id) at_) (fun w _ => piecesV_bad (fun w _ => known_nil w id) at_ n) (.inl rfl) (fun _ w _ => rulesV_bad (fun w _ => known_nil w id))
theorem some_miss (h : StAt n0 W B most E) {id : Int} (hi : ¬ (0 ≤ id ∧ id ≤ E.length)) (at_ n : Int) : Calls Try.prog 35 #[.pointer (some ⟨B, 0, none⟩), .int .i64 id, .int .i64 at_, .int .i64 n] W fun e w' => e = .returned (.bool false) ∧ Below W.heap.size W w' :=
  some_gen (k := E.length) (fun w hw => lettersV_bad (fun w' hw' => known_miss (h.below (Below.after hw hw')) hi) at_) (fun w hw => backV_bad (fun w' hw' => known_miss (h.below (Below.after hw hw')) hi) at_) (fun w hw => piecesV_bad (fun w' hw' => known_miss (h.below (Below.after hw hw')) hi) at_ n) (.inr ⟨B, rfl, fun w hw => slen_any (h.below hw)⟩) (fun _ w hw => rulesV_bad (fun w' hw' => known_miss (h.below (Below.after hw hw')) hi))
theorem some_off (h : StAt n0 W B most E) (hwf : Wf E) (hE : E.length ≤ 1048576) {id : Nat} (hid : id ≤ E.length) {at_ : Int} (ha : at_ < 0 ∨ ((txt E id).length : Int) < at_) : Calls Try.prog 35 #[.pointer (some ⟨B, 0, none⟩), .int .i64 id, .int .i64 at_, .int .i64 1] W fun e w' => e = .returned (.bool false) ∧ Below W.heap.size W w' := by
  have hwl : ((entAt E id).w.len : Int) = (txt E id).length := by rw [(hwf.len hid).1]; rfl
  refine some_gen (k := E.length) (fun w hw => ?_) (fun w hw => ?_) (fun w hw => pieces_off (h.below hw) hwf hE hid ha) (.inr ⟨B, rfl, fun w hw => slen_any (h.below hw)⟩) (fun hc => ?_)
  · refine (letters_out (n := (entAt E id).w.len) (ok := true) (fun w' hw' => known1_any (h.below (Below.after hw hw')) hid hE) (frm := at_) ?_).mono ?_
    · rw [hwl]; rcases ha with ha | ha
      · exact .inr (.inl ⟨rfl, ha⟩)
      · exact .inr (.inr ⟨rfl, by omega, by omega⟩)
    · rintro e w' ⟨rfl, hb⟩; exact ⟨_, rfl, noL, hb⟩
  · refine (back_out (n := (entAt E id).w.len) (ok := true) (fun w' hw' => known1_any (h.below (Below.after hw hw')) hid hE) (frm := at_) ?_).mono ?_
    · rw [hwl]; rcases ha with ha | ha
      · exact .inr (.inl ⟨rfl, by omega⟩)
      · exact .inr (.inr ⟨rfl, by omega, by omega⟩)
    · rintro e w' ⟨rfl, hb⟩; exact ⟨_, rfl, noB, hb⟩
  · rcases hc with hc | hc | hc
    · cases hc
    · omega
    · omega
end
end M
end Go.Proofs.Ytpjcfepngjpfbaa
