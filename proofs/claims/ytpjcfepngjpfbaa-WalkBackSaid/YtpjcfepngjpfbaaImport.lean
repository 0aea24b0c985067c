/- intern's Import of a grammar that fits. -/
import Derived.Test.YtpjcfepngjpfbaaPut
import Derived.Test.YtpjcfepngjpfbaaRuleCk
import Derived.Test.YtpjcfepngjpfbaaLetIt
import Derived.Test.YtpjcfepngjpfbaaCom
set_option linter.unusedVariables false
set_option linter.unusedSimpArgs false
namespace Go.Proofs.Ytpjcfepngjpfbaa
open Go.RowKit Go.Lib
namespace M
attribute [local go_sem] Oper.semAt_some
theorem gT_pre : ∀ (B A : List RuI), gT A <+: gT (A ++ B)
  | [], A => by rw [List.append_nil]; exact List.prefix_refl _
  | r :: B, A => by
    have h := gT_pre B (A ++ [r])
    rw [List.append_assoc] at h
    refine List.IsPrefix.trans ?_ h
    rw [gT_snoc]
    exact List.prefix_append _ _
theorem tx_take {L : List RuI} {i l : Nat} (hi : i ≤ L.length) (hl : l ≤ i) : tx (gT (L.take i)) l = tx (gT L) l := by
  unfold tx
  by_cases h0 : l = 0
  · rw [if_pos h0, if_pos h0]
  · rw [if_neg h0, if_neg h0]
    have h1 := gT_pre (L.drop i) (L.take i)
    rw [List.take_append_drop] at h1
    obtain ⟨T, hT⟩ := h1
    rw [← hT, List.getElem?_append_left (by rw [gT_len, List.length_take]; omega)]
theorem txOf_take {L : List RuI} {i : Nat} (hi : i < L.length) (hok : OkI L[i] (i + 1)) : txOf (gT L) (gR L[i]) = txOf (gT (L.take i)) (gR L[i]) := by
  rcases hok with ⟨k1, -⟩ | ⟨k1, -, -, ⟨l1, l2⟩, r1, r2⟩ | ⟨k1, -, -, t2, l1, l2⟩
  · unfold txOf gR; simp [k1]
  · unfold txOf gR
    rw [if_neg (by simp [k1]), if_pos (by simp [k1]), if_neg (by simp [k1]), if_pos (by simp [k1])]
    dsimp only
    rw [tx_take (L := L) (i := i) (by omega) (by omega), tx_take (L := L) (i := i) (by omega) (by omega)]
  · unfold txOf gR
    rw [if_neg (by simp [k1]), if_neg (by simp [k1]), if_neg (by simp [k1]), if_neg (by simp [k1])]
    dsimp only
    rw [tx_take (L := L) (i := i) (by omega) (by omega)]
theorem tx_step {L : List RuI} {i : Nat} (hi : i < L.length) (hok : OkI L[i] (i + 1)) : tx (gT L) (i + 1) = txOf (gT L) (gR L[i]) := by
  rw [← tx_take (L := L) (i := i + 1) (by omega) (Nat.le_refl _), List.take_succ_eq_append_getElem hi, gT_snoc, txOf_take hi hok]
  unfold tx
  rw [if_neg (by omega), Nat.add_sub_cancel, List.getElem?_append_right (by rw [gT_len, List.length_take]; omega), gT_len, List.length_take, Nat.min_eq_left (by omega), Nat.sub_self]
  rfl
theorem tx_mem {L : List RuI} {i : Nat} (hi : i < L.length) : tx (gT L) (i + 1) ∈ gT L := by
  rw [tx_get (by omega) (by rw [gT_len]; omega)]
  exact List.getElem_mem _
theorem newRuB (w : World) (r : RuI) : ∃ wz w2, w.alloc (.cells #[.int .i64 0, .int .u8 0, .int .i64 0, .int .i64 0, .int .i64 0] 59) = wz ∧
    ((((wz.setCell ⟨w.heap.size, 0, none⟩ (.int .i64 r.kind)).setCell ⟨w.heap.size, 1, none⟩ (.int .u8 r.letter)).setCell ⟨w.heap.size, 2, none⟩ (.int .i64 r.left)).setCell ⟨w.heap.size, 3, none⟩ (.int .i64 r.right)).setCell ⟨w.heap.size, 4, none⟩ (.int .i64 r.times) = w2 ∧
    (w2.cell? ⟨w.heap.size, 0, none⟩ = some (.int .i64 r.kind) ∧ w2.cell? ⟨w.heap.size, 1, none⟩ = some (.int .u8 r.letter) ∧ w2.cell? ⟨w.heap.size, 2, none⟩ = some (.int .i64 r.left) ∧ w2.cell? ⟨w.heap.size, 3, none⟩ = some (.int .i64 r.right) ∧ w2.cell? ⟨w.heap.size, 4, none⟩ = some (.int .i64 r.times)) ∧ Below w.heap.size w w2 ∧
    (wz.cell? ⟨w.heap.size, 0, none⟩ = some (.int .i64 0) ∧ wz.cell? ⟨w.heap.size, 1, none⟩ = some (.int .u8 0) ∧ wz.cell? ⟨w.heap.size, 2, none⟩ = some (.int .i64 0) ∧ wz.cell? ⟨w.heap.size, 3, none⟩ = some (.int .i64 0) ∧ wz.cell? ⟨w.heap.size, 4, none⟩ = some (.int .i64 0)) ∧
    (wz.frozen? ⟨w.heap.size, 0, none⟩ = false ∧ wz.frozen? ⟨w.heap.size, 1, none⟩ = false ∧ wz.frozen? ⟨w.heap.size, 2, none⟩ = false ∧ wz.frozen? ⟨w.heap.size, 3, none⟩ = false ∧ wz.frozen? ⟨w.heap.size, 4, none⟩ = false) := by
  have k0 : (w.alloc (.cells #[.int .i64 0, .int .u8 0, .int .i64 0, .int .i64 0, .int .i64 0] 59)).heap[w.heap.size]? = some (.cells #[.int .i64 0, .int .u8 0, .int .i64 0, .int .i64 0, .int .i64 0] 59 (0, 0)) := heap_new' _ _
  have b0 : Below w.heap.size w (w.alloc (.cells #[.int .i64 0, .int .u8 0, .int .i64 0, .int .i64 0, .int .i64 0] 59)) := (Below.refl _ _).alloc (Nat.le_refl _) _
  generalize w.alloc (.cells #[.int .i64 0, .int .u8 0, .int .i64 0, .int .i64 0, .int .i64 0] 59) = wz at k0 b0
  have k5 := heap_set0 (i := 4) (.int .i64 r.times) (heap_set0 (i := 3) (.int .i64 r.right) (heap_set0 (i := 2) (.int .i64 r.left) (heap_set0 (i := 1) (.int .u8 r.letter) (heap_set0 (i := 0) (.int .i64 r.kind) k0))))
  refine ⟨wz, _, rfl, rfl, ?_, ((((b0.setCell (p := ⟨w.heap.size, 0, none⟩) (Nat.le_refl _) _).setCell (p := ⟨w.heap.size, 1, none⟩) (Nat.le_refl _) _).setCell (p := ⟨w.heap.size, 2, none⟩) (Nat.le_refl _) _).setCell (p := ⟨w.heap.size, 3, none⟩) (Nat.le_refl _) _).setCell (p := ⟨w.heap.size, 4, none⟩) (Nat.le_refl _) _, by simp [World.cell?, k0], by simp [World.frozen?, k0]⟩
  simp [World.cell?, k5]
theorem ToW.snoc {W : World} {g m i : Nat} {F : Nat → Nat} (h : ToW W g m i F) (x : Nat) : ToW (W.setCell ⟨g, i + 1, none⟩ (.int .i64 x)) g m (i + 1) (fun j => if j = i + 1 then x else F j) := by
  obtain ⟨cs, h1, h2, h3⟩ := h
  refine ⟨_, heap_set _ h1, by simp [h2], fun k hk hd => ?_⟩
  by_cases e : i + 1 = k
  · subst e; rw [Array.getElem?_setIfInBounds_self_of_lt (by omega)]; simp
  · rw [Array.getElem?_setIfInBounds_ne e, h3 k hk (by omega)]
    dsimp only
    rw [if_neg (Ne.symm e)]
theorem ToW.kt {A C : World} {g m i : Nat} {F : Nat → Nat} (h : ToW A g m i F) (hk : Kt A C) : ToW C g m i F := by
  obtain ⟨cs, h1, h2, h3⟩ := h
  exact ⟨cs, hk _ (by decide) (by decide) _ _ _ h1, h2, h3⟩
set_option maxRecDepth 100000 in
set_option maxHeartbeats 8000000 in
theorem import_any {n0 B most : Nat} {W : World} {E : List En} (h : StAt n0 W B most E) (hwd : WfD E) {v : Value} {L : List RuI} (hL : ∀ C, Below n0 W C → RowRu C v L) (hok : OkL L) (hlen : ∀ t ∈ gT L, t.length ≤ 1152921504606846976) (hroom : E.length + L.length ≤ most) (hE : E.length + L.length ≤ 1048575) :
    Calls Try.prog 29 #[.pointer (some ⟨B, 0, none⟩), v] W fun e w' => ∃ (id : Nat) (E' : List En), e = .returned (.tuple #[.int .i64 id, .nilIface]) ∧ StAt n0 w' B most E' ∧ WfD E' ∧ Ext E E' ∧ E'.length ≤ E.length + L.length ∧ id ≤ E'.length ∧ txt E' id = tx (gT L) L.length ∧ (L.length ≠ 0 → 0 < id) ∧ Below n0 W w' ∧ Kt W w' := by
  have HF : ∀ f, Fence.wide.fn f := fun _ => trivial
  have HS := Lib.hid h; have HWD := Lib.hid hwd; have HL := Lib.hid hL; have HOK := Lib.hid hok; have HLEN := Lib.hid hlen
  have HN0 : Hid (n0 ≤ W.heap.size) := Lib.hid h.lt
  obtain ⟨a0, cap0, rfl, hc1, hc2, -, -⟩ := hL W (Below.refl _ _)
  obtain ⟨n, hn⟩ : ∃ n, L.length = n := ⟨_, rfl⟩
  have HN := Lib.hid hn
  rw [hn] at hc1 HL hroom hE ⊢
  have HC := Lib.hid (And.intro hc1 (And.intro hroom hE))
  clear h hwd hL hok hlen hc1 hc2 hn hroom hE
  go_enter Try.func29, Try.ntmps29
  go_wp2_with fail
  go_loopw [19] (fun iv wr => ∃ i : Nat, iv = .int .i64 i ∧ i ≤ n ∧ Below W.heap.size W wr) (fun iv _ => n - (intOf iv).toNat)
  case atStart => exact ⟨0, rfl, by omega, Below.refl _ _⟩
  case round =>
    obtain ⟨i, rfl, hi, hB⟩ := hrel
    have HB := Lib.hid hB
    clear hB
    by_cases hlast : i = n
    · have d1 : ¬ (i : Int) < (n : Int) := by omega
      clear hlast
      obtain ⟨m, hm⟩ : ∃ y, n + 1 = y := ⟨_, rfl⟩
      have hmw : IntKind.i64.wrap ((n : Int) + 1) = (m : Int) := by rw [IntKind.wrap_i64]; have := HC.out; omega
      have HM : Hid (m = n + 1 ∧ m ≤ 1048576) := Lib.hid (by have := HC.out; omega)
      have hmk : (Instr.makeSlice 24 (.int .i64 (m : Int)) (.int .i64 (m : Int))).run Try.prog wr = .ok (.slice (some ⟨wr.heap.size, 0, none⟩) m m) (wr.alloc (.cells (madeCells #[.int .i64 0] m) 31)) := by
        have h := mk_run (P := Try.prog) (t := 24) (e := 31) (z := .int .i64 0) (size := 1) (bytes := 8) Try.underlying24 (by kernel_rfl) m m (Nat.le_refl _) (by have := HM.out.2; omega) (by have := HM.out.2; omega) wr
        rw [Nat.mul_one] at h
        exact h
      obtain ⟨wm, hwm⟩ : ∃ y, wr.alloc (.cells (madeCells #[.int .i64 0] m) 31) = y := ⟨_, rfl⟩
      have tm : ToW wm wr.heap.size m 0 (fun _ => 0) := by
        rw [← hwm]
        refine ⟨_, heap_new' _ _, by simp [size_madeCells], fun i hi _ => ?_⟩
        exact madeCells_get (z := .int .i64 0) (n := m) hi
      have bm : Below wr.heap.size wr wm := by rw [← hwm]; exact (Below.refl _ _).alloc (Nat.le_refl _) _
      obtain ⟨gt, hgt⟩ : ∃ y, wr.heap.size = y := ⟨_, rfl⟩
      rw [hgt] at tm hmk
      have HGT : Hid (W.heap.size ≤ gt) := Lib.hid (by rw [← hgt]; exact HB.out.size)
      have bwm := Below.after HB.out bm
      have HTM := Lib.hid tm; have HSM := Lib.hid (HS.out.below bwm); have HBM := Lib.hid (bwm.mono HN0.out); have HKM := Lib.hid (Kt.of bwm)
      clear tm bm bwm hm
      go_wp2_with fail
      clear hwm hmk hmw hgt
      go_loopw [38] (fun iv wq => ∃ (i : Nat) (Ei : List En) (F : Nat → Nat), iv = .int .i64 i ∧ i ≤ n ∧ StAt n0 wq B most Ei ∧ WfD Ei ∧ Ext E Ei ∧ Ei.length ≤ E.length + i ∧ ToW wq gt m i F ∧ (F 0 = 0 ∧ ∀ j, 1 ≤ j → j ≤ i → 0 < F j ∧ F j ≤ Ei.length ∧ txt Ei (F j) = tx (gT L) j) ∧ Below n0 W wq ∧ Kt W wq) (fun iv _ => n - (intOf iv).toNat)
      case atStart => exact ⟨0, E, _, rfl, by omega, HSM.out, HWD.out, Ext.refl _, by omega, HTM.out, ⟨rfl, fun j h1 h2 => by omega⟩, HBM.out, HKM.out⟩
      case round =>
        obtain ⟨i, Ei, F, rfl, hi, hs, hw, hx, hel, ht, hF, hb, hk⟩ := hrel
        by_cases hlast : i = n
        · have d1 : ¬ (i : Int) < (n : Int) := by omega
          have q := ht.cell (i := n) (by have := HM.out; omega) (by omega)
          have i1 : (n : Int) < (m : Int) := by have := HM.out; omega
          have i2 : n < m := by have := HM.out; omega
          obtain ⟨id, hid⟩ : ∃ y, F n = y := ⟨_, rfl⟩
          rw [hid] at q
          have HFIN : Hid (StAt n0 wr B most Ei ∧ WfD Ei ∧ Ext E Ei ∧ Ei.length ≤ E.length + n ∧ id ≤ Ei.length ∧ txt Ei id = tx (gT L) n ∧ (n ≠ 0 → 0 < id) ∧ Below n0 W wr ∧ Kt W wr) := Lib.hid (by
            subst hlast
            by_cases h0 : i = 0
            · subst h0
              have : id = 0 := by rw [← hid]; exact hF.1
              subst this
              exact ⟨hs, hw, hx, hel, Nat.zero_le _, rfl, fun h => absurd rfl h, hb, hk⟩
            · obtain ⟨g1, g2, g3⟩ := hF.2 i (by omega) (Nat.le_refl _)
              rw [hid] at g1 g2 g3
              exact ⟨hs, hw, hx, hel, g2, g3, fun _ => g1, hb, hk⟩)
          clear hlast hs hw hx hel ht hF hb hk hid
          go_wp2_with fail
          go_ret2
          exact ⟨id, rfl, Ei, HFIN.out⟩
        · have d1 : (i : Int) < (n : Int) := by omega
          have hil : i < L.length := by rw [HN.out]; omega
          obtain ⟨a, cap, hv, h1, h2, h3, h4⟩ := HL.out wr hb
          obtain ⟨b, hb', hbl, hat⟩ := h4 i hil
          have hwdr := h3 _ (List.getElem_mem hil)
          simp only [Value.slice.injEq] at hv
          obtain ⟨rfl, -, rfl⟩ := hv
          subst hb'
          have hoki := HOK.out i hil
          have HTX := Lib.hid (tx_step hil hoki)
          have HTM2 := Lib.hid (HLEN.out _ (tx_mem (L := L) hil))
          rw [HTX.out] at HTM2
          obtain ⟨r, hr⟩ : ∃ r, L[i]'hil = r := ⟨_, rfl⟩
          rw [hr] at hat hoki hwdr HTX HTM2
          obtain ⟨q0, q1, q2, q3, q4⟩ := hat
          obtain ⟨wz, w2, hz, hs2, ⟨x0, x1, x2, x3, x4⟩, bb, ⟨z0, z1, z2, z3, z4⟩, f0, f1, f2, f3, f4⟩ := newRuB wr r
          obtain ⟨gr, hgr⟩ : ∃ y, wr.heap.size = y := ⟨_, rfl⟩
          rw [hgr] at hs2 x0 x1 x2 x3 x4 z0 z1 z2 z3 z4 f0 f1 f2 f3 f4
          have HPT := Lib.hid (put_any (hs.below bb) hw (by have := HC.out; omega) (by have := HC.out; omega) hwdr hoki (ht.below bb) (by have := HM.out; omega) hF.2 HTM2.out)
          unfold ruIV at HPT
          have hn0q : n0 ≤ wr.heap.size := hs.lt
          have HT2 := Lib.hid (ht.below bb); have HB2 := Lib.hid (hb.trans (bb.mono hn0q)); have HK2 := Lib.hid (hk.trans (Kt.of bb))
          have HF0 := Lib.hid hF; have HX0 := Lib.hid (And.intro hx hel)
          have hiw : IntKind.i64.wrap ((i : Int) + 1) = ((i + 1 : Nat) : Int) := by rw [IntKind.wrap_i64]; have := HC.out; omega
          obtain ⟨i2, hi2⟩ : ∃ y, i + 1 = y := ⟨_, rfl⟩
          rw [hi2] at hiw
          have HI2 : Hid (i + 1 = i2 ∧ i < n) := Lib.hid ⟨hi2, by omega⟩
          have j1 : (i2 : Int) < (m : Int) := by have := HM.out; omega
          have j2 : i2 < m := by have := HM.out; omega
          clear hlast h1 h2 h3 h4 hbl hr hil hoki bb hs hw hx hel ht hF hb hk hwdr hn0q hi2
          go_wp2_with fail
          refine HPT.out.mono ?_; rintro e w3 ⟨id, E', rfl, s3, wd3, e3, l3, p3, le3, t3, b3, k3⟩
          have tw3 : ToW w3 gt m i F := ToW.kt HT2.out k3
          have tw4 : ToW w3 gt m i F := tw3
          obtain ⟨cs, hcs, -⟩ := tw4
          have hcell : ∃ u, w3.cell? ⟨gt, i2, none⟩ = some u := tw3.held j2
          obtain ⟨u, hu⟩ := hcell
          have hfz := tw3.free i2
          obtain ⟨w4, hw4⟩ : ∃ y, w3.setCell ⟨gt, i2, none⟩ (.int .i64 id) = y := ⟨_, rfl⟩
          have HT4 : Hid (ToW w4 gt m i2 (fun j => if j = i2 then id else F j)) := Lib.hid (by
            have h := ToW.snoc tw3 id
            rw [HI2.out.1] at h
            rw [← hw4]; exact h)
          have HS4 : Hid (StAt n0 w4 B most E') := Lib.hid (by rw [← hw4]; exact StAt.set (i := i2) s3 hcs (by decide) (by decide) _)
          have HB4 : Hid (Below n0 W w4) := Lib.hid (by rw [← hw4]; exact (HB2.out.trans b3).setCell (p := ⟨gt, i2, none⟩) (Nat.le_trans HN0.out HGT.out) _)
          have HK4 : Hid (Kt W w4) := Lib.hid (fun t h1 h2 k cs fz hk => by
            have h := (HK2.out.trans k3) t h1 h2 k cs fz hk
            have hlt := (Array.getElem?_eq_some_iff.1 hk).1
            have hg := HGT.out
            rw [← hw4]
            exact set_other (by omega) h)
          have HF4 : Hid ((if (0 : Nat) = i2 then id else F 0) = 0 ∧ ∀ j, 1 ≤ j → j ≤ i2 → 0 < (if j = i2 then id else F j) ∧ (if j = i2 then id else F j) ≤ E'.length ∧ txt E' (if j = i2 then id else F j) = tx (gT L) j) := Lib.hid (by
            have hi := HI2.out
            refine ⟨by rw [if_neg (by omega)]; exact HF0.out.1, fun j h1 h2 => ?_⟩
            by_cases e : j = i2
            · rw [if_pos e]
              refine ⟨p3, le3, ?_⟩
              rw [t3, e, ← hi.1]; exact HTX.out.symm
            · rw [if_neg e]
              obtain ⟨g1, g2, g3⟩ := HF0.out.2 j h1 (by omega)
              exact ⟨g1, Nat.le_trans g2 e3.le, by rw [e3.txt g2]; exact g3⟩)
          have HX4 : Hid (Ext E E' ∧ E'.length ≤ E.length + i2) := Lib.hid ⟨HX0.out.1.trans e3, by have h1 := HX0.out.2; have h2 := HI2.out.1; omega⟩
          have HW4 := Lib.hid wd3
          clear s3 wd3 e3 l3 p3 le3 t3 b3 k3 tw3 hcs hz hs2 x0 x1 x2 x3 x4 z0 z1 z2 z3 z4 f0 f1 f2 f3 f4 hgr q0 q1 q2 q3 q4 HPT
          go_wp2_with fail
          go_roundw
          case rel => exact ⟨i2, E', _, rfl, by have := HI2.out; omega, HS4.out, HW4.out, HX4.out.1, HX4.out.2, HT4.out, HF4.out, HB4.out, HK4.out⟩
          case measure => have := HI2.out; simp [intOf]; omega
    · have d1 : (i : Int) < (n : Int) := by omega
      have hil : i < L.length := by rw [HN.out]; omega
      obtain ⟨a, cap, hv, h1, h2, h3, h4⟩ := HL.out wr (HB.out.mono HN0.out)
      obtain ⟨b, hb, hbl, hat⟩ := h4 i hil
      simp only [Value.slice.injEq] at hv
      obtain ⟨rfl, -, rfl⟩ := hv
      subst hb
      have hoki := HOK.out i hil
      obtain ⟨r, hr⟩ : ∃ r, L[i]'hil = r := ⟨_, rfl⟩
      rw [hr] at hat hoki
      obtain ⟨q0, q1, q2, q3, q4⟩ := hat
      have hiw : IntKind.i64.wrap ((i : Int) + 1) = ((i + 1 : Nat) : Int) := by rw [IntKind.wrap_i64]; have := HC.out; omega
      obtain ⟨i2, hi2⟩ : ∃ y, i + 1 = y := ⟨_, rfl⟩
      rw [hi2] at hiw hoki
      have HI2 : Hid (i + 1 = i2 ∧ i < n) := Lib.hid ⟨hi2, by omega⟩
      have HCK := Lib.hid (fun w : World => rulecheck_any w (n := i2) (by omega) (by have := HC.out; omega) hoki)
      unfold ruIV at HCK
      obtain ⟨wz, w2, hz, hs2, ⟨x0, x1, x2, x3, x4⟩, bb, ⟨z0, z1, z2, z3, z4⟩, f0, f1, f2, f3, f4⟩ := newRuB wr r
      obtain ⟨gr, hgr⟩ : ∃ y, wr.heap.size = y := ⟨_, rfl⟩
      rw [hgr] at hs2 x0 x1 x2 x3 x4 z0 z1 z2 z3 z4 f0 f1 f2 f3 f4
      have HB2 := Lib.hid (Below.after HB.out bb)
      clear hlast h1 h2 h3 h4 hbl hr hi2 hil hoki bb
      go_wp2_with fail
      refine (HCK.out w2).mono ?_; rintro e w3 ⟨rfl, b3⟩
      have HB3 := Lib.hid (Below.after HB2.out b3)
      clear b3 hz hs2 x0 x1 x2 x3 x4 z0 z1 z2 z3 z4 f0 f1 f2 f3 f4 hgr q0 q1 q2 q3 q4 HCK
      go_wp2_with fail
      go_roundw
      case rel => exact ⟨i2, rfl, by have := HI2.out; omega, HB3.out⟩
      case measure => have := HI2.out; simp [intOf]; omega
end M
end Go.Proofs.Ytpjcfepngjpfbaa
