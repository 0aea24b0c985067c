/- The moves of a patch: prepare. -/
import Derived.Test.YtplccefjljdjnaaAnchorA
import Derived.Test.YtplccefjljdjnaaCom
set_option linter.unusedVariables false
set_option linter.unusedSimpArgs false
namespace Go.Proofs.Ytplccefjljdjnaa
open Go.RowKit Go.Lib
namespace M
attribute [local go_sem] Oper.semAt_some
/-- Anchors in a slice, wherever it lies. -/
def RowAn (W : World) (v : Value) (A : List (Int × Bool)) : Prop :=
  ∃ a cap, v = .slice a A.length cap ∧ A.length ≤ cap ∧ cap ≤ maxLen ∧ ∀ (i : Nat) (h : i < A.length), ∃ b, a = some b ∧ W.cell? (b.add (i * 2)) = some (.int .i64 A[i].1) ∧ W.cell? ⟨(b.add (i * 2)).block, (b.add (i * 2)).off + 1, none⟩ = some (.bool A[i].2)
theorem cell_on' {A C : World} {a : Addr} {v : Value} (h : A.cell? a = some v) (hb : Below A.heap.size A C) : C.cell? a = some v := by
  have h2 := h
  unfold World.cell? at h ⊢
  cases hh : A.heap[a.block]? with
  | none => rw [hh] at h; cases h
  | some o =>
    rw [hb.block a.block (Array.getElem?_eq_some_iff.1 hh).1]
    exact h
theorem RowAn.below {A C : World} {v : Value} {L : List (Int × Bool)} (h : RowAn A v L) (hb : Below A.heap.size A C) : RowAn C v L := by
  obtain ⟨a, cap, rfl, h1, h2, h⟩ := h
  exact ⟨a, cap, rfl, h1, h2, fun i hi => (h i hi).imp fun b hh => ⟨hh.1, cell_on' hh.2.1 hb, cell_on' hh.2.2 hb⟩⟩
/-- A box into which an anchor is laid. -/
theorem newAn (w : World) (x : Int) (r : Bool) : ∃ wz w2, w.alloc (.cells #[.int .i64 0, .bool false] 33) = wz ∧
    (wz.setCell ⟨w.heap.size, 0, none⟩ (.int .i64 x)).setCell ⟨w.heap.size, 1, none⟩ (.bool r) = w2 ∧ AnC w2 w.heap.size x r ∧ Below w.heap.size w w2 ∧
    (wz.cell? ⟨w.heap.size, 0, none⟩ = some (.int .i64 0) ∧ wz.cell? ⟨w.heap.size, 1, none⟩ = some (.bool false)) ∧ (wz.frozen? ⟨w.heap.size, 0, none⟩ = false ∧ wz.frozen? ⟨w.heap.size, 1, none⟩ = false) := by
  have k0 : AnC (w.alloc (.cells #[.int .i64 0, .bool false] 33)) w.heap.size 0 false := heap_new' _ _
  have b0 : Below w.heap.size w (w.alloc (.cells #[.int .i64 0, .bool false] 33)) := (Below.refl _ _).alloc (Nat.le_refl _) _
  obtain ⟨a, b, c, d⟩ := k0.cells
  exact ⟨_, _, rfl, rfl, k0.set x r, (b0.setCell (p := ⟨w.heap.size, 0, none⟩) (Nat.le_refl _) _).setCell (p := ⟨w.heap.size, 1, none⟩) (Nat.le_refl _) _, ⟨a, b⟩, ⟨c, d⟩⟩
theorem MsC.set {W : World} {g : Nat} {v : Value} {n : Int} (h : MsC W g v n) (u : Value) (m : Int) : MsC ((W.setCell ⟨g, 0, none⟩ u).setCell ⟨g, 1, none⟩ (.int .i64 m)) g u m := by
  unfold MsC at h ⊢
  exact heap_set0 _ (heap_set0 _ h)
theorem MsC.set0 {W : World} {g : Nat} {v : Value} {n : Int} (h : MsC W g v n) (u : Value) : MsC (W.setCell ⟨g, 0, none⟩ u) g u n := by
  unfold MsC at h ⊢
  exact heap_set0 _ h
/-- What prepare answers: an error's number. -/
def prepF (E : List En) (len : Int) (L : List Chg) (A : List (Int × Bool)) : Int := if ¬ (0 ≤ len ∧ len ≤ maxL) then 1 else if A.all (fun a => decide (0 ≤ a.1) && decide (a.1 ≤ len)) then (lngF E len L).2 else 1
def PrepP (E : List En) (len : Int) (L : List Chg) (A : List (Int × Bool)) (W : World) (e : Ending) (w' : World) : Prop :=
  (prepF E len L A = 0 ∧ ∃ mv, e = .returned (.tuple #[.agg #[mv, .int .i64 (lngF E len L).1], .nilIface]) ∧ Mvs W.heap.size w' mv (mvsF E 0 L) ∧ Below W.heap.size W w') ∨
  (prepF E len L A ≠ 0 ∧ e = .returned (.tuple #[.agg #[.slice none 0 0, .int .i64 0], err (prepF E len L A)]) ∧ Below W.heap.size W w')
theorem lngF_ok {E : List En} {len : Int} {L : List Chg} (h : (lngF E len L).2 = 0) : 0 ≤ len ∧ len ≤ 1152921504606846976 ∧ formF len (-1) L = true ∧ len - delF L + insF E L ≤ 1152921504606846976 ∧ (lngF E len L).1 = len - delF L + insF E L := by
  unfold lngF at h ⊢
  by_cases h1 : chkF len L = 0
  · rw [if_neg (by rw [h1]; simp)] at h ⊢
    have h1' := h1
    unfold chkF at h1
    unfold maxL at *
    split at h1
    · cases h1
    · rename_i h2
      split at h1
      · rename_i h3
        split at h
        · rename_i h4
          rw [if_pos h4]
          exact ⟨by omega, by omega, h3, h4, rfl⟩
        · cases h
      · cases h1
  · rw [if_pos h1] at h
    exact absurd h h1
theorem formF_mem {len : Int} : ∀ (L : List Chg) (last : Int), formF len last L = true → ∀ c ∈ L, 0 ≤ c.pos ∧ 0 ≤ c.n ∧ c.pos + c.n ≤ len
  | [], _, _, c, hc => by cases hc
  | a :: L, last, h, c, hc => by
    simp only [formF, chgOk, Bool.and_eq_true] at h
    obtain ⟨⟨⟨h3, -⟩, -⟩, h5⟩ := h
    obtain ⟨-, -, x, y, e, f⟩ := rngB_iff.1 h3
    rcases List.mem_cons.1 hc with rfl | hc
    · exact ⟨x, y, by omega⟩
    · exact formF_mem L _ h5 c hc
theorem ne_type' {W : World} {g k : Nat} {cs cs' : Array Value} {t t' : TypeId} {fz fz' : Nat × Nat} (h : W.heap[k]? = some (.cells cs t fz)) (h' : W.heap[g]? = some (.cells cs' t' fz')) (ht : t ≠ t') : k ≠ g := fun e => by
  subst e; rw [h] at h'; simp at h'; exact ht h'.2.1
theorem StAt.set' {n0 B most g i : Nat} {W : World} {E : List En} (h : StAt n0 W B most E) {cs : Array Value} {t : TypeId} {fz : Nat × Nat} (hb : W.heap[g]? = some (.cells cs t fz)) (h1 : t ≠ 91) (h2 : t ≠ 121) (v : Value) : StAt n0 (W.setCell ⟨g, i, none⟩ v) B most E := by
  obtain ⟨lv, mb, k1, k2, k3, k4⟩ := h
  refine ⟨lv, mb, set_other (fun e => ?_) k1, SlA.setCell k2 v (a := ⟨g, i, none⟩) hb h2, MapR.of_block k3 (Below.heap_setCell _ _ _ _ (fun e => ?_)), k4⟩
  · subst e; unfold StC at k1; rw [hb] at k1; simp at k1; exact h1 k1.2.1
  · have e : mb = g := e
    subst e
    obtain ⟨es, c, h5, -⟩ := k3
    rw [hb] at h5; cases h5
theorem StAt.app' {n0 n1 B most : Nat} {w0 w' : World} {E : List En} {α : Type} {e : TypeId} {size : Nat} {enc : α → List Value} {v : Value} {l : List α} {cs : Array Value} (h : StAt n0 w0 B most E) (hS : SlA n1 w0 e size enc v l) (hg : (w0.alloc (.cells cs e)).grownBy w' v.ownBlock) (h1 : 91 ≠ e) (h2 : 121 ≠ e) : StAt n0 w' B most E := by
  obtain ⟨lv, mb, k1, k2, k3, k4⟩ := h
  refine ⟨lv, mb, app_other hS hg k1 h1, SlA.keep k2 (fun k cs fz h => app_other hS hg h h2), ?_, k4⟩
  obtain ⟨es, c, h5, h6⟩ := k3
  exact ⟨es, c, (app_keepsOthers hS hg).same _ _ h5 rfl, h6⟩
set_option maxRecDepth 100000 in
set_option maxHeartbeats 8000000 in
theorem prepare_any {n0 B most b0 : Nat} {W : World} {E : List En} (hs : StAt n0 W B most E) (hwf : Wf E) (hE : E.length ≤ 1048576) {v va : Value} {L : List Chg} {A : List (Int × Bool)} (hC : Chs b0 W v L) (hT : Txs E L) (hLb : L.length ≤ 1000000) (hA : RowAn W va A) (hAb : A.length ≤ 1000000) (len : Int) :
    Calls Try.prog 41 #[.pointer (some ⟨B, 0, none⟩), .int .i64 len, v, va] W (PrepP E len L A W) := by
  have HT := Lib.hid hT; have HWF := Lib.hid hwf; have HS := Lib.hid hs; have HC := Lib.hid hC; have HA := Lib.hid hA
  have HV := Lib.hid (fun w => valid_any w len)
  have HPL := Lib.hid (fun w hw => plength_any (hs.below hw) hwf hE (hC.below hw) hT hLb len (W := w))
  obtain ⟨la, lc, rfl⟩ := hC.len
  obtain ⟨aa, ac, rfl, -, -, -⟩ := hA
  obtain ⟨W1, hW1⟩ : ∃ w, W.alloc (.cells #[.slice none 0 0, .int .i64 0] 96) = w := ⟨_, rfl⟩
  have k1 : MsC W1 W.heap.size (.slice none 0 0) 0 := by rw [← hW1]; exact heap_new' _ _
  have b1 : Below W.heap.size W W1 := by rw [← hW1]; exact (Below.refl _ _).alloc (Nat.le_refl _) _
  have B1 := Lib.hid b1; have K1 := Lib.hid k1
  have HEND : Hid (∀ (w : World) (y : Value) (n : Int), MsC w W.heap.size (.slice none 0 0) 0 → Below W.heap.size W w → ∃ w2, (w.setCell ⟨W.heap.size, 0, none⟩ y).setCell ⟨W.heap.size, 1, none⟩ (.int .i64 n) = w2 ∧ MsC w2 W.heap.size y n ∧ Below W.heap.size W w2) := Lib.hid (fun w y n h hb => ⟨_, rfl, h.set y n, (hb.setCell (p := ⟨W.heap.size, 0, none⟩) (Nat.le_refl _) _).setCell (p := ⟨W.heap.size, 1, none⟩) (Nat.le_refl _) _⟩)
  obtain ⟨cd, hcd⟩ : ∃ c, prepF E len L A = c := ⟨_, rfl⟩
  have HCD := Lib.hid hcd
  have HBAD : Hid (∀ (w : World) (y : Value) (c : Int), cd = c → c ≠ 0 → Below W.heap.size W w → y = err c → PrepP E len L A W (.returned (.tuple #[.agg #[.slice none 0 0, .int .i64 0], y])) w) := Lib.hid (fun w y c h1 h2 h3 h4 => .inr ⟨by rw [hcd, h1]; exact h2, by rw [hcd, h1, h4], h3⟩)
  clear hs hC hT hwf k1 b1 hcd
  by_cases hvl : 0 ≤ len ∧ len ≤ 1152921504606846976
  rotate_left
  · rw [decide_eq_false hvl] at HV
    have HC1 : Hid (cd = 1) := Lib.hid (by rw [← HCD.out]; unfold prepF maxL; rw [if_pos hvl])
    obtain ⟨w2, hw2, k2, hb2⟩ := HEND.out W1 (.slice none 0 0) 0 K1.out B1.out
    obtain ⟨h0, h1, -, -⟩ := k2.cells
    obtain ⟨c0, c1, f0, f1⟩ := K1.out.cells
    have HB2 := Lib.hid hb2
    clear hvl k2 hb2 HEND
    go_enter Try.func41, Try.ntmps41
    go_wp2_with fail
    refine (HV.out W1).mono ?_; rintro e w ⟨rfl, h⟩; rw [h]; clear h w
    go_wp2_with fail
    exact bodyPost_ret (v := .tuple #[.agg #[.slice none 0 0, .int .i64 0], err 1]) (by simp [results, Try.results41, go_sem, h0, h1, err]) rfl (HBAD.out _ _ 1 HC1.out (by omega) HB2.out rfl)
  · rw [decide_eq_true hvl] at HV
    have HVL := Lib.hid hvl
    clear hvl
    go_enter Try.func41, Try.ntmps41
    go_wp2_with fail
    refine (HV.out W1).mono ?_; rintro e w ⟨rfl, h⟩; rw [h]; clear h w
    clear hW1
    go_wp2_with fail
    go_loopw [32] (fun iv wr => ∃ i : Nat, iv = .int .i64 i ∧ i ≤ A.length ∧ (∀ k (h : k < A.length), k < i → 0 ≤ A[k].1 ∧ A[k].1 ≤ len) ∧ Below W1.heap.size W1 wr) (fun iv _ => A.length - (intOf iv).toNat)
    case atStart => exact ⟨0, rfl, Nat.zero_le _, fun k h hk => by omega, Below.refl _ _⟩
    case round =>
      obtain ⟨i, rfl, hi, hall, hB⟩ := hrel
      have HB := Lib.hid hB; have HALL := Lib.hid hall
      have K2 := Lib.hid (show MsC wr W.heap.size (.slice none 0 0) 0 from below_block hB K1.out)
      clear hB hall
      by_cases hlt : i < A.length
      · have hlt2 : (i : Int) < (A.length : Int) := by omega
        have hlt3 : (0 : Int) ≤ (i : Int) := by omega
        obtain ⟨a', cap', ha', -, -, hAi⟩ := (HA.out.below B1.out).below HB.out
        simp only [Value.slice.injEq] at ha'
        obtain ⟨rfl, -, rfl⟩ := ha'
        obtain ⟨b, rfl, q0, q1⟩ := hAi i hlt
        have HAX : Hid (∃ x r, A[i] = (x, r)) := Lib.hid ⟨_, _, rfl⟩
        obtain ⟨x, r, hxr⟩ := HAX.out
        rw [hxr] at q0 q1
        dsimp only at q0 q1
        have HXR := Lib.hid hxr
        obtain ⟨wz, w1, hz, hs1, ka, ba, ⟨p0, p1⟩, f0, f1⟩ := newAn wr x r
        obtain ⟨ga, hga⟩ : ∃ g, wr.heap.size = g := ⟨_, rfl⟩
        rw [hga] at hs1 p0 p1 f0 f1 ka
        obtain ⟨y0, y1, -, -⟩ := ka.cells
        have K3 := Lib.hid (show MsC w1 W.heap.size (.slice none 0 0) 0 from below_block ba K2.out)
        have HB1 := Lib.hid (Below.after HB.out ba)
        clear ka ba hAi hxr HAX
        by_cases hok : 0 ≤ x ∧ x ≤ len
        · obtain ⟨o1, o2⟩ := hok
          have o3 : ¬ x < 0 := by omega
          have o4 : ¬ x > len := by omega
          go_wp2_with fail
          clear hz hs1 p0 p1 f0 f1 y0 y1 q0 q1 hga
          go_roundw
          case rel => exact ⟨i + 1, by go_num, by omega, fun k h hk => by
            rcases Nat.lt_or_ge k i with g | g
            · exact HALL.out k h g
            · obtain rfl : k = i := by omega
              rw [HXR.out]; exact ⟨o1, o2⟩, HB1.out⟩
          case measure => first | (simp [intOf]; omega) | simp [intOf]
        · have HC1 : Hid (cd = 1) := Lib.hid (by
            rw [← HCD.out]; unfold prepF maxL
            rw [if_neg (by have := HVL.out; omega), if_neg]
            intro h
            have := List.all_eq_true.1 h A[i] (List.getElem_mem hlt)
            rw [HXR.out] at this
            simp only [Bool.and_eq_true, decide_eq_true_eq] at this
            exact hok this)
          obtain ⟨w2, hw2, k2, hb2⟩ := HEND.out w1 (.slice none 0 0) 0 K3.out (Below.after B1.out HB1.out)
          obtain ⟨h0, h1, -, -⟩ := k2.cells
          obtain ⟨c0, c1, g0, g1⟩ := K3.out.cells
          have HB2 := Lib.hid hb2
          clear k2 hb2 HEND
          by_cases hx0 : x < 0
          · clear hok
            go_wp2_with fail
            exact bodyPost_ret (v := .tuple #[.agg #[.slice none 0 0, .int .i64 0], err 1]) (by simp [results, Try.results41, go_sem, h0, h1, err]) rfl (HBAD.out _ _ 1 HC1.out (by omega) HB2.out rfl)
          · have hx1 : x > len := by omega
            clear hok
            go_wp2_with fail
            exact bodyPost_ret (v := .tuple #[.agg #[.slice none 0 0, .int .i64 0], err 1]) (by simp [results, Try.results41, go_sem, h0, h1, err]) rfl (HBAD.out _ _ 1 HC1.out (by omega) HB2.out rfl)
      · have hlt2 : ¬ (i : Int) < (A.length : Int) := by omega
        have HCE : Hid (cd = (lngF E len L).2) := Lib.hid (by
          rw [← HCD.out]; unfold prepF maxL
          rw [if_neg (by have := HVL.out; omega), if_pos]
          refine List.all_eq_true.2 fun a ha => ?_
          obtain ⟨k, hk, rfl⟩ := List.mem_iff_getElem.1 ha
          have := HALL.out k hk (by omega)
          simp only [Bool.and_eq_true, decide_eq_true_eq]; exact this)
        have HPW := Lib.hid (HPL.out wr (Below.after B1.out HB.out))
        clear hlt hi HALL
        by_cases hbad : (lngF E len L).2 = 0
        rotate_left
        · obtain ⟨c, hc⟩ : ∃ c, (lngF E len L).2 = c := ⟨_, rfl⟩
          have hz1 : (lngF E len L).1 = 0 := by
            unfold lngF at hbad ⊢
            split
            · rfl
            · rename_i h
              rw [if_neg h] at hbad
              split
              · rename_i h2; rw [if_pos h2] at hbad; exact absurd rfl hbad
              · rfl
          rw [hc] at HPW HCE hbad
          rw [hz1] at HPW
          have HEV : errV c = err c := by unfold errV; rw [if_neg hbad]
          rw [HEV] at HPW
          have HNZ := Lib.hid hbad
          unfold err at HPW
          clear hbad hc hz1 HEV
          go_wp2_with fail
          refine HPW.out.mono ?_; rintro e w3 ⟨rfl, b3⟩
          have K3 := Lib.hid (show MsC w3 W.heap.size (.slice none 0 0) 0 from below_block b3 K2.out)
          obtain ⟨w2, hw2, k2, hb2⟩ := HEND.out w3 (.slice none 0 0) 0 K3.out (Below.after (Below.after B1.out HB.out) b3)
          obtain ⟨h0, h1, -, -⟩ := k2.cells
          obtain ⟨c0, c1, g0, g1⟩ := K3.out.cells
          have HB2 := Lib.hid hb2
          clear k2 hb2 b3 HEND HPW
          go_wp2_with fail
          exact bodyPost_ret (v := .tuple #[.agg #[.slice none 0 0, .int .i64 0], err c]) (by simp [results, Try.results41, go_sem, h0, h1, err]) rfl (HBAD.out _ _ c HCE.out HNZ.out HB2.out rfl)
        · obtain ⟨o1, o2, o3, o4, o5⟩ := lngF_ok hbad
          rw [hbad] at HPW HCE
          obtain ⟨nl, hnl⟩ : ∃ n, (lngF E len L).1 = n := ⟨_, rfl⟩
          rw [hnl] at HPW
          have HNL := Lib.hid hnl; have HF0 := Lib.hid o3; have HO4 := Lib.hid o4
          have HDB : Hid (∀ j, 0 ≤ delF (L.take j) ∧ delF (L.take j) ≤ len) := Lib.hid (fun j => del_le o1 (formF_take o3 j))
          have HIB : Hid (∀ j, (insF E (L.take j) : Int) ≤ 1152921504606846976) := Lib.hid (fun j => by
            have h1 := insF_take_le E L j
            have h2 := del_le o1 o3
            omega)
          clear hbad hnl o3 o4 o5
          go_wp2_with fail
          refine HPW.out.mono ?_; rintro e w3 ⟨rfl, b3⟩
          rw [errV_0]
          have K3 := Lib.hid (show MsC w3 W.heap.size (.slice none 0 0) 0 from below_block b3 K2.out)
          have HB3 := Lib.hid (Below.after (Below.after B1.out HB.out) b3)
          obtain ⟨gm, hgm⟩ : ∃ g, w3.heap.size = g := ⟨_, rfl⟩
          obtain ⟨w4, hw4⟩ : ∃ w, w3.alloc (.cells #[.slice none 0 0, .int .i64 nl] 96) = w := ⟨_, rfl⟩
          have k4 : MsC w4 gm (.slice none 0 0) nl := by rw [← hw4, ← hgm]; exact heap_new' _ _
          have b4 : Below w3.heap.size w3 w4 := by rw [← hw4]; exact (Below.refl _ _).alloc (Nat.le_refl _) _
          have K4 := Lib.hid k4; have K34 := Lib.hid (show MsC w4 W.heap.size (.slice none 0 0) 0 from below_block b4 K3.out)
          have HB4 := Lib.hid (Below.after HB3.out b4)
          have HGM : Hid (W.heap.size < gm) := Lib.hid (by have h := K3.out; unfold MsC at h; have := (Array.getElem?_eq_some_iff.1 h).1; omega)
          clear k4 b4 b3 HPW
          go_wp2_with fail
          clear hw4 hgm
          go_loopw [15, 63] (fun mv iv wr => ∃ (j : Nat) (x : Int) (lv : Value), iv = .int .i64 j ∧ mv = .int .i64 x ∧ j ≤ L.length ∧ x = moreF E 0 (L.take j) ∧ MsC wr gm lv nl ∧ Mvs W.heap.size wr lv (mvsF E 0 (L.take j)) ∧ MsC wr W.heap.size (.slice none 0 0) 0 ∧ StAt n0 wr B most E ∧ Chs b0 wr (.slice la L.length lc) L ∧ Below W.heap.size W wr) (fun _ iv _ => L.length - (intOf iv).toNat)
          case atStart => exact ⟨0, 0, .slice none 0 0, rfl, rfl, Nat.zero_le _, rfl, K4.out, SlA.nil _ _ _ _ _, K34.out, HS.out.below HB4.out, HC.out.below HB4.out, HB4.out⟩
          case round =>
            clear K4 K34 HB4 K3 HB3 HB K2
            obtain ⟨j, x, lv, rfl, rfl, hj, hx, hk1, hM, hk2, hst, hch, hB⟩ := hrel
            obtain ⟨ma, mc, rfl⟩ := hM.len
            obtain ⟨ml, hml⟩ : ∃ n, (mvsF E 0 (L.take j)).length = n := ⟨_, rfl⟩
            rw [hml] at hk1 hM
            have HK1 := Lib.hid hk1; have HM := Lib.hid hM; have HK2 := Lib.hid hk2; have HST := Lib.hid hst; have HCH := Lib.hid hch; have HB := Lib.hid hB; have HX := Lib.hid hx; have HML := Lib.hid hml
            have hxb : -1152921504606846976 ≤ x ∧ x ≤ 1152921504606846976 := by
              have h1 := HDB.out j; have h2 := HIB.out j
              rw [hx, moreF_eq]; omega
            obtain ⟨c0, c1, g0, g1⟩ := hk1.cells
            clear hk1 hM hk2 hst hch hB hx hml
            by_cases hlt : j < L.length
            · have hlt2 : (j : Int) < (L.length : Int) := by omega
              have hlt3 : (0 : Int) ≤ (j : Int) := by omega
              obtain ⟨g, cap, hv, -, -, hc⟩ := Chs.at HCH.out hlt
              simp only [Value.slice.injEq] at hv
              obtain ⟨rfl, -, rfl⟩ := hv
              obtain ⟨q0, q1, q2⟩ := hc wr (Below.refl _ _) j hlt
              obtain ⟨hid, -⟩ := HT.out L[j] (List.getElem_mem hlt)
              obtain ⟨m1, m2, m3⟩ := formF_mem L _ HF0.out L[j] (List.getElem_mem hlt)
              have HNM : Hid (moreF E 0 (L.take (j + 1)) = x + (((txt E L[j].id).length : Int) - L[j].n) ∧ mvsF E 0 (L.take (j + 1)) = mvsF E 0 (L.take j) ++ [⟨L[j].pos, L[j].pos + L[j].n, L[j].pos + x, L[j].pos + x + (txt E L[j].id).length⟩]) := Lib.hid (by
                rw [take_snoc hlt, moreF_snoc, mvsF_snoc, ← HX.out]; exact ⟨rfl, rfl⟩)
              generalize L[j] = c at *
              obtain ⟨wz, w5, hz, hs1, kc, bc, ⟨p0, p1, p2⟩, f0, f1, f2⟩ := newCh wr c
              obtain ⟨gc, hgc⟩ : ∃ x, wr.heap.size = x := ⟨_, rfl⟩
              rw [hgc] at hs1 p0 p1 p2 f0 f1 f2 kc
              obtain ⟨y0, y1, y2⟩ := kc.cells
              obtain ⟨hw, hwl⟩ := HWF.out.len hid
              have HW := Lib.hid (weight_any (HST.out.below bc) hid hE)
              obtain ⟨u, hu⟩ : ∃ u, (entAt E c.id).w = u := ⟨_, rfl⟩
              obtain ⟨tl, htl⟩ : ∃ n, (txt E c.id).length = n := ⟨_, rfl⟩
              have hul : u.len = tl := by rw [← hu, hw, ← htl]; rfl
              have HUL := Lib.hid hul
              rw [hu] at HW
              rw [htl] at HNM hwl
              unfold wtV at HW
              have KC5 := Lib.hid kc; have B5 := Lib.hid bc
              clear hc kc bc hw hu htl
              go_wp2_with fail
              refine HW.out.mono ?_; rintro e w6 ⟨rfl, b6⟩
              obtain ⟨wz', w7, hz', hs', kw, bw, ⟨o0, o1, o2, o3, o4, o5⟩, i0, i1, i2, i3, i4, i5⟩ := newWt w6 u
              obtain ⟨gw, hgw⟩ : ∃ x, w6.heap.size = x := ⟨_, rfl⟩
              rw [hgw] at hs' o0 o1 o2 o3 o4 o5 i0 i1 i2 i3 i4 i5 kw
              have b7 := Below.after b6 bw
              have B7 := Lib.hid (Below.after B5.out b7)
              have KC7 := Lib.hid (show ChC w7 gc c from below_block b7 KC5.out)
              have KW7 := Lib.hid kw
              have K17 := Lib.hid (show MsC w7 gm (.slice ma ml mc) nl from below_block B7.out HK1.out)
              have K27 := Lib.hid (show MsC w7 W.heap.size (.slice none 0 0) 0 from below_block B7.out HK2.out)
              have HM7 := Lib.hid (HM.out.below B7.out)
              have HB7 := Lib.hid (Below.after HB.out B7.out)
              obtain ⟨z0, z1, z2⟩ := KC7.out.cells
              obtain ⟨x0, x1, x2, x3, x4, x5⟩ := kw.cells
              rw [hul] at x0
              obtain ⟨l0, l1, l2, l3⟩ := K17.out.cells
              have a1 : IntKind.i64.wrap (c.pos + x) = c.pos + x := by rw [IntKind.wrap_i64]; omega
              have a2 : IntKind.i64.wrap (c.pos + c.n) = c.pos + c.n := by rw [IntKind.wrap_i64]; omega
              have a3 : IntKind.i64.wrap (c.pos + x + (tl : Int)) = c.pos + x + (tl : Int) := by rw [IntKind.wrap_i64]; omega
              have a4 : IntKind.i64.wrap ((tl : Int) - c.n) = (tl : Int) - c.n := by rw [IntKind.wrap_i64]; omega
              have a5 : IntKind.i64.wrap (x + ((tl : Int) - c.n)) = x + ((tl : Int) - c.n) := by rw [IntKind.wrap_i64]; omega
              have HLN : Hid ((mvsF E 0 (L.take j)).length ≤ 1000000) := Lib.hid (by rw [mvsF_len, List.length_take]; omega)
              clear b6 bw b7 kw hul
              clear hz hs1 p0 p1 p2 f0 f1 f2 q0 q1 q2 y0 y1 y2 hgc c0 c1 g0 g1
              obtain ⟨v8, w8, hrun, hS8, hg8, hb8⟩ := run_app1 elemMv encMv_len 94 HM7.out ⟨c.pos, c.pos + c.n, c.pos + x, c.pos + x + (tl : Int)⟩ 1 (cs := #[.int .i64 c.pos, .int .i64 (c.pos + c.n), .int .i64 (c.pos + x), .int .i64 (c.pos + x + (tl : Int))]) rfl (encMv_one _) (by have := HLN.out; omega) HB7.out.size
              have hl8 : (mvsF E 0 (L.take j) ++ [(⟨c.pos, c.pos + c.n, c.pos + x, c.pos + x + (tl : Int)⟩ : Mv)]).length = ml + 1 := by rw [List.length_append, List.length_singleton, HML.out]
              obtain ⟨v8', hv8⟩ : ∃ v, v8 = v := ⟨_, rfl⟩
              obtain ⟨a8, c8, he8⟩ := hS8.len
              rw [hl8] at he8
              subst he8
              clear hv8 hl8
              have k18 : MsC w8 gm (.slice ma ml mc) nl := app_other HM7.out hg8 K17.out (by decide)
              have k28 : MsC w8 W.heap.size (.slice none 0 0) 0 := app_other HM7.out hg8 K27.out (by decide)
              have kc8 : ChC w8 gc c := app_other HM7.out hg8 KC7.out (by decide)
              have kw8 : WtC w8 gw u := app_other HM7.out hg8 KW7.out (by decide)
              obtain ⟨t0, t1, t2, t3⟩ := k18.cells
              obtain ⟨w9, hw9⟩ : ∃ w, w8.setCell ⟨gm, 0, none⟩ (.slice a8 (ml + 1) c8) = w := ⟨_, rfl⟩
              have HX1 : Hid (MsC w9 gm (.slice a8 (ml + 1) c8) nl) := Lib.hid (by rw [← hw9]; exact k18.set0 (.slice a8 (ml + 1) c8))
              have HX2 : Hid (MsC w9 W.heap.size (.slice none 0 0) 0) := Lib.hid (by rw [← hw9]; exact set_other (by have := HGM.out; omega) k28)
              have kc9 : ChC w9 gc c := by rw [← hw9]; exact set_other (ne_type' kc8 k18 (by decide)) kc8
              have kw9 : WtC w9 gw u := by rw [← hw9]; exact set_other (ne_type' kw8 k18 (by decide)) kw8
              have HX3 : Hid (Mvs W.heap.size w9 (.slice a8 (ml + 1) c8) (mvsF E 0 (L.take (j + 1)))) := Lib.hid (by rw [← hw9, HNM.out.2]; exact SlA.setCell hS8 (a := ⟨gm, 0, none⟩) _ k18 (by decide))
              have HX4 : Hid (Below W.heap.size W w9) := Lib.hid (by rw [← hw9]; exact (HB7.out.trans hb8).setCell (p := ⟨gm, 0, none⟩) (by show W.heap.size ≤ gm; have := HGM.out; omega) _)
              have HX5 : Hid (StAt n0 w9 B most E) := Lib.hid (by rw [← hw9]; exact StAt.set' (StAt.app' (HST.out.below B7.out) HM7.out hg8 (by decide) (by decide)) k18 (by decide) (by decide) (.slice a8 (ml + 1) c8))
              have hx6 := SlA.setCell (SlA.keep (HCH.out.below B7.out) (fun k cs fz h => app_other HM7.out hg8 h (by decide))) (a := ⟨gm, 0, none⟩) (.slice a8 (ml + 1) c8) k18 (by decide)
              rw [hw9] at hx6
              have HX6 := Lib.hid hx6
              clear hx6
              obtain ⟨d0, d1, d2⟩ := kc9.cells
              obtain ⟨e0, e1, e2, e3, e4, e5⟩ := kw9.cells
              rw [HUL.out] at e0
              clear hS8 hg8 hb8 k18 k28 kc8 kw8 kc9 kw9
              go_wp2_with (
                at_builtin
                refine wp_run_app rfl _ _ rfl rfl rfl hrun ?_)
              go_roundw
              case rel => exact ⟨j + 1, x + ((tl : Int) - c.n), .slice a8 (ml + 1) c8, by go_num, rfl, by omega, HNM.out.1.symm, HX1.out, HX3.out, HX2.out, HX5.out, HX6.out, HX4.out⟩
              case measure => first | (simp [intOf]; omega) | simp [intOf]
            · have hlt2 : ¬ (j : Int) < (L.length : Int) := by omega
              have e : L.take j = L := List.take_of_length_le (by omega)
              rw [e] at HM
              obtain ⟨w9, hw9, k9, hb9⟩ := HEND.out wr (.slice ma ml mc) nl HK2.out HB.out
              obtain ⟨h0, h1, -, -⟩ := k9.cells
              obtain ⟨t0, t1, t2, t3⟩ := HK2.out.cells
              have HB9 := Lib.hid hb9
              have HM9 : Hid (Mvs W.heap.size w9 (.slice ma ml mc) (mvsF E 0 L)) := Lib.hid (by
                rw [← hw9]
                refine SlA.setCell (SlA.setCell HM.out (a := ⟨W.heap.size, 0, none⟩) _ HK2.out (by decide)) (a := ⟨W.heap.size, 1, none⟩) _ (heap_set0 _ HK2.out) (by decide))
              clear k9 hb9 e HEND
              go_wp2_with fail
              exact bodyPost_ret (v := .tuple #[.agg #[.slice ma ml mc, .int .i64 nl], .nilIface]) (by simp [results, Try.results41, go_sem, h0, h1]) rfl (.inl ⟨by rw [HCD.out]; exact HCE.out, _, by rw [HNL.out], HM9.out, HB9.out⟩)
end M
end Go.Proofs.Ytplccefjljdjnaa
