/- The reference's Compose; the fold of maps. -/
import Derived.Test.YtpgnhnimndagpaaMapsR
import Derived.Test.YtpgnhnimndagpaaCatch
namespace Go.Proofs.Ytpgnhnimndagpaa
open Go.RowKit

/-- A slice of slices of numbers, wherever they lie. -/
def RowsAt (W : World) (v : Value) (Ls : List (List Int)) : Prop := ∃ vs : List Value, RowAt (fun u => u) W v vs ∧ vs.length = Ls.length ∧ ∀ (i : Nat) (h : i < vs.length) (h' : i < Ls.length), RowAt (Value.int .i64) W vs[i] Ls[i] ∧ ∀ n c, vs[i] = .slice none n c → c = 0
theorem RowsAt.below {A C : World} {v : Value} {Ls : List (List Int)} (h : RowsAt A v Ls) (hb : Below A.heap.size A C) : RowsAt C v Ls := by
  obtain ⟨vs, h1, h2, h3⟩ := h
  exact ⟨vs, h1.below hb, h2, fun i a b => ⟨(h3 i a b).1.below hb, (h3 i a b).2⟩⟩
theorem RowsAt.nil (W : World) : RowsAt W (.slice none 0 0) [] := ⟨[], ⟨none, 0, rfl, by simp, by unfold maxLen; omega, fun i h => by cases h⟩, rfl, fun i h => by cases h⟩
theorem RowsAt.at {W : World} {v : Value} {Ls : List (List Int)} (h : RowsAt W v Ls) {i : Nat} (hi : i < Ls.length) : ∃ b cap a n c, v = .slice (some b) Ls.length cap ∧ (∀ w, Below W.heap.size W w → w.cell? (b.add i) = some (.slice a n c)) ∧ RowAt (Value.int .i64) W (.slice a n c) Ls[i] ∧ n = Ls[i].length ∧ (a = none → n = 0 ∧ c = 0) := by
  obtain ⟨vs, h1, h2, h3⟩ := h
  have hi' : i < vs.length := by omega
  obtain ⟨b, cap, hv, hc⟩ := h1.at hi'
  obtain ⟨hr, hnil⟩ := h3 i hi' hi
  obtain ⟨a, c, he, hx, hy, hz⟩ := hr
  refine ⟨b, cap, a, Ls[i].length, c, by rw [hv, h2], fun w hw => ?_, ⟨a, c, rfl, hx, hy, hz⟩, rfl, fun ha => ?_⟩
  · rw [hc w hw, he]
  · subst ha
    refine ⟨?_, hnil _ _ he⟩
    rcases Nat.eq_zero_or_pos Ls[i].length with h0 | h0
    · exact h0
    · obtain ⟨bb, e, -⟩ := hz 0 h0; cases e
theorem RowsAt.len {W : World} {v : Value} {Ls : List (List Int)} (h : RowsAt W v Ls) : ∃ a cap, v = .slice a Ls.length cap ∧ Ls.length ≤ cap ∧ cap ≤ 9223372036854775807 := by
  obtain ⟨vs, ⟨a, c, h1, h3, h4, -⟩, h2, -⟩ := h
  unfold maxLen at h4
  exact ⟨a, c, by rw [h1, h2], by omega, h4⟩
/-- A number's cell lies on behind a store into a box of a slice. -/
theorem cell_set_ne2 {w : World} {B : Nat} {a3 : Option Addr} {k3 cp3 : Nat} {t : TypeId} {u : Value} {b : Addr} {x : Int} (h : w.heap[B]? = some (.cells #[.slice a3 k3 cp3] t (0, 0))) (hb : w.cell? b = some (.int .i64 x)) : (w.setCell ⟨B, 0, none⟩ u).cell? b = some (.int .i64 x) := by
  rw [World.cell?_setCell_other]
  · exact hb
  · rintro rfl
    rw [box_cell h] at hb; cases hb
def encI (x : Int) : List Value := [.int .i64 x]
theorem elemI : Elem Try.prog 40 3 1 8 := elem_of (z := .int .i64 0) (by kernel_rfl) (by kernel_rfl) rfl (by decide) (by decide)

set_option maxRecDepth 100000 in
set_option maxHeartbeats 4000000 in
theorem ref_comp {W : World} {v : Value} {Ls : List (List Int)} (hL : RowsAt W v Ls) {n : Int} {m : Nat} (hm : (n = m ∧ 0 < m) ∨ (n ≤ 0 ∧ m = 0)) (hn0 : -9223372036854775808 ≤ n) (hm2 : m ≤ 1000000) (hl : Ls.length ≤ 1000000) :
    Calls Try.prog 28 #[v, .int .i64 n] W fun e w' => ∃ r, e = .returned r ∧ SlA W.heap.size w' 3 1 encI r (compL m Ls) ∧ Below W.heap.size W w' := by
  have H := Lib.hid hL; have HM := Lib.hid hm
  obtain ⟨a, cap, rfl, -, -⟩ := hL.len
  have hnm : n ≤ (m : Int) := by omega
  have hmn : ∀ i : Nat, i < m → (i : Int) < n := by omega
  have hmn2 : ∀ i : Nat, ¬ i < m → ¬ (i : Int) < n := by omega
  have HMN := Lib.hid hmn; have HMN2 := Lib.hid hmn2
  clear hm hmn hmn2
  go_enter Try.func28, Try.ntmps28
  go_wp2_with fail
  go_loopw [5, 6] (fun s c wr => ∃ i : Nat, i ≤ m ∧ c = .int .i64 i ∧ SlA W.heap.size wr 3 1 encI s ((compL m Ls).take i) ∧ Below W.heap.size W wr) (fun _ c _ => m - (intOf c).toNat)
  case atStart => exact ⟨0, by omega, rfl, by simpa using SlA.nil _ _ _ _ _, Below.refl _ _⟩
  case round =>
    obtain ⟨i, hi, rfl, hS, hB⟩ := hrel
    have HS := Lib.hid hS; have HB := Lib.hid hB
    clear hS hB
    have hcl : (compL m Ls).length = m := by simp [compL]
    by_cases hlt : i < m
    · have hl3 := HMN.out i hlt
      have hl4 : (0 : Int) ≤ (i : Int) := by omega
      have HT : Hid ((compL m Ls).take (i + 1) = (compL m Ls).take i ++ [Ls.foldl (fun x f => applyL m f x) (i : Int)]) := Lib.hid (by
        rw [List.take_succ_eq_append_getElem (by rw [hcl]; exact hlt)]
        simp [compL])
      have hlj : ((compL m Ls).take i).length = i := by rw [List.length_take, hcl]; omega
      obtain ⟨a1, c1, hv⟩ := HS.out.len
      rw [hlj] at hv
      subst hv
      obtain ⟨wo, rfl⟩ : ∃ wo : World, wo = wr := ⟨_, rfl⟩
      have hlj2 := Lib.hid hlj
      clear hlj hcl
      go_wp2_with fail
      go_loopw [7, 17] (fun x c w => ∃ k : Nat, k ≤ Ls.length ∧ c = .int .i64 k ∧ x = .int .i64 ((Ls.take k).foldl (fun x f => applyL m f x) (i : Int)) ∧ Below wo.heap.size wo w) (fun _ c _ => Ls.length - (intOf c).toNat)
      case atStart => exact ⟨0, by omega, rfl, rfl, Below.refl _ _⟩
      case round =>
        obtain ⟨k, hk, rfl, rfl, hB⟩ := hrel
        have HBk := Lib.hid hB
        clear hB
        by_cases hlt2 : k < Ls.length
        · have hk3 : (k : Int) < (Ls.length : Int) := by omega
          have hk4 : (0 : Int) ≤ (k : Int) := by omega
          obtain ⟨b, cp, a2, n2, c2, he, hc, hr, hn2, -⟩ := H.out.at hlt2
          simp only [Value.slice.injEq] at he
          obtain ⟨rfl, -, rfl⟩ := he
          have hbw := Below.step HB.out HBk.out
          have m1 := hc wr hbw
          have HR := Lib.hid (hr.below hbw)
          have hin := foldA_in (m := m) (Ls.take k) (x := (i : Int)) (by omega)
          have HT2 : Hid ((Ls.take (k + 1)).foldl (fun x f => applyL m f x) (i : Int) = applyL m Ls[k] ((Ls.take k).foldl (fun x f => applyL m f x) (i : Int))) := Lib.hid (by rw [List.take_succ_eq_append_getElem hlt2, List.foldl_append]; rfl)
          generalize Ls[k] = f at *
          generalize (Ls.take k).foldl (fun x f => applyL m f x) (i : Int) = x at *
          clear hc hr hbw hn2
          go_wp2_with fail
          refine (ref_apply HR.out HM.out hn0 hm2 hin).mono ?_
          rintro e w2 ⟨rfl, b2⟩
          have HB2 := Lib.hid (Below.step HBk.out b2)
          clear b2 m1
          go_wp2_with fail
          go_roundw
          case rel => exact ⟨k + 1, by omega, by go_num, by rw [HT2.out], HB2.out⟩
          case measure => simp [intOf]; omega
        · obtain rfl : k = Ls.length := by omega
          rw [List.take_length]
          have HSk := Lib.hid (HS.out.below HBk.out); have HBw := Lib.hid (Below.step HB.out HBk.out)
          generalize Ls.foldl (fun x f => applyL m f x) (i : Int) = x at *
          go_wp2_with (
            at_builtin
            refine wp_app1G (w0 := wr) elemI (fun _ => rfl) rfl _ _ rfl rfl HSk.out x rfl rfl (by simp [encI, Value.oneCell']) (by rw [hlj2.out]; omega) HBw.out.size ?_
            intro v' w5 hS' hg hb'
            have HS5 := Lib.hid hS'; have HB5 := Lib.hid (HBw.out.trans hb')
            clear hS' hg hb')
          go_roundw
          case rel => exact ⟨i + 1, by omega, by go_num, by rw [HT.out]; exact HS5.out, HB5.out⟩
          case measure => simp [intOf]; omega
    · obtain rfl : i = m := by omega
      have hl3 := HMN2.out i hlt
      have HSF : Hid (SlA W.heap.size wr 3 1 encI u5 (compL i Ls)) := Lib.hid (by have := HS.out; rwa [List.take_of_length_le (by omega)] at this)
      clear HS
      go_wp2_with fail
      go_ret
      exact ⟨_, rfl, HSF.out, HB.out⟩

set_option maxRecDepth 100000 in
set_option maxHeartbeats 4000000 in
theorem fold_maps {W : World} {v : Value} {Ls : List (List Int)} (hL : RowsAt W v Ls) {n : Int} {m : Nat} (hm : (n = m ∧ 0 < m) ∨ (n ≤ 0 ∧ m = 0)) (hn0 : -9223372036854775808 ≤ n) (hm2 : m ≤ 1000000) (hl : Ls.length ≤ 1000000) (hval : ∀ f ∈ Ls, validL m f) :
    Calls Try.prog 31 #[.agg #[.int .i64 n], v] W fun e w' => ∃ r, e = .returned r ∧ RowAt (Value.int .i64) w' r (fold1 (joinL m) (idL m) Ls) ∧ Below W.heap.size W w' := by
  have H := Lib.hid hL; have HM := Lib.hid hm
  obtain ⟨a, cap, rfl, hc1, hc2⟩ := hL.len
  clear hm
  have hmf : ∀ (fn : Fn) (first cap : Array Value) (w : World), (Instr.makeFunc fn first cap).run Try.prog w = .ok (.func fn first cap) w := fun _ _ _ _ => rfl
  have hmU : ∀ w : World, (method 206 61 (.agg #[.int .i64 n]) "Unit").run Try.prog w = .ok (26, .agg #[.int .i64 n]) w := fun _ => by kernel_rfl
  have hmJ : ∀ w : World, (method 206 61 (.agg #[.int .i64 n]) "Join").run Try.prog w = .ok (27, .agg #[.int .i64 n]) w := fun _ => by kernel_rfl
  obtain ⟨W0, hW0⟩ : ∃ W0, (W.alloc (.cells #[.int .i64 n] 61)).alloc (.cells #[.slice none 0 0] 63) = W0 := ⟨_, rfl⟩
  have HB0 : Hid (Below W.heap.size W W0) := Lib.hid (by rw [← hW0]; exact ((Below.refl _ W).alloc (Nat.le_refl _) _).alloc (by simp) _)
  have n0 : W0.heap[W.heap.size]? = some (.cells #[.int .i64 n] 61 (0, 0)) := by rw [← hW0]; exact (Below.heap_alloc _ _ _ (by simp)).trans (heap_new _ _)
  have n1 : W0.heap[W.heap.size + 1]? = some (.cells #[.slice none 0 0] 63 (0, 0)) := by rw [← hW0]; exact heap_new1 _ _ _
  have HN := Lib.hid n1; have HN0 := Lib.hid n0
  have c0 := box_cell n0
  clear n0 n1
  cases Ls with
  | nil =>
    go_enter_defers Try.func31, Try.ntmps31
    go_wp2_with fail
    refine (maps_unit HM.out hm2 _).mono ?_
    rintro e w1 ⟨b, rfl, hr, hbb, b1⟩
    have HB1 := Lib.hid (Below.step HB0.out b1); have n1 := box_below b1 HN.out
    have c1 := box_cell n1; have f1 := box_frozen n1
    have hx := box_set (.slice (some ⟨b, 0, none⟩) m m) n1
    have HC := Lib.hid (box_cell hx)
    have hr2 : Blk (w1.setCell ⟨W.heap.size + 1, 0, none⟩ (.slice (some ⟨b, 0, none⟩) m m)) b (idL m) := (Below.heap_setCell _ _ _ _ (by
      have := (Array.getElem?_eq_some_iff.1 HN.out).1; simp; omega)).trans hr
    have HR := Lib.hid hr2
    have HBF := Lib.hid (HB1.out.setCell (p := ⟨W.heap.size + 1, 0, none⟩) (by simp) (.slice (some ⟨b, 0, none⟩) m m))
    clear b1 n1 hx hr2 hr c0
    go_wp2_with fail
    refine leaves_cons (f := 51) (args := #[.pointer (some ⟨W.heap.size + 1, 0, none⟩)]) (by simp) (by simp [go_sem]) ?_
    refine (catch51 ⟨W.heap.size + 1, 0, none⟩ _).mono ?_
    rintro e u' w'' ⟨rfl, rfl, rfl⟩
    have c2 := HC.out
    simp only [Leaves, settle, results, Try.results31]
    simp [go_sem, c2]
    refine ⟨?_, HBF.out⟩
    have := HR.out.row (by rw [idL_len]; unfold maxLen; omega)
    rw [idL_len] at this
    exact this
  | cons f Ls =>
    obtain ⟨b, cp, a2, n2, c2, he, hc, hr, hn2, -⟩ := H.out.at (i := 0) (by simp)
    simp only [Value.slice.injEq] at he
    obtain ⟨rfl, -, rfl⟩ := he
    have z0 : b.add 0 = b := by unfold Addr.add; simp
    rw [z0] at hc
    have m1 := hc W0 HB0.out
    have c1 := box_cell HN.out; have f1 := box_frozen HN.out
    have hl0 : (0 : Int) < ((Ls.length + 1 : Nat) : Int) := by omega
    have hl1 : (((Ls.length + 1 : Nat) : Int) == 0) = false := by simp; omega
    have HSTART : Hid (RowAt (Value.int .i64) (W0.setCell ⟨W.heap.size + 1, 0, none⟩ (.slice a2 n2 c2)) (.slice a2 n2 c2) f) := Lib.hid (hr.below (HB0.out.setCell (p := ⟨W.heap.size + 1, 0, none⟩) (by simp) _))
    have HS0 := Lib.hid (box_set (.slice a2 n2 c2) HN.out)
    have HS1 : Hid ((W0.setCell ⟨W.heap.size + 1, 0, none⟩ (.slice a2 n2 c2)).heap[W.heap.size]? = some (.cells #[.int .i64 n] 61 (0, 0))) := Lib.hid ((Below.heap_setCell _ _ _ _ (by simp)).trans HN0.out)
    have HBS := Lib.hid (HB0.out.setCell (p := ⟨W.heap.size + 1, 0, none⟩) (by simp) (.slice a2 n2 c2))
    clear hc hr hn2 hval z0
    simp only [List.length_cons] at *
    go_enter_defers Try.func31, Try.ntmps31
    go_wp2_with fail
    rotate_left
    all_goals
      clear hW0 c0 c1 f1 m1
      go_loopw [20] (fun c wr => ∃ (j : Nat) (a : Option Addr) (k cp : Nat), j ≤ Ls.length ∧ c = .int .i64 j ∧ wr.heap[W.heap.size + 1]? = some (.cells #[.slice a k cp] 63 (0, 0)) ∧ wr.heap[W.heap.size]? = some (.cells #[.int .i64 n] 61 (0, 0)) ∧ RowAt (Value.int .i64) wr (.slice a k cp) ((Ls.take j).foldl (joinL m) f) ∧ Below W.heap.size W wr) (fun c _ => Ls.length - (intOf c).toNat)
      case atStart => exact ⟨0, a2, n2, c2, by omega, rfl, HS0.out, HS1.out, HSTART.out, HBS.out⟩
      case round =>
        obtain ⟨j, a3, k3, cp3, hj, rfl, hc, hd, hR, hB⟩ := hrel
        have HB1 := Lib.hid hB; have HC := Lib.hid hc; have HD := Lib.hid hd; have HR := Lib.hid hR
        have c2 := box_cell hc; have f2 := box_frozen hc; have c3 := box_cell hd
        clear hB hc hd hR
        by_cases hlt : j < Ls.length
        · have hl3 : (j : Int) < (Ls.length : Int) := by omega
          have hl4 : (0 : Int) ≤ (j : Int) := by omega
          obtain ⟨b', cp', a4, n4, c4, he, hc, hr, hn4, -⟩ := H.out.at (i := j + 1) (by simpa using hlt)
          simp only [Value.slice.injEq, Option.some.injEq] at he
          obtain ⟨rfl, -, -⟩ := he
          have e : b.add (j + 1) = ⟨b.block, b.off + 1 + j, none⟩ := by unfold Addr.add; simp; omega
          rw [e] at hc
          have m1 := hc wr HB1.out
          simp only [List.getElem_cons_succ] at hr hn4
          have HR4 := Lib.hid (hr.below HB1.out)
          have HT := Lib.hid (take_snoc (joinL m) f Ls j hlt)
          clear hc hr hn4 e
          go_wp2_with fail
          all_goals
            refine (maps_join HR.out HR4.out HM.out hn0 hm2).mono ?_
            rintro e w2 ⟨b2', rfl, hblk, hbb, b2⟩
            have hnj : (joinL m ((Ls.take j).foldl (joinL m) f) Ls[j]).length = m := by
              unfold joinL; rw [thenL_len]; split
              · rename_i h; exact h.1
              · exact idL_len m
            rw [← HT.out] at hblk hnj
            have hn2' := box_below b2 HC.out; have hd2 := box_below b2 HD.out
            have hlt2 : W.heap.size + 1 < b2' := Nat.lt_of_lt_of_le (Array.getElem?_eq_some_iff.1 HC.out).1 hbb
            have k2 := box_cell hn2'; have g2 := box_frozen hn2'
            have HN2 := Lib.hid (box_set (.slice (some ⟨b2', 0, none⟩) m m) hn2')
            have HD2 : Hid ((w2.setCell ⟨W.heap.size + 1, 0, none⟩ (.slice (some ⟨b2', 0, none⟩) m m)).heap[W.heap.size]? = some (.cells #[.int .i64 n] 61 (0, 0))) := Lib.hid ((Below.heap_setCell _ _ _ _ (by simp)).trans hd2)
            have HR2 : Hid (RowAt (Value.int .i64) (w2.setCell ⟨W.heap.size + 1, 0, none⟩ (.slice (some ⟨b2', 0, none⟩) m m)) (.slice (some ⟨b2', 0, none⟩) m m) ((Ls.take (j + 1)).foldl (joinL m) f)) := Lib.hid (by
              have hb3 : Blk (w2.setCell ⟨W.heap.size + 1, 0, none⟩ (.slice (some ⟨b2', 0, none⟩) m m)) b2' ((Ls.take (j + 1)).foldl (joinL m) f) := (Below.heap_setCell _ _ _ _ (by simp; omega)).trans hblk
              have := hb3.row (by rw [hnj]; unfold maxLen; omega)
              rwa [hnj] at this)
            have HB2 := Lib.hid ((Below.step HB1.out b2).setCell (p := ⟨W.heap.size + 1, 0, none⟩) (by simp) (.slice (some ⟨b2', 0, none⟩) m m))
            clear b2 hblk hbb hn2' hd2 hlt2 hnj c2 f2 c3 m1
            go_wp2_with fail
            go_roundw
            case rel => exact ⟨j + 1, _, _, _, by omega, by go_num, HN2.out, HD2.out, HR2.out, HB2.out⟩
            case measure => simp [intOf]; omega
        · obtain rfl : j = Ls.length := by omega
          rw [List.take_length] at HR
          have HX := Lib.hid (box_cell (box_set (.slice a3 k3 cp3) HC.out))
          have HBF := Lib.hid (HB1.out.setCell (p := ⟨W.heap.size + 1, 0, none⟩) (by simp) (.slice a3 k3 cp3))
          have HRF : Hid (RowAt (Value.int .i64) (wr.setCell ⟨W.heap.size + 1, 0, none⟩ (.slice a3 k3 cp3)) (.slice a3 k3 cp3) (Ls.foldl (joinL m) f)) := Lib.hid (by
            obtain ⟨x, y, e, p1, p2, p3⟩ := HR.out
            refine ⟨x, y, e, p1, p2, fun i hi => ?_⟩
            obtain ⟨bb, e1, e2⟩ := p3 i hi
            refine ⟨bb, e1, ?_⟩
            refine cell_set_ne2 HC.out e2)
          clear HR
          go_wp2_with fail
          refine leaves_cons (f := 51) (args := #[.pointer (some ⟨W.heap.size + 1, 0, none⟩)]) (by simp) (by simp [go_sem]) ?_
          refine (catch51 ⟨W.heap.size + 1, 0, none⟩ _).mono ?_
          rintro e u' w'' ⟨rfl, rfl, rfl⟩
          have c5 := HX.out
          simp only [Leaves, settle, results, Try.results31]
          simp [go_sem, c5]
          exact ⟨HRF.out, HBF.out⟩
end Go.Proofs.Ytpgnhnimndagpaa
