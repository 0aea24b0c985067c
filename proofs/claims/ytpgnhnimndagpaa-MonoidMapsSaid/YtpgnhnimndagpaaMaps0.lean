/- Maps: Unit, valid, Join. -/
import Derived.Test.YtpgnhnimndagpaaCatch
import Derived.Test.YtpgnhnimndagpaaJoins
import Derived.Test.YtpgnhnimndagpaaArr
import Derived.Test.YtpgnhnimndagpaaLists
import Derived.Test.YtpgnhnimndagpaaSame
import Derived.Laws.CopyOwn
import Derived.Outline
namespace Go.Proofs.Ytpgnhnimndagpaa
open Go.RowKit

/-- 0 .. n - 1. -/
def idL (n : Nat) : List Int := (List.range n).map fun i : Nat => (i : Int)
def validL (n : Nat) (f : List Int) : Prop := f.length = n ∧ ∀ x ∈ f, 0 ≤ x ∧ x < (n : Int)
instance (n : Nat) (f : List Int) : Decidable (validL n f) := inferInstanceAs (Decidable (_ ∧ _))
def thenL (n : Nat) (r g : List Int) : List Int := if validL n g then r.map (fun x => g.getD x.toNat 0) else r
def joinL (n : Nat) (f g : List Int) : List Int := thenL n (if validL n f then f else idL n) g
theorem idL_len (n : Nat) : (idL n).length = n := by simp [idL]
theorem idL_valid (n : Nat) : validL n (idL n) := ⟨idL_len n, fun x hx => by
  obtain ⟨i, hi, rfl⟩ := List.mem_map.1 hx
  have := List.mem_range.1 hi; omega⟩
theorem thenL_len (n : Nat) (r g : List Int) : (thenL n r g).length = r.length := by unfold thenL; split <;> simp
theorem thenL_valid {n : Nat} {r g : List Int} (h : validL n r) : validL n (thenL n r g) := by
  unfold thenL
  split
  · rename_i hg
    refine ⟨by rw [List.length_map]; exact h.1, fun x hx => ?_⟩
    obtain ⟨y, hy, rfl⟩ := List.mem_map.1 hx
    have hyn := h.2 y hy
    have : y.toNat < g.length := by rw [hg.1]; omega
    rw [List.getD_eq_getElem?_getD, List.getElem?_eq_getElem this]
    exact hg.2 _ (List.getElem_mem this)
  · exact h

/-- A block of these numbers. -/
abbrev Blk (w : World) (b : Nat) (L : List Int) : Prop := w.heap[b]? = some (.cells (L.map (Value.int .i64)).toArray 3 (0, 0))
theorem Blk.row {w : World} {b : Nat} {L : List Int} (h : Blk w b L) (hn : L.length ≤ maxLen) : RowAt (Value.int .i64) w (.slice (some ⟨b, 0, none⟩) L.length L.length) L := by
  refine ⟨_, _, rfl, Nat.le_refl _, hn, fun i hi => ⟨_, rfl, ?_⟩⟩
  have e2 : (⟨b, 0, none⟩ : Addr).add i = ⟨b, i, none⟩ := by unfold Addr.add; split <;> simp_all
  rw [e2]
  simp [World.cell?, h, hi]
theorem Blk.cell {w : World} {b : Nat} {L : List Int} (h : Blk w b L) {i : Nat} (hi : i < L.length) : w.cell? ⟨b, i, none⟩ = some (.int .i64 L[i]) := by simp [World.cell?, h, hi]
theorem Blk.free {w : World} {b : Nat} {L : List Int} (h : Blk w b L) (i : Nat) : w.frozen? ⟨b, i, none⟩ = false := by simp [World.frozen?, h]
theorem Arr.blk {w : World} {b n : Nat} {D : Nat → Prop} {F : Nat → Int} (h : Arr (Value.int .i64) 3 w b n D F) (hD : ∀ i, i < n → D i) : Blk w b ((List.range n).map F) := by
  obtain ⟨cs, h1, h2, h3⟩ := h
  have e : cs = (((List.range n).map F).map (Value.int .i64)).toArray := by
    apply Array.ext_getElem?
    intro i
    by_cases hi : i < n
    · rw [h3 i hi (hD i hi)]; simp [hi]
    · rw [Array.getElem?_eq_none (by omega), Array.getElem?_eq_none (by simp; omega)]
  show w.heap[b]? = _
  rw [h1, e]
theorem Blk.arr {w : World} {b : Nat} {L : List Int} (h : Blk w b L) : Arr (Value.int .i64) 3 w b L.length (fun _ => True) (fun i => L.getD i 0) :=
  ⟨_, h, by simp, fun i hi _ => by simp [hi]⟩

theorem catch48 (p : Addr) (w : World) :
    CallsD Try.prog 48 #[.pointer (some p)] .returning w fun e u' w' => e = .returned (.tuple #[]) ∧ u' = .returning ∧ w' = w := by
  refine callsD_of_wpS Try.func48 rfl fun c₀ cs hu => ?_
  apply wpS_seq
  apply wpS_region
  simp [wpOpsS, go_sem, recoverD, hu, Try.ntmps48, Exit.thenS]
  refine wpS_cond (t := false) (by simp [Act.eval, Array.replicate]) ?_
  simp only [Bool.false_eq_true, if_false]
  refine wpS_of_wp (wp_skip ?_)
  cases c₀
  simp_all [bodyPostS, results, Try.results48]

set_option maxRecDepth 100000 in
set_option maxHeartbeats 2000000 in
theorem maps_unit {n : Int} {m : Nat} (hm : (n = m ∧ 0 < m) ∨ (n ≤ 0 ∧ m = 0)) (hm2 : m ≤ 1000000) (W : World) :
    Calls Try.prog 26 #[.agg #[.int .i64 n]] W fun e w' => ∃ b, e = .returned (.slice (some ⟨b, 0, none⟩) m m) ∧ Blk w' b (idL m) ∧ W.heap.size ≤ b ∧ Below W.heap.size W w' := by
  have hmf : ∀ (fn : Fn) (first cap : Array Value) (w : World), (Instr.makeFunc fn first cap).run Try.prog w = .ok (.func fn first cap) w := fun _ _ _ _ => rfl
  obtain ⟨W0, hW0⟩ : ∃ W0, (W.alloc (.cells #[.int .i64 n] 61)).alloc (.cells #[.slice none 0 0] 63) = W0 := ⟨_, rfl⟩
  have n0 : W0.heap[W.heap.size]? = some (.cells #[.int .i64 n] 61 (0, 0)) := by rw [← hW0]; exact (Below.heap_alloc _ _ _ (by simp)).trans (heap_new _ _)
  have n1 : W0.heap[W.heap.size + 1]? = some (.cells #[.slice none 0 0] 63 (0, 0)) := by rw [← hW0]; exact heap_new1 _ _ _
  have hb0 : Below W.heap.size W W0 := by rw [← hW0]; exact ((Below.refl _ W).alloc (Nat.le_refl _) _).alloc (by simp) _
  have hz0 : W.heap.size + 1 < W0.heap.size := (Array.getElem?_eq_some_iff.1 n1).1
  obtain ⟨W1, hW1⟩ : ∃ W1, W0.alloc (.cells (madeCells #[.int .i64 0] m) 3) = W1 := ⟨_, rfl⟩
  obtain ⟨W2, hW2⟩ : ∃ W2, W1.setCell ⟨W.heap.size + 1, 0, none⟩ (.slice (some ⟨W0.heap.size, 0, none⟩) m m) = W2 := ⟨_, rfl⟩
  have hmk : ∀ w : World, (Instr.makeSlice 63 (.int .i64 (m : Int)) (.int .i64 (m : Int))).run Try.prog w = .ok (.slice (some ⟨w.heap.size, 0, none⟩) m m) (w.alloc (.cells (madeCells #[.int .i64 0] m) 3)) := fun w => by
    have h := mk_run (P := Try.prog) (t := 63) (e := 3) (z := .int .i64 0) (size := 1) (bytes := 8) (by kernel_rfl) (by kernel_rfl) m m (by omega) (by omega) (by omega) w
    have hz : (Value.int .i64 0).cells = #[Value.int .i64 0] := rfl
    rw [hz] at h
    simpa using h
  have m1 : W1.heap[W.heap.size + 1]? = some (.cells #[.slice none 0 0] 63 (0, 0)) := by rw [← hW1]; exact (Below.heap_alloc _ _ _ hz0).trans n1
  have hA : Arr (Value.int .i64) 3 W2 W0.heap.size m (fun _ => False) (fun i => (i : Int)) := by
    rw [← hW2]
    refine Arr.other ?_ _ (by simp; omega)
    rw [← hW1]
    exact Arr.made W0 (.int .i64 0) m 3 (Value.int .i64) _
  have hX : W2.heap[W.heap.size + 1]? = some (.cells #[.slice (some ⟨W0.heap.size, 0, none⟩) m m] 63 (0, 0)) := by rw [← hW2]; exact box_set _ m1
  have hB2 : Below W.heap.size W W2 := by
    rw [← hW2, ← hW1]; exact ((hb0.alloc hb0.size _)).setCell (p := ⟨W.heap.size + 1, 0, none⟩) (by simp) _
  have c0 := box_cell n0
  have c1 := box_cell m1; have f1 := box_frozen m1; have c2 := box_cell hX
  have HA := Lib.hid hA; have HX := Lib.hid hX; have HB2 := Lib.hid hB2; have HZ := Lib.hid hz0
  clear n0 n1 hb0 m1 hA hX hB2
  rcases hm with ⟨rfl, h0⟩ | ⟨h0, rfl⟩
  · have h1 : (0 : Int) < (m : Int) := by omega
    go_enter_defers Try.func26, Try.ntmps26
    go_wp2_with fail
    clear hW0 hW1 hW2 c0 c1 f1 c2 hmk hmf
    go_loopw [11] (fun c wr => ∃ j : Nat, j ≤ m ∧ c = .int .i64 j ∧ wr.heap[W.heap.size + 1]? = some (.cells #[.slice (some ⟨W0.heap.size, 0, none⟩) m m] 63 (0, 0)) ∧ Arr (Value.int .i64) 3 wr W0.heap.size m (· < j) (fun i => (i : Int)) ∧ Below W.heap.size W wr) (fun c _ => m - (intOf c).toNat)
    case atStart => exact ⟨0, by omega, rfl, HX.out, HA.out.dom (fun i _ h => by omega), HB2.out⟩
    case round =>
      obtain ⟨j, hj, rfl, hX, hA, hB⟩ := hrel
      have HX1 := Lib.hid hX; have HA1 := Lib.hid hA; have HB1 := Lib.hid hB
      clear hX hA hB HA HX HB2
      by_cases hlt : j < m
      · have hl3 : (j : Int) < (m : Int) := by omega
        have hl4 : (0 : Int) ≤ (j : Int) := by omega
        obtain ⟨u, hu⟩ := HA1.out.held hlt
        have hf := HA1.out.free j
        have hc := box_cell HX1.out
        go_wp2_with fail
        go_roundw
        case rel => exact ⟨j + 1, by omega, by go_num, box_other _ HX1.out (by have := HZ.out; simp; omega), HA1.out.set rfl (fun k hk hk2 => by omega), HB1.out.setCell (by have := HZ.out; simp; omega) _⟩
        case measure => simp [intOf]; omega
      · obtain rfl : j = m := by omega
        have hc := box_cell HX1.out; have hf := box_frozen HX1.out
        have hx := box_set (.slice (some ⟨W0.heap.size, 0, none⟩) j j) HX1.out
        have HC := Lib.hid (box_cell hx)
        have HB := Lib.hid (HB1.out.setCell (p := ⟨W.heap.size + 1, 0, none⟩) (by simp) (.slice (some ⟨W0.heap.size, 0, none⟩) j j))
        have HG := Lib.hid ((HA1.out.other (a := ⟨W.heap.size + 1, 0, none⟩) (.slice (some ⟨W0.heap.size, 0, none⟩) j j) (by have := HZ.out; simp; omega)).blk (fun i hi => hi))
        clear hx
        go_wp2_with fail
        refine leaves_cons (f := 48) (args := #[.pointer (some ⟨W.heap.size + 1, 0, none⟩)]) (by simp) (by simp [go_sem]) ?_
        refine (catch48 ⟨W.heap.size + 1, 0, none⟩ _).mono ?_
        rintro e u' w'' ⟨rfl, rfl, rfl⟩
        have hc2 := HC.out
        simp only [Leaves, settle, results, Try.results26]
        simp [go_sem, hc2]
        exact ⟨HG.out, by have := HZ.out; omega, HB.out⟩
  · have hmk0 : ∀ w : World, (Instr.makeSlice 63 (.int .i64 0) (.int .i64 0)).run Try.prog w = .ok (.slice (some ⟨w.heap.size, 0, none⟩) 0 0) (w.alloc (.cells (madeCells #[.int .i64 0] 0) 3)) := hmk
    clear hmk
    have h1 : ¬ (0 : Int) < n := by omega
    have h2 : n < 0 ∨ n = 0 := by omega
    have hg0 : Hid (Blk W2 W0.heap.size (idL 0)) := Lib.hid (HA.out.blk (fun i hi => by omega))
    have hX := box_set (.slice (some ⟨W0.heap.size, 0, none⟩) 0 0) HX.out
    have hgs : Blk (W2.setCell ⟨W.heap.size + 1, 0, none⟩ (.slice (some ⟨W0.heap.size, 0, none⟩) 0 0)) W0.heap.size (idL 0) := (Below.heap_setCell _ _ _ _ (by have := HZ.out; simp; omega)).trans hg0.out
    have HG := Lib.hid hgs; have HC := Lib.hid (box_cell hX)
    have HB := Lib.hid (HB2.out.setCell (p := ⟨W.heap.size + 1, 0, none⟩) (by simp) (.slice (some ⟨W0.heap.size, 0, none⟩) 0 0))
    have f2 := box_frozen HX.out
    clear hX hgs hg0
    rcases h2 with h2 | rfl
    all_goals
      go_enter_defers Try.func26, Try.ntmps26
      go_wp2_with fail
      clear hW0 hW1 hW2 c0 c1 f1 hmk0 hmf
      refine wp_loop_rounds 1 ?_
      rw [rounds_succ]
      go_wp2_with fail
      refine leaves_cons (f := 48) (args := #[.pointer (some ⟨W.heap.size + 1, 0, none⟩)]) (by simp) (by simp [go_sem]) ?_
      refine (catch48 ⟨W.heap.size + 1, 0, none⟩ _).mono ?_
      rintro e u' w'' ⟨rfl, rfl, rfl⟩
      have hc2 := HC.out
      simp only [Leaves, settle, results, Try.results26]
      simp [go_sem, hc2]
      exact ⟨HG.out, by have := HZ.out; omega, HB.out⟩

/-! ### valid -/
set_option maxRecDepth 100000 in
set_option maxHeartbeats 2000000 in
theorem maps_valid {W : World} {v : Value} {f : List Int} (hL : RowAt (Value.int .i64) W v f) {n : Int} {m : Nat} (hm : (n = m ∧ 0 < m) ∨ (n ≤ 0 ∧ m = 0)) (hn0 : -9223372036854775808 ≤ n) (hm2 : m ≤ 1000000) :
    Calls Try.prog 49 #[.agg #[.int .i64 n], v] W fun e w' => e = .returned (.bool (decide (validL m f))) ∧ Below W.heap.size W w' := by
  have H := Lib.hid hL
  obtain ⟨a, cap, rfl, hc1, hc2, -⟩ := hL
  unfold maxLen at hc2
  obtain ⟨W0, hW0⟩ : ∃ W0, W.alloc (.cells #[.int .i64 n] 61) = W0 := ⟨_, rfl⟩
  have n0 : W0.heap[W.heap.size]? = some (.cells #[.int .i64 n] 61 (0, 0)) := by rw [← hW0]; exact heap_new _ _
  have hb0 : Below W.heap.size W W0 := by rw [← hW0]; exact (Below.refl _ W).alloc (Nat.le_refl _) _
  have c0 := box_cell n0
  have HB0 := Lib.hid hb0
  clear n0 hb0
  have hcase : (0 < n ∧ n = m) ∨ (¬ 0 < n ∧ n < 0 ∧ m = 0) ∨ (n = 0 ∧ m = 0) := by omega
  clear hm
  by_cases hlen : f.length = m
  · rcases hcase with ⟨h0, rfl⟩ | ⟨h0, h1, rfl⟩ | ⟨rfl, rfl⟩
    · have hl0 : ((f.length : Int) != (m : Int)) = false := by rw [hlen]; simp
      have HLEN := Lib.hid hlen
      have hml : (m : Int) ≤ (f.length : Int) := by omega
      have hml2 : (f.length : Int) ≤ (m : Int) := by omega
      clear hlen
      go_enter Try.func49, Try.ntmps49
      go_wp2_with fail
      go_loopw [15] (fun c wr => ∃ j : Nat, j ≤ f.length ∧ c = .int .i64 j ∧ (∀ (i : Nat) (h : i < f.length), i < j → 0 ≤ f[i] ∧ f[i] < (m : Int)) ∧ Below W.heap.size W wr) (fun c _ => f.length - (intOf c).toNat)
      case atStart => exact ⟨0, by omega, rfl, fun i h h2 => by omega, HB0.out⟩
      case round =>
        obtain ⟨j, hj, rfl, hall, hB⟩ := hrel
        have HB := Lib.hid hB; have HALL := Lib.hid hall
        clear hB hall
        by_cases hlt : j < f.length
        · have hl3 : (j : Int) < (f.length : Int) := by omega
          have hl4 : (0 : Int) ≤ (j : Int) := by omega
          obtain ⟨b, c, hb, m1⟩ := H.out.at hlt
          simp only [Value.slice.injEq] at hb
          obtain ⟨rfl, -, rfl⟩ := hb
          have m1 := m1 wr HB.out
          obtain ⟨x, hx⟩ : ∃ x, f[j] = x := ⟨_, rfl⟩
          rw [hx] at m1
          have HX := Lib.hid hx
          clear hx
          by_cases hx0 : x < 0
          · go_wp2_with fail
            go_ret
            have hv : decide (validL m f) = false := decide_eq_false fun hv => by
              have := (hv.2 _ (List.getElem_mem hlt)).1
              rw [HX.out] at this; omega
            exact ⟨by rw [hv]; rfl, HB.out⟩
          · by_cases hx1 : (f.length : Int) ≤ x
            · go_wp2_with fail
              go_ret
              have hv : decide (validL m f) = false := decide_eq_false fun hv => by
                have := (hv.2 _ (List.getElem_mem hlt)).2
                rw [HX.out] at this; omega
              exact ⟨by rw [hv]; rfl, HB.out⟩
            · go_wp2_with fail
              go_roundw
              case rel =>
                refine ⟨j + 1, by omega, by go_num, fun i hi h2 => ?_, HB.out⟩
                by_cases e : i = j
                · subst e; rw [HX.out]; omega
                · exact HALL.out i hi (by omega)
              case measure => simp [intOf]; omega
        · obtain rfl : j = f.length := by omega
          go_wp2_with fail
          go_ret
          have hv : decide (validL m f) = true := decide_eq_true ⟨HLEN.out, fun x hx => by
            obtain ⟨i, hi, rfl⟩ := List.mem_iff_getElem.1 hx
            exact HALL.out i hi hi⟩
          exact ⟨by rw [hv]; rfl, HB.out⟩
    all_goals
      obtain rfl : f = [] := List.eq_nil_of_length_eq_zero hlen
      have hv : decide (validL 0 ([] : List Int)) = true := by rw [decide_eq_true]; exact ⟨rfl, fun x hx => by cases hx⟩
      have HV := Lib.hid hv
      clear hv
      simp only [List.length_nil] at *
      go_enter Try.func49, Try.ntmps49
      go_wp2_with fail
      refine wp_loop_rounds 1 ?_
      rw [rounds_succ]
      go_wp2_with fail
      go_ret
      exact ⟨by rw [HV.out]; rfl, HB0.out⟩
  · have hv : decide (validL m f) = false := by rw [decide_eq_false]; exact fun h => hlen h.1
    have HV := Lib.hid hv
    clear hv
    rcases hcase with ⟨h0, rfl⟩ | ⟨h0, h1, rfl⟩ | ⟨rfl, rfl⟩
    · have hl0 : ((f.length : Int) != (m : Int)) = true := by simp; omega
      go_enter Try.func49, Try.ntmps49
      go_wp2_with fail
      go_ret
      exact ⟨by rw [HV.out]; rfl, HB0.out⟩
    all_goals
      have hl0 : ((f.length : Int) != 0) = true := by simp; intro e; exact hlen (by rw [e]; rfl)
      go_enter Try.func49, Try.ntmps49
      go_wp2_with fail
      go_ret
      exact ⟨by rw [HV.out]; rfl, HB0.out⟩

/-! ### Join -/
theorem Blk.set {w : World} {b : Nat} {L : List Int} (h : Blk w b L) (j : Nat) (y : Int) : Blk (w.setCell ⟨b, j, none⟩ (.int .i64 y)) b (L.set j y) := by
  have := heap_set (i := j) (.int .i64 y) h
  show _ = _
  rw [this]
  simp [List.map_set]
theorem Blk.below {A C : World} {b : Nat} {L : List Int} (h : Blk A b L) (hb : Below A.heap.size A C) : Blk C b L := box_below hb h
theorem map_half {h : Int → Int} {r : List Int} {j : Nat} (hj : j < r.length) : ((r.take j).map h ++ r.drop j).set j (h r[j]) = (r.take (j + 1)).map h ++ r.drop (j + 1) := by
  apply List.ext_getElem?
  intro i
  by_cases e : j = i
  · subst e
    rw [List.getElem?_set_self (by simp; omega), List.getElem?_append_left (by simp; omega)]
    simp [hj]
  · rw [List.getElem?_set_ne e]
    by_cases hi : i < j
    · rw [List.getElem?_append_left (by simp; omega), List.getElem?_append_left (by simp; omega)]
      simp [hi, show i < j + 1 by omega]
    · rw [List.getElem?_append_right (by simp; omega), List.getElem?_append_right (by simp; omega)]
      simp only [List.length_map, List.length_take, List.getElem?_drop]
      congr 1; omega
theorem half_at {h : Int → Int} {r : List Int} {j : Nat} (hj : j < r.length) : ((r.take j).map h ++ r.drop j).length = r.length ∧ ((r.take j).map h ++ r.drop j)[j]? = some r[j] := by
  refine ⟨by simp; omega, ?_⟩
  rw [List.getElem?_append_right (by simp; omega)]
  simp [Nat.min_eq_left (Nat.le_of_lt hj), hj]

set_option maxRecDepth 100000 in
set_option maxHeartbeats 4000000 in
theorem maps_join {W : World} {v v' : Value} {f g : List Int} (hf : RowAt (Value.int .i64) W v f) (hg : RowAt (Value.int .i64) W v' g) {n : Int} {m : Nat} (hm : (n = m ∧ 0 < m) ∨ (n ≤ 0 ∧ m = 0)) (hn0 : -9223372036854775808 ≤ n) (hm2 : m ≤ 1000000) :
    Calls Try.prog 27 #[.agg #[.int .i64 n], v, v'] W fun e w' => ∃ b, e = .returned (.slice (some ⟨b, 0, none⟩) m m) ∧ Blk w' b (joinL m f g) ∧ W.heap.size ≤ b ∧ Below W.heap.size W w' := by
  have HF := Lib.hid hf; have HG := Lib.hid hg; have HM := Lib.hid hm
  obtain ⟨a, cap, rfl, -, -, -⟩ := hf
  obtain ⟨a', cap', rfl, -, -, -⟩ := hg
  clear hm
  obtain ⟨W0, hW0⟩ : ∃ W0, W.alloc (.cells #[.int .i64 n] 61) = W0 := ⟨_, rfl⟩
  have n0 : W0.heap[W.heap.size]? = some (.cells #[.int .i64 n] 61 (0, 0)) := by rw [← hW0]; exact heap_new _ _
  have hb0 : Below W.heap.size W W0 := by rw [← hW0]; exact (Below.refl _ W).alloc (Nat.le_refl _) _
  have c0 := box_cell n0
  have HB0 := Lib.hid hb0; have HN0 := Lib.hid n0
  clear n0 hb0
  go_enter Try.func27, Try.ntmps27
  go_wp2_with fail
  clear hW0 c0
  refine (maps_unit HM.out hm2 _).mono ?_
  rintro e w1 ⟨b, rfl, hr, hbb, b1⟩
  have HB1 := Lib.hid (Below.step HB0.out b1); have HR1 := Lib.hid hr; have HBB := Lib.hid (Nat.le_trans HB0.out.size hbb)
  have HBX := Lib.hid (Nat.lt_of_lt_of_le (Array.getElem?_eq_some_iff.1 HN0.out).1 hbb)
  have c1 := box_cell (box_below b1 HN0.out); have HN1 := Lib.hid (box_below b1 HN0.out)
  clear hr hbb b1
  go_wp2_with fail
  refine (maps_valid (HF.out.below HB1.out) HM.out hn0 hm2).mono ?_
  rintro e w2 ⟨rfl, b2⟩
  have HB2 := Lib.hid (Below.step HB1.out b2); have HR2 := Lib.hid (HR1.out.below b2); have HN2 := Lib.hid (box_below b2 HN1.out)
  have c2 := box_cell HN2.out
  clear b2 c1
  have hone : ∀ v ∈ f.map (Value.int .i64), v.oneCell' = true := fun v hv => by
    obtain ⟨x, -, rfl⟩ := List.mem_map.1 hv; rfl
  by_cases hvf : validL m f
  focus
    have hd : decide (validL m f) = true := decide_eq_true hvf
    rw [hd]
    have HJ : Hid (joinL m f g = thenL m f g) := Lib.hid (by unfold joinL; rw [if_pos hvf])
    have HLF := Lib.hid hvf
    have hsrc := HF.out.below HB2.out
    obtain ⟨a2, cap2, he2, -, -, hcell⟩ := hsrc
    simp only [Value.slice.injEq] at he2
    obtain ⟨rfl, -, rfl⟩ := he2
    have HCELL := Lib.hid hcell; have HONE := Lib.hid hone
    clear hd hvf hcell hone c2
    go_wp2_with (
      refine wpList_copy_splice rfl _ _ 63 63 rfl 3 Try.underlying63 (by kernel_rfl) (some ⟨b, 0, none⟩) a m m f.length cap rfl rfl b 0 ((idL m).map (Value.int .i64)) 3 HR2.out (f.map (Value.int .i64)) ?hn ?hpos ?hfit HONE.out b w2 (Below.refl _ _) (Nat.le_refl _) ?_
      case hn => simp [HLF.out.1]
      case hpos =>
        intro h0
        refine ⟨rfl, ?_⟩
        obtain ⟨ad, rfl, -⟩ := HCELL.out 0 (by simpa using h0)
        refine ⟨ad, rfl, fun j v hv => ?_⟩
        obtain ⟨hj, rfl⟩ := List.getElem?_eq_some_iff.1 hv
        obtain ⟨ad', e, hc⟩ := HCELL.out j (by simpa using hj)
        cases e
        simpa using hc
      case hfit => simp [HLF.out.1, idL_len]
      intro w3 hr3 hb3
      have HR3 : Hid (Blk w3 b f) := Lib.hid (by
        have h := hr3.out
        have e : splice ((idL m).map (Value.int .i64)) 0 (f.map (Value.int .i64)) = f.map (Value.int .i64) := by
          simp [splice, HLF.out.1, idL_len]
        rwa [e] at h)
      have HB3 := Lib.hid (HB2.out.trans (hb3.mono HBB.out))
      have HN3 := Lib.hid ((hb3.block W.heap.size HBX.out).trans HN2.out)
      have c3 := box_cell HN3.out
      obtain ⟨r, HR⟩ : ∃ r, Hid (joinL m f g = thenL m r g ∧ Blk w3 b r ∧ validL m r) := ⟨f, Lib.hid ⟨HJ.out, HR3.out, HLF.out⟩⟩
      clear hr3 hb3 HR3 HLF HJ HCELL HONE HR2 HR1)
  rotate_left
  focus
    have hd : decide (validL m f) = false := decide_eq_false hvf
    rw [hd]
    obtain ⟨w3, hw3⟩ : ∃ w3, w2 = w3 := ⟨_, rfl⟩
    subst hw3
    have HB3 := HB2; have HN3 := HN2
    obtain ⟨r, HR⟩ : ∃ r, Hid (joinL m f g = thenL m r g ∧ Blk w2 b r ∧ validL m r) := ⟨idL m, Lib.hid ⟨by unfold joinL; rw [if_neg hvf], HR2.out, idL_valid m⟩⟩
    clear hd hvf hone HR2 HR1
    go_wp2_with fail
  all_goals
    refine (maps_valid (HG.out.below HB3.out) HM.out hn0 hm2).mono ?_
    rintro e w4 ⟨rfl, b4⟩
    have HB4 := Lib.hid (Below.step HB3.out b4); have HR4 := Lib.hid (HR.out.2.1.below b4)
    clear b4
    by_cases hvg : validL m g
    · have hd : decide (validL m g) = true := decide_eq_true hvg
      rw [hd]
      have HJ : Hid (joinL m f g = r.map (fun x => g.getD x.toNat 0)) := Lib.hid (by rw [HR.out.1]; unfold thenL; rw [if_pos hvg])
      have HLG := Lib.hid hvg; have HRL := Lib.hid HR.out.2.2
      obtain ⟨a2, cap2, he2, -, -, hcell⟩ := HG.out
      simp only [Value.slice.injEq] at he2
      obtain ⟨rfl, -, rfl⟩ := he2
      have HCELL := Lib.hid hcell
      clear hd hvg hcell HR
      go_wp2_with fail
      go_loopw [23] (fun c wr => ∃ j : Nat, j ≤ m ∧ c = .int .i64 j ∧ Blk wr b ((r.take j).map (fun x => g.getD x.toNat 0) ++ r.drop j) ∧ Below b w4 wr) (fun c _ => m - (intOf c).toNat)
      case atStart => exact ⟨0, by omega, rfl, by simpa using HR4.out, Below.refl _ _⟩
      case round =>
        obtain ⟨j, hj, rfl, hR, hB⟩ := hrel
        have HRj := Lib.hid hR; have HBj := Lib.hid hB
        clear hR hB
        by_cases hlt : j < m
        · have hl3 : (j : Int) < (m : Int) := by omega
          have hl4 : (0 : Int) ≤ (j : Int) := by omega
          have hjr : j < r.length := by rw [HRL.out.1]; exact hlt
          obtain ⟨x, hx⟩ : ∃ x, r[j] = x := ⟨_, rfl⟩
          have hxv := HRL.out.2 _ (List.getElem_mem hjr)
          rw [hx] at hxv
          obtain ⟨k, rfl⟩ : ∃ k : Nat, x = (k : Int) := ⟨x.toNat, by omega⟩
          have hkg : k < g.length := by rw [HLG.out.1]; omega
          have hh := half_at (h := fun x : Int => g.getD x.toNat 0) hjr
          have hlen : j < ((r.take j).map (fun x : Int => g.getD x.toNat 0) ++ r.drop j).length := by rw [hh.1]; exact hjr
          have m1 := HRj.out.cell hlen
          have e1 : ((r.take j).map (fun x : Int => g.getD x.toNat 0) ++ r.drop j)[j] = (k : Int) := by
            have := hh.2; rw [List.getElem?_eq_getElem hlen, hx] at this; simpa using this
          rw [e1] at m1
          have f1 := HRj.out.free j
          obtain ⟨ad, rfl, hc⟩ := HCELL.out k hkg
          have m2 : wr.cell? (ad.add k) = some (.int .i64 g[k]) := cell_below hc (HB4.out.trans (HBj.out.mono HBB.out))
          have hk3 : (k : Int) < (g.length : Int) := by omega
          have hk4 : (0 : Int) ≤ (k : Int) := by omega
          have HNEW : Hid (Blk (wr.setCell ⟨b, j, none⟩ (.int .i64 g[k])) b ((r.take (j + 1)).map (fun x : Int => g.getD x.toNat 0) ++ r.drop (j + 1))) := Lib.hid (by
            have h := HRj.out.set j g[k]
            rw [← map_half hjr, hx]
            have e2 : g.getD (k : Int).toNat 0 = g[k] := by rw [Int.toNat_natCast, List.getD_eq_getElem?_getD, List.getElem?_eq_getElem hkg]; rfl
            rw [e2]; exact h)
          clear hx hxv hh hlen e1 hc hjr
          go_wp2_with fail
          go_roundw
          case rel => exact ⟨j + 1, by omega, by go_num, HNEW.out, HBj.out.setCell (by simp) _⟩
          case measure => simp [intOf]; omega
        · obtain rfl : j = m := by omega
          have HFIN : Hid (Blk wr b (joinL j f g)) := Lib.hid (by
            have h := HRj.out
            rw [List.take_of_length_le (by rw [HRL.out.1]; exact Nat.le_refl _), List.drop_of_length_le (by rw [HRL.out.1]; exact Nat.le_refl _), List.append_nil] at h
            rw [HJ.out]; exact h)
          go_wp2_with fail
          go_ret
          exact ⟨b, rfl, HFIN.out, HBB.out, HB4.out.trans (HBj.out.mono HBB.out)⟩
    · have hd : decide (validL m g) = false := decide_eq_false hvg
      rw [hd]
      have HJ : Hid (joinL m f g = r) := Lib.hid (by rw [HR.out.1]; unfold thenL; rw [if_neg hvg])
      clear hd hvg
      go_wp2_with fail
      go_ret
      exact ⟨b, rfl, by rw [HJ.out]; exact HR4.out, HBB.out, HB4.out⟩
end Go.Proofs.Ytpgnhnimndagpaa
