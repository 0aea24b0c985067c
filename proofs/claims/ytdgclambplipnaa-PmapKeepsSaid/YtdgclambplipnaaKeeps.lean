/- PmapKeeps: every map that was, stays as it was. -/
import Derived.Test.YtdgclambplipnaaPlaysii
import Derived.Test.YtdgclambplipnaaAwake
import Derived.Laws.OwnMore
import Derived.Test.YtdgclambplipnaaMake
import Derived.Test.YtdgclambplipnaaTail
import Derived.Outline
namespace Go.Proofs.Ytdgclambplipnaa
open Go.RowKit Go.Shelf
namespace ii

/-- The maps and the lists after j changes: two rows of n + 1. -/
def KP (w : World) (g1 g2 n j : Nat) : Prop := ∃ cs1 cs2 : Array Value, w.heap[g1]? = some (.cells cs1 26 (0, 0)) ∧ w.heap[g2]? = some (.cells cs2 37 (0, 0)) ∧ cs1.size = n + 1 ∧ cs2.size = n + 1 ∧
  ∀ i, i ≤ j → ∃ q v T, cs1[i]? = some (.pointer q) ∧ cs2[i]? = some v ∧ Is w q T ∧ Prs 0 w v (rep kf T.toList) ∧ Sorted lt T.toList ∧ OkL ok T.toList ∧ T.sz ≤ i
theorem KP.below {A C : World} {g1 g2 n j : Nat} (h : KP A g1 g2 n j) (hb : Below A.heap.size A C) : KP C g1 g2 n j := by
  obtain ⟨cs1, cs2, h1, h2, s1, s2, h⟩ := h
  refine ⟨cs1, cs2, box_below hb h1, box_below hb h2, s1, s2, fun i hi => ?_⟩
  obtain ⟨q, v, T, e1, e2, hT, hV, r⟩ := h i hi
  exact ⟨q, v, T, e1, e2, hT.below hb, hV.below hb, r⟩
theorem heap_set {W : World} {g : Nat} {cs : Array Value} {t : TypeId} {i : Nat} (v : Value) (h : W.heap[g]? = some (.cells cs t (0, 0))) : (W.setCell ⟨g, i, none⟩ v).heap[g]? = some (.cells (cs.setIfInBounds i v) t (0, 0)) := by
  obtain ⟨hlt, hk⟩ := Array.getElem?_eq_some_iff.1 h
  show (W.heap.modify g _)[g]? = _
  rw [Array.getElem?_eq_getElem (by rw [Array.size_modify]; exact hlt), Array.getElem_modify_self, hk]
  rfl
theorem heap_new1 (W : World) (o o' : Obj) : ((W.alloc o).alloc o').heap[W.heap.size + 1]? = some o' := by
  have := heap_new (W.alloc o) o'; rwa [World.size_alloc] at this
theorem KP.cells {w : World} {g1 g2 n j i : Nat} (h : KP w g1 g2 n j) (hi : i ≤ j) : ∃ q v T, w.cell? ⟨g1, i, none⟩ = some (.pointer q) ∧ w.cell? ⟨g2, i, none⟩ = some v ∧ Is w q T ∧ Prs 0 w v (rep kf T.toList) ∧ Sorted lt T.toList ∧ OkL ok T.toList ∧ T.sz ≤ i := by
  obtain ⟨cs1, cs2, h1, h2, s1, s2, h⟩ := h
  obtain ⟨q, v, T, e1, e2, r⟩ := h i hi
  exact ⟨q, v, T, by simp [World.cell?, h1, e1], by simp [World.cell?, h2, e2], r⟩
theorem KP.free {w : World} {g1 g2 n j i : Nat} (h : KP w g1 g2 n j) (hi : i < n + 1) : (∃ u, w.cell? ⟨g1, i, none⟩ = some u) ∧ (∃ u, w.cell? ⟨g2, i, none⟩ = some u) ∧ w.frozen? ⟨g1, i, none⟩ = false ∧ w.frozen? ⟨g2, i, none⟩ = false := by
  obtain ⟨cs1, cs2, h1, h2, s1, s2, h⟩ := h
  refine ⟨⟨cs1[i]'(by omega), by simp [World.cell?, h1, s1, hi]⟩, ⟨cs2[i]'(by omega), by simp [World.cell?, h2, s2, hi]⟩, by simp [World.frozen?, h1], by simp [World.frozen?, h2]⟩
/-- One change more. -/
theorem KP.step {w : World} {g1 g2 n j : Nat} (h : KP w g1 g2 n j) (hj : j + 1 < n + 1) {q : Option Addr} {v : Value} {T : Tr Int Int} (hT : Is w q T) (hV : Prs 0 w v (rep kf T.toList)) (r : Sorted lt T.toList ∧ OkL ok T.toList ∧ T.sz ≤ (j + 1 : Nat)) :
    KP ((w.setCell ⟨g1, j + 1, none⟩ (.pointer q)).setCell ⟨g2, j + 1, none⟩ v) g1 g2 n (j + 1) := by
  obtain ⟨cs1, cs2, h1, h2, s1, s2, h⟩ := h
  have hne : g1 ≠ g2 := by intro e; subst e; rw [h1] at h2; simp at h2
  have a2 : (w.setCell ⟨g1, j + 1, none⟩ (.pointer q)).heap[g2]? = some (.cells cs2 37 (0, 0)) := by
    rw [Below.heap_setCell]
    · exact h2
    · exact fun e => hne e.symm
  have a1 := heap_set (.pointer q) h1 (i := j + 1)
  have b2 := heap_set v a2 (i := j + 1)
  have b1 : ((w.setCell ⟨g1, j + 1, none⟩ (.pointer q)).setCell ⟨g2, j + 1, none⟩ v).heap[g1]? = some (.cells (cs1.setIfInBounds (j + 1) (.pointer q)) 26 (0, 0)) :=
    (Below.heap_setCell _ _ _ _ hne).trans a1
  have kI : ∀ {q' : Option Addr} {T' : Tr Int Int}, Is w q' T' → Is ((w.setCell ⟨g1, j + 1, none⟩ (.pointer q)).setCell ⟨g2, j + 1, none⟩ v) q' T' := fun hT =>
    (hT.keep (KeepT.setCell (a := ⟨g1, j + 1, none⟩) h1 (by decide))).keep (KeepT.setCell (a := ⟨g2, j + 1, none⟩) a2 (by decide))
  have kV : ∀ {v' : Value} {l : List (ByteArray × Int)}, Prs 0 w v' l → Prs 0 ((w.setCell ⟨g1, j + 1, none⟩ (.pointer q)).setCell ⟨g2, j + 1, none⟩ v) v' l := fun hV =>
    SlA.setCell (a := ⟨g2, j + 1, none⟩) (SlA.setCell (a := ⟨g1, j + 1, none⟩) hV _ h1 (by decide)) _ a2 (by decide)
  refine ⟨_, _, b1, b2, by simp [s1], by simp [s2], fun i hi => ?_⟩
  by_cases hij : i ≤ j
  · obtain ⟨q', v', T', e1, e2, hT', hV', r'⟩ := h i hij
    refine ⟨q', v', T', ?_, ?_, kI hT', kV hV', r'⟩
    · rw [Array.getElem?_setIfInBounds_ne (by omega)]; exact e1
    · rw [Array.getElem?_setIfInBounds_ne (by omega)]; exact e2
  · obtain rfl : i = j + 1 := by omega
    refine ⟨q, v, T, ?_, ?_, kI hT, kV hV, r⟩
    · rw [Array.getElem?_setIfInBounds_self_of_lt (by omega)]
    · rw [Array.getElem?_setIfInBounds_self_of_lt (by omega)]

theorem KP.start (w : World) (n : Nat) : KP ((w.alloc (.cells (madeCells #[.pointer none] (n + 1)) 26)).alloc (.cells (madeCells #[.slice none 0 0] (n + 1)) 37)) w.heap.size (w.heap.size + 1) n 0 := by
  refine ⟨_, _, (Below.heap_alloc _ _ _ (by simp)).trans (heap_new w _), heap_new1 _ _ _, size_madeCells _ _, size_madeCells _ _, fun i hi => ?_⟩
  obtain rfl : i = 0 := by omega
  exact ⟨none, .slice none 0 0, .nil, by simp [madeCells], by simp [madeCells], rfl, SlA.nil _ _ _ _ _, by simp [Tr.toList, Sorted], by simp [Tr.toList, OkL], by simp [Tr.sz]⟩

/-- What a round's region reads. -/
def KS (g1 j B : Nat) (q : Option Addr) (v : Value) (x : Bool × Int × Int) (w : World) : Prop :=
  w.cell? ⟨g1, j, none⟩ = some (.pointer q) ∧ w.cell? ⟨g1 + 1, j, none⟩ = some v ∧ w.cell? ⟨B, 0, none⟩ = some (.bool x.1) ∧ w.cell? ⟨B, 1, none⟩ = some (.int .i64 x.2.1) ∧ w.cell? ⟨B, 2, none⟩ = some (.int .i64 x.2.2)
theorem KS.below {g1 j B : Nat} {q : Option Addr} {v : Value} {x : Bool × Int × Int} {A C : World} (h : KS g1 j B q v x A) (hb : Below A.heap.size A C) : KS g1 j B q v x C :=
  ⟨cell_below h.1 hb, cell_below h.2.1 hb, cell_below h.2.2.1 hb, cell_below h.2.2.2.1 hb, cell_below h.2.2.2.2 hb⟩
theorem cell_set_ne {w : World} {a b : Addr} {u : Value} (v : Value) (h : w.cell? b = some u) (hn : a ≠ b) : (w.setCell a v).cell? b = some u := (World.cell?_setCell_other w a b v hn).trans h
theorem KS.set {g1 j B : Nat} {q : Option Addr} {v : Value} {x : Bool × Int × Int} {A : World} (h : KS g1 j B q v x A) (u : Value) (hB : B ≠ g1) : KS g1 j B q v x (A.setCell ⟨g1, j + 1, none⟩ u) :=
  ⟨cell_set_ne _ h.1 (by simp), cell_set_ne _ h.2.1 (by simp), cell_set_ne _ h.2.2.1 (by simp <;> omega), cell_set_ne _ h.2.2.2.1 (by simp <;> omega), cell_set_ne _ h.2.2.2.2 (by simp <;> omega)⟩

set_option maxRecDepth 100000 in
set_option maxHeartbeats 4000000 in
theorem keeps_any {W : World} {v : Value} {L : List (Bool × Int × Int)} (hA : ActsAt W v L) (hok : ∀ a ∈ L, ok a.2.1) :
    Calls Try.prog 4 #[v] W fun e w' => e = .returned (.bool true) ∧ Below W.heap.size W w' := by
  obtain ⟨a, cap, hv, hcells⟩ := hA
  subst hv
  have HC := Lib.hid hcells; clear hcells
  have HOK := Lib.hid hok; clear hok
  by_cases hn : L.length ≤ 40
  case neg =>
    have hn1 : 40 < L.length := by omega
    have hn2 : (40 : Int) < (L.length : Int) := by omega
    clear hn
    go_enter Try.func4, Try.ntmps4
    go_wp2_with fail
    refine (awake_any W).mono ?_; rintro e w1 ⟨rfl, b1⟩
    have HB1 := Lib.hid b1; clear b1
    go_wp2_with fail
    refine (awake_any w1).mono ?_; rintro e w2 ⟨rfl, b2⟩
    have HB2 := Lib.hid (Below.step HB1.out b2); clear b2
    go_wp2_with fail
    go_ret
    exact ⟨rfl, HB2.out⟩
  have hn1 : ¬ (40 < L.length) := by omega
  have hn2 : ¬ ((40 : Int) < (L.length : Int)) := by omega
  have hn3 : decide ((40 : Int) < (L.length : Int)) = false := decide_eq_false hn2
  have hm1 : ∀ w : World, (Instr.makeSlice 33 (.int .i64 ((L.length : Int) + 1)) (.int .i64 ((L.length : Int) + 1))).run Try.prog w = .ok (.slice (some ⟨w.heap.size, 0, none⟩) (L.length + 1) (L.length + 1)) (w.alloc (.cells (madeCells #[.pointer none] (L.length + 1)) 26)) := fun w => by
    have h := mk_run (P := Try.prog) (t := 33) (e := 26) (z := .agg #[.pointer none]) (size := 1) (bytes := 8) (by kernel_rfl) (by kernel_rfl) (L.length + 1) (L.length + 1) (by omega) (by omega) (by omega) w
    have hz : (Value.agg #[.pointer none]).cells = #[.pointer none] := rfl
    rw [hz] at h
    simpa using h
  have hm2 : ∀ w : World, (Instr.makeSlice 34 (.int .i64 ((L.length : Int) + 1)) (.int .i64 ((L.length : Int) + 1))).run Try.prog w = .ok (.slice (some ⟨w.heap.size, 0, none⟩) (L.length + 1) (L.length + 1)) (w.alloc (.cells (madeCells #[.slice none 0 0] (L.length + 1)) 37)) := fun w => by
    have h := mk_run (P := Try.prog) (t := 34) (e := 37) (z := .slice none 0 0) (size := 1) (bytes := 24) (by kernel_rfl) (by kernel_rfl) (L.length + 1) (L.length + 1) (by omega) (by omega) (by omega) w
    have hz : (Value.slice none 0 0).cells = #[.slice none 0 0] := rfl
    rw [hz] at h
    simpa using h
  go_enter Try.func4, Try.ntmps4
  go_wp2_with fail
  refine (awake_any W).mono ?_; rintro e w1 ⟨rfl, b1⟩
  have HB1 := Lib.hid b1; clear b1
  obtain ⟨W2, hW2⟩ : ∃ W2, (w1.alloc (.cells (madeCells #[.pointer none] (L.length + 1)) 26)).alloc (.cells (madeCells #[.slice none 0 0] (L.length + 1)) 37) = W2 := ⟨_, rfl⟩
  have HK0 : Hid (KP W2 w1.heap.size (w1.heap.size + 1) L.length 0) := Lib.hid (by rw [← hW2]; exact KP.start w1 L.length)
  have HB2 : Hid (Below W.heap.size W W2) := Lib.hid (by rw [← hW2]; exact (HB1.out.alloc HB1.out.size _).alloc (by have := HB1.out.size; simp; omega) _)
  have HG := Lib.hid HB1.out.size
  clear HB1
  go_wp2_with fail
  clear hm1 hm2 hW2
  generalize w1.heap.size = g1 at HK0 HG ⊢
  go_loopw [26] (fun c wr => ∃ j : Nat, j ≤ L.length ∧ c = .int .i64 j ∧ KP wr g1 (g1 + 1) L.length j ∧ Below W.heap.size W wr) (fun c _ => L.length - (intOf c).toNat)
  case atStart => exact ⟨0, by omega, rfl, HK0.out, HB2.out⟩
  case round =>
    obtain ⟨j, hj, rfl, hK, hB⟩ := hrel
    have HK := Lib.hid hK; have HB := Lib.hid hB; clear hK hB HK0 HB2
    by_cases hlt : j < L.length
    · obtain ⟨b, rfl, d0, d1, d2⟩ := HC.out j hlt
      have hokj : ok L[j].2.1 := HOK.out _ (List.getElem_mem hlt)
      generalize hx : L[j] = x at *
      have e0 : wr.cell? (b.add (j * 3)) = some (.bool x.1) := cell_below d0 HB.out
      have e1 : wr.cell? ⟨(b.add (j * 3)).block, (b.add (j * 3)).off + 1, none⟩ = some (.int .i64 x.2.1) := cell_below d1 HB.out
      have e2 : wr.cell? ⟨(b.add (j * 3)).block, (b.add (j * 3)).off + 2, none⟩ = some (.int .i64 x.2.2) := cell_below d2 HB.out
      have hjl : (j : Int) < (L.length : Int) := by omega
      have hj0 : (0 : Int) ≤ (j : Int) := by omega
      clear d0 d1 d2 hx
      obtain ⟨q, v, T, hc1, hc2, hT, hV, hso, hol, hsz⟩ := HK.out.cells (i := j) (Nat.le_refl _)
      obtain ⟨a0, c0, hv⟩ := hV.len
      have hrl : (rep kf T.toList).length = T.toList.length := by simp [rep]
      rw [hrl] at hv
      have hba : Below wr.heap.size wr (wr.alloc (.cells #[.bool x.1, .int .i64 x.2.1, .int .i64 x.2.2] 36)) := (Below.refl _ wr).alloc (Nat.le_refl _) _
      obtain ⟨w3, hw3⟩ : ∃ w3, wr.alloc (.cells #[.bool x.1, .int .i64 x.2.1, .int .i64 x.2.2] 36) = w3 := ⟨_, rfl⟩
      have hN : w3.heap[wr.heap.size]? = some (.cells #[.bool x.1, .int .i64 x.2.1, .int .i64 x.2.2] 36 (0, 0)) := by rw [← hw3]; exact heap_new _ _
      rw [hw3] at hba
      have HKw := Lib.hid (HK.out.below hba); have HBw := Lib.hid (Below.step HB.out hba); have HTw := Lib.hid (hT.below hba); have HVw := Lib.hid (hV.below hba)
      have hks : KS g1 j wr.heap.size q v x w3 := ⟨cell_below hc1 hba, cell_below hc2 hba, by simp [World.cell?, hN], by simp [World.cell?, hN], by simp [World.cell?, hN]⟩
      have HKS := Lib.hid hks
      have k1 : ∀ w, KS g1 j wr.heap.size q v x w → w.cell? ⟨g1, j, none⟩ = some (.pointer q) := fun w h => h.1
      have k2 : ∀ w, KS g1 j wr.heap.size q v x w → w.cell? ⟨g1 + 1, j, none⟩ = some v := fun w h => h.2.1
      have k3 : ∀ w, KS g1 j wr.heap.size q v x w → w.cell? ⟨wr.heap.size, 0, none⟩ = some (.bool x.1) := fun w h => h.2.2.1
      have k4 : ∀ w, KS g1 j wr.heap.size q v x w → w.cell? ⟨wr.heap.size, 1, none⟩ = some (.int .i64 x.2.1) := fun w h => h.2.2.2.1
      have k5 : ∀ w, KS g1 j wr.heap.size q v x w → w.cell? ⟨wr.heap.size, 2, none⟩ = some (.int .i64 x.2.2) := fun w h => h.2.2.2.2
      have HGW : Hid (g1 + 1 < wr.heap.size) := Lib.hid (by obtain ⟨cs1, cs2, -, h2, -⟩ := HK.out; exact (Array.getElem?_eq_some_iff.1 h2).1)
      have HSO := Lib.hid hso; have HOL := Lib.hid hol; have HSZ := Lib.hid hsz; have HOX := Lib.hid hokj; have HRL := Lib.hid hrl; have HVV := Lib.hid hv
      have hj1 : (j : Int) < (L.length : Int) + 1 := by omega
      have hj2 : (j : Int) + 1 < (L.length : Int) + 1 := by omega
      have hj3 : (0 : Int) ≤ (j : Int) + 1 := by omega
      have hjw : j ≤ 1000 := by omega
      clear hc1 hc2 hT hV hso hol hsz hokj hrl hba hN hv hks
      go_wp2_with fail
      clear hw3
      have b0 : Below w3.heap.size w3 w3.drew := (Below.refl _ _).drew
      have B0 := HKS.out.below b0
      have HF : ∀ f, Fence.wide.fn f := fun _ => trivial
      have hw1 : IntKind.i64.wrap ((j : Int) + 1) = (j : Int) + 1 := by rw [IntKind.wrap_i64]; omega
      refine wp_region_anyH (KS g1 j wr.heap.size q v x) (by kernel_rfl) ?_
      refine AnyH.take (i := 0) (d := some 32) (v := ?_) (by kernel_rfl) rfl rfl HF (fun _ _ _ h => h) (.inl ⟨by rfl, ?_⟩) (by first | assumption | rfl) ?_
      rotate_left
      · intro w hS; try subst hS
        go_simp; try with_reducible rfl
      try simp only [Act.put, List.setIfInBounds_toArray, List.set_cons_zero, List.set_cons_succ]
      refine AnyH.take (i := 1) (d := some 33) (v := ?_) (by kernel_rfl) rfl rfl HF (fun _ _ _ h => h) (.inl ⟨by rfl, ?_⟩) (by first | assumption | rfl) ?_
      rotate_left
      · intro w hS; try subst hS
        go_simp; try with_reducible rfl
      try simp only [Act.put, List.setIfInBounds_toArray, List.set_cons_zero, List.set_cons_succ]
      refine AnyH.take (i := 2) (d := some 34) (v := ?_) (by kernel_rfl) rfl rfl HF (fun _ _ _ h => h) (.inl ⟨by rfl, ?_⟩) (by first | assumption | rfl) ?_
      rotate_left
      · intro w hS; try subst hS
        go_simp; try with_reducible rfl
      try simp only [Act.put, List.setIfInBounds_toArray, List.set_cons_zero, List.set_cons_succ]
      refine AnyH.take (i := 3) (d := some 35) (v := ?_) (by kernel_rfl) rfl rfl HF (fun _ _ _ h => h) (.inl ⟨by rfl, ?_⟩) (by first | assumption | rfl) ?_
      rotate_left
      · intro w hS; try subst hS
        go_simp; try with_reducible rfl
      try simp only [Act.put, List.setIfInBounds_toArray, List.set_cons_zero, List.set_cons_succ]
      refine AnyH.take (i := 4) (d := some 36) (v := ?_) (by kernel_rfl) rfl rfl HF (fun _ _ _ h => h) (.inl ⟨by rfl, ?_⟩) (by first | assumption | rfl) ?_
      rotate_left
      · intro w hS; try subst hS
        go_simp; try with_reducible rfl
      try simp only [Act.put, List.setIfInBounds_toArray, List.set_cons_zero, List.set_cons_succ]
      refine AnyH.take (i := 5) (d := some 37) (v := ?_) (by kernel_rfl) rfl rfl HF (fun _ _ _ h => h) (.inl ⟨by rfl, ?_⟩) (by first | assumption | rfl) ?_
      rotate_left
      · intro w hS; try subst hS
        go_simp; try with_reducible rfl
      try simp only [Act.put, List.setIfInBounds_toArray, List.set_cons_zero, List.set_cons_succ]
      refine AnyH.take (i := 6) (d := some 38) (v := ?_) (by kernel_rfl) rfl rfl HF (fun _ _ _ h => h) (.inl ⟨by rfl, ?_⟩) (by first | assumption | rfl) ?_
      rotate_left
      · intro w hS; try subst hS
        go_simp; try with_reducible rfl
      try simp only [Act.put, List.setIfInBounds_toArray, List.set_cons_zero, List.set_cons_succ]
      refine AnyH.take (i := 7) (d := some 39) (v := ?_) (by kernel_rfl) rfl rfl HF (fun _ _ _ h => h) (.inl ⟨by rfl, ?_⟩) (by first | assumption | rfl) ?_
      rotate_left
      · intro w hS; try subst hS
        go_simp; try with_reducible rfl
      try simp only [Act.put, List.setIfInBounds_toArray, List.set_cons_zero, List.set_cons_succ]
      refine AnyH.take (i := 8) (d := some 40) (v := ?_) (by kernel_rfl) rfl rfl HF (fun _ _ _ h => h) (.inl ⟨by rfl, ?_⟩) (by first | assumption | rfl) ?_
      rotate_left
      · intro w hS; try subst hS
        go_simp; try with_reducible rfl
      try simp only [Act.put, List.setIfInBounds_toArray, List.set_cons_zero, List.set_cons_succ]
      refine AnyH.take (i := 9) (d := some 41) (v := ?_) (by kernel_rfl) rfl rfl HF (fun _ _ _ h => h) (.inl ⟨by rfl, ?_⟩) (by first | assumption | rfl) ?_
      rotate_left
      · intro w hS; try subst hS
        go_simp; try with_reducible rfl
      try simp only [Act.put, List.setIfInBounds_toArray, List.set_cons_zero, List.set_cons_succ]
      refine AnyH.take (i := 10) (d := some 42) (v := ?_) (by kernel_rfl) rfl rfl HF (fun _ _ _ h => h) (.inl ⟨by rfl, ?_⟩) (by first | assumption | rfl) ?_
      rotate_left
      · intro w hS; try subst hS
        go_simp; try with_reducible rfl
      try simp only [Act.put, List.setIfInBounds_toArray, List.set_cons_zero, List.set_cons_succ]
      refine AnyH.take (i := 11) (d := some 43) (v := ?_) (by kernel_rfl) rfl rfl HF (fun _ _ _ h => h) (.inl ⟨by rfl, ?_⟩) (by first | assumption | rfl) ?_
      rotate_left
      · intro w hS; try subst hS
        go_simp; try with_reducible rfl
      try simp only [Act.put, List.setIfInBounds_toArray, List.set_cons_zero, List.set_cons_succ]
      refine AnyH.take (i := 12) (d := some 44) (v := ?_) (by kernel_rfl) rfl rfl HF (fun _ _ _ h => h) (.inl ⟨by rfl, ?_⟩) (by first | assumption | rfl) ?_
      rotate_left
      · intro w hS; try subst hS
        go_simp; try with_reducible rfl
      try simp only [Act.put, List.setIfInBounds_toArray, List.set_cons_zero, List.set_cons_succ]
      refine AnyH.take (i := 13) (d := some 45) (v := ?_) (by kernel_rfl) rfl rfl HF (fun _ _ _ h => h) (.inl ⟨by rfl, ?_⟩) (by first | assumption | rfl) ?_
      rotate_left
      · intro w hS; try subst hS
        go_simp; try with_reducible rfl
      try simp only [Act.put, List.setIfInBounds_toArray, List.set_cons_zero, List.set_cons_succ]
      refine AnyH.take (i := 14) (d := some 46) (v := ?_) (by kernel_rfl) rfl rfl HF (fun _ _ _ h => h) (.inl ⟨by rfl, ?_⟩) (by first | assumption | rfl) ?_
      rotate_left
      · intro w hS; try subst hS
        go_simp; try with_reducible rfl
      try simp only [Act.put, List.setIfInBounds_toArray, List.set_cons_zero, List.set_cons_succ]
      refine AnyH.one (i := 15) (by kernel_rfl) (by kernel_rfl) rfl HF (by rfl) (fun K hK => ?_)
      go_simp
      first | ((with_reducible refine And.intro ?hdep ?_); (case hdep => first | rfl | (intro h; cases h))) | skip
      refine callsIn_wide.2 ((do_any x HOX.out (HTw.out.below b0) (HVw.out.below b0) HSO.out HOL.out (by have := HSZ.out; omega)).mono ?_)
      rintro e w4 ⟨q2, v2, rfl, hT2, hV2, b4⟩
      have b4 : Below w3.heap.size w3 w4 := Below.step b0 b4
      have HT2 := Lib.hid hT2; have HV2 := Lib.hid hV2
      have B4 := HKS.out.below b4
      have HK4 := Lib.hid (HKw.out.below b4); have HB4 := Lib.hid (Below.step HBw.out b4)
      clear hT2 hV2
      refine hK _ _ B4 ?_
      clear hK K
      try simp only [Act.put, List.setIfInBounds_toArray, List.set_cons_zero, List.set_cons_succ]
      refine AnyH.take (i := 16) (d := some 31) (v := ?_) (by kernel_rfl) rfl rfl HF (fun _ _ _ h => h) (.inl ⟨by rfl, ?_⟩) (by first | assumption | rfl) ?_
      rotate_left
      · intro w hS; try subst hS
        go_simp; try with_reducible rfl
      try simp only [Act.put, List.setIfInBounds_toArray, List.set_cons_zero, List.set_cons_succ]
      refine AnyH.take (i := 17) (d := some 48) (v := ?_) (by kernel_rfl) rfl rfl HF (fun _ _ _ h => h) (.inl ⟨by rfl, ?_⟩) (by first | assumption | rfl) ?_
      rotate_left
      · intro w hS; try subst hS
        go_simp; try with_reducible rfl
      try simp only [Act.put, List.setIfInBounds_toArray, List.set_cons_zero, List.set_cons_succ]
      refine AnyH.take (i := 18) (d := some 49) (v := ?_) (by kernel_rfl) rfl rfl HF (fun _ _ _ h => h) (.inl ⟨by rfl, ?_⟩) (by first | assumption | rfl) ?_
      rotate_left
      · intro w hS; try subst hS
        go_simp; try with_reducible rfl
      try simp only [Act.put, List.setIfInBounds_toArray, List.set_cons_zero, List.set_cons_succ]
      refine AnyH.take (i := 19) (d := some 50) (v := ?_) (by kernel_rfl) rfl rfl HF (fun _ _ _ h => h) (.inl ⟨by rfl, ?_⟩) (by first | assumption | rfl) ?_
      rotate_left
      · intro w hS; try subst hS
        go_simp; try with_reducible rfl
      try simp only [Act.put, List.setIfInBounds_toArray, List.set_cons_zero, List.set_cons_succ]
      refine AnyH.one (i := 20) (by kernel_rfl) (by kernel_rfl) rfl HF (by rfl) (fun K hK => ?_)
      go_simp
      obtain ⟨a2, c2, hv2⟩ := HV2.out.len
      have hrl2 : (rep kf (actF x T).toList).length = (actF x T).toList.length := by simp [rep]
      rw [hrl2] at hv2
      subst hv2
      obtain ⟨⟨u1, hu1⟩, -, hf1, -⟩ := HK4.out.free (i := j + 1) (by omega)
      simp only [hu1, hf1]
      go_simp
      have B5 : KS g1 j wr.heap.size q v x (w4.setCell ⟨g1, j + 1, none⟩ (.pointer q2)) := B4.set _ (by have := HGW.out; omega)
      refine hK _ _ B5 ?_
      clear hK K hu1 hf1 hrl2
      try simp only [Act.put, List.setIfInBounds_toArray, List.set_cons_zero, List.set_cons_succ]
      refine AnyH.take (i := 21) (d := some 51) (v := ?_) (by kernel_rfl) rfl rfl HF (fun _ _ _ h => h) (.inl ⟨by rfl, ?_⟩) (by first | assumption | rfl) ?_
      rotate_left
      · intro w hS; try subst hS
        go_simp; try with_reducible rfl
      try simp only [Act.put, List.setIfInBounds_toArray, List.set_cons_zero, List.set_cons_succ]
      refine AnyH.tailL 22 (by kernel_rfl) ?_
      simp only [List.drop_succ_cons, List.drop_zero]
      clear hw1 k1 k2 k3 k4 k5
      have HKN : Hid (KP ((w4.setCell ⟨g1, j + 1, none⟩ (.pointer q2)).setCell ⟨g1 + 1, j + 1, none⟩ (.slice a2 (actF x T).toList.length c2)) g1 (g1 + 1) L.length (j + 1)) := Lib.hid (HK4.out.step (by omega) HT2.out (by
          have h := HV2.out
          exact h) ⟨actF_sorted x HSO.out, actF_ok x HOX.out HSO.out HOL.out, by have := actF_sz x T; have := HSZ.out; omega⟩)
      have HBN : Hid (Below W.heap.size W ((w4.setCell ⟨g1, j + 1, none⟩ (.pointer q2)).setCell ⟨g1 + 1, j + 1, none⟩ (.slice a2 (actF x T).toList.length c2))) := Lib.hid ((HB4.out.setCell (p := ⟨g1, j + 1, none⟩) HG.out _).setCell (p := ⟨g1 + 1, j + 1, none⟩) (by have := HG.out; simp; omega) _)
      obtain ⟨u2, hu2, hf2⟩ : ∃ u2, (w4.setCell ⟨g1, j + 1, none⟩ (.pointer q2)).cell? ⟨g1 + 1, j + 1, none⟩ = some u2 ∧ (w4.setCell ⟨g1, j + 1, none⟩ (.pointer q2)).frozen? ⟨g1 + 1, j + 1, none⟩ = false := by
        obtain ⟨cs1, cs2, h1, h2, s1, s2, -⟩ := HK4.out
        have h3 := (Below.heap_setCell w4 ⟨g1, j + 1, none⟩ (.pointer q2) (g1 + 1) (by simp)).trans h2
        exact ⟨cs2[j + 1]'(by omega), by simp [World.cell?, h3, s2, hlt], by simp [World.frozen?, h3]⟩
      gi_wp2_with fail
      go_wp2_with fail
      go_roundw
      case rel => exact ⟨j + 1, by omega, by go_num, HKN.out, HBN.out⟩
      case measure => simp [intOf]; omega
    · obtain rfl : j = L.length := by omega
      have HW3 := Lib.hid (And.intro HK.out HB.out)
      clear HK HB
      go_wp2_with fail
      obtain ⟨wo, rfl⟩ : ∃ wo : World, wo = wr := ⟨_, rfl⟩
      go_loopw [55] (fun c w => ∃ j : Nat, j ≤ L.length + 1 ∧ c = .int .i64 j ∧ Below wo.heap.size wo w) (fun c _ => L.length + 1 - (intOf c).toNat)
      case atStart => exact ⟨0, by omega, rfl, Below.refl _ _⟩
      case round =>
        obtain ⟨j, hj, rfl, hB⟩ := hrel
        have HB := Lib.hid hB; clear hB
        by_cases hlt : j < L.length + 1
        · obtain ⟨q, v, T, hc1, hc2, hT, hV, hso, hol, hsz⟩ := HW3.out.1.cells (i := j) (by omega)
          have k1 : ∀ w, Below wo.heap.size wo w → w.cell? ⟨g1, j, none⟩ = some (.pointer q) := fun w h => cell_below hc1 h
          have k2 : ∀ w, Below wo.heap.size wo w → w.cell? ⟨g1 + 1, j, none⟩ = some v := fun w h => cell_below hc2 h
          have HT := Lib.hid hT; have HV := Lib.hid hV; have HOL := Lib.hid hol; have HSZ := Lib.hid hsz
          have hj1 : (j : Int) < (L.length : Int) + 1 := by omega
          have hj0 : (0 : Int) ≤ (j : Int) := by omega
          clear hc1 hc2 hT hV hso hol hsz
          go_wp2_with fail
          have B0 : Below wo.heap.size wo wr.drew := HB.out.drew
          have HF : ∀ f, Fence.wide.fn f := fun _ => trivial
          refine wp_region_anyH (Below wo.heap.size wo) (by kernel_rfl) ?_
          refine AnyH.take (i := 0) (d := some 58) (v := ?_) (by kernel_rfl) rfl rfl HF (fun _ _ _ h => h) (.inl ⟨by rfl, ?_⟩) (by first | assumption | rfl) ?_
          rotate_left
          · intro w hS; try subst hS
            go_simp; try with_reducible rfl
          try simp only [Act.put, List.setIfInBounds_toArray, List.set_cons_zero, List.set_cons_succ]
          refine AnyH.take (i := 1) (d := some 59) (v := ?_) (by kernel_rfl) rfl rfl HF (fun _ _ _ h => h) (.inl ⟨by rfl, ?_⟩) (by first | assumption | rfl) ?_
          rotate_left
          · intro w hS; try subst hS
            go_simp; try with_reducible rfl
          try simp only [Act.put, List.setIfInBounds_toArray, List.set_cons_zero, List.set_cons_succ]
          refine AnyH.take (i := 2) (d := some 60) (v := ?_) (by kernel_rfl) rfl rfl HF (fun _ _ _ h => h) (.inl ⟨by rfl, ?_⟩) (by first | assumption | rfl) ?_
          rotate_left
          · intro w hS; try subst hS
            go_simp; try with_reducible rfl
          try simp only [Act.put, List.setIfInBounds_toArray, List.set_cons_zero, List.set_cons_succ]
          refine AnyH.take (i := 3) (d := some 61) (v := ?_) (by kernel_rfl) rfl rfl HF (fun _ _ _ h => h) (.inl ⟨by rfl, ?_⟩) (by first | assumption | rfl) ?_
          rotate_left
          · intro w hS; try subst hS
            go_simp; try with_reducible rfl
          try simp only [Act.put, List.setIfInBounds_toArray, List.set_cons_zero, List.set_cons_succ]
          refine AnyH.take (i := 4) (d := some 62) (v := ?_) (by kernel_rfl) rfl rfl HF (fun _ _ _ h => h) (.inl ⟨by rfl, ?_⟩) (by first | assumption | rfl) ?_
          rotate_left
          · intro w hS; try subst hS
            go_simp; try with_reducible rfl
          try simp only [Act.put, List.setIfInBounds_toArray, List.set_cons_zero, List.set_cons_succ]
          refine AnyH.take (i := 5) (d := some 63) (v := ?_) (by kernel_rfl) rfl rfl HF (fun _ _ _ h => h) (.inl ⟨by rfl, ?_⟩) (by first | assumption | rfl) ?_
          rotate_left
          · intro w hS; try subst hS
            go_simp; try with_reducible rfl
          try simp only [Act.put, List.setIfInBounds_toArray, List.set_cons_zero, List.set_cons_succ]
          refine AnyH.take (i := 6) (d := some 64) (v := ?_) (by kernel_rfl) rfl rfl HF (fun _ _ _ h => h) (.inl ⟨by rfl, ?_⟩) (by first | assumption | rfl) ?_
          rotate_left
          · intro w hS; try subst hS
            go_simp; try with_reducible rfl
          try simp only [Act.put, List.setIfInBounds_toArray, List.set_cons_zero, List.set_cons_succ]
          refine AnyH.take (i := 7) (d := some 65) (v := ?_) (by kernel_rfl) rfl rfl HF (fun _ _ _ h => h) (.inl ⟨by rfl, ?_⟩) (by first | assumption | rfl) ?_
          rotate_left
          · intro w hS; try subst hS
            go_simp; try with_reducible rfl
          try simp only [Act.put, List.setIfInBounds_toArray, List.set_cons_zero, List.set_cons_succ]
          refine AnyH.one (i := 8) (by kernel_rfl) (by kernel_rfl) rfl HF (by rfl) (fun K hK => ?_)
          go_simp
          first | ((with_reducible refine And.intro ?hdep ?_); (case hdep => first | rfl | (intro h; cases h))) | skip
          refine callsIn_wide.2 ((is_any (HT.out.below B0) (HV.out.below B0) HOL.out (by have := HSZ.out; have := Tr.sz_eq T; omega)).mono ?_)
          rintro e w4 ⟨rfl, b4⟩
          have B4 : Below wo.heap.size wo w4 := Below.step B0 b4
          refine hK _ _ B4 ?_
          clear hK K
          try simp only [Act.put, List.setIfInBounds_toArray, List.set_cons_zero, List.set_cons_succ]
          refine AnyH.take (i := 9) (d := some 67) (v := ?_) (by kernel_rfl) rfl rfl HF (fun _ _ _ h => h) (.inl ⟨by rfl, ?_⟩) (by first | assumption | rfl) ?_
          rotate_left
          · intro w hS; try subst hS
            go_simp; try with_reducible rfl
          try simp only [Act.put, List.setIfInBounds_toArray, List.set_cons_zero, List.set_cons_succ]
          refine AnyH.done (by kernel_rfl) ?_
          go_wp2_with fail
          go_roundw
          case rel => exact ⟨j + 1, by omega, by go_num, B4⟩
          case measure => simp [intOf]; omega
        · obtain rfl : j = L.length + 1 := by omega
          go_wp2_with fail
          go_ret
          exact ⟨rfl, Below.step HW3.out.2 HB.out⟩
end ii
end Go.Proofs.Ytdgclambplipnaa
