/- Fold over the counting monoid. -/
import Derived.Test.YtpgnhnimndagpaaCalls0
namespace Go.Proofs.Ytpgnhnimndagpaa
open Go.RowKit
namespace C
attribute [local go_sem] Oper.semAt_some

/-- What a call leaves: some value of its kind, and at most m counts. -/
def FP (C c m : Nat) (W : World) (e : Ending) (w' : World) : Prop := ∃ (v : Value) (d : Nat), e = .returned v ∧ d ≤ m ∧ St C W w' (c + d)

/-- The counter's box and a result's box. -/
def BX (C : Nat) (W w : World) (t : TypeId) (v : Value) : Prop := w.heap[W.heap.size]? = some (.cells #[.pointer (some ⟨C, 0, none⟩)] 76 (0, 0)) ∧ w.heap[W.heap.size + 1]? = some (.cells #[v] t (0, 0))
theorem BX.below {C : Nat} {W A B : World} {t : TypeId} {v : Value} (h : BX C W A t v) (hb : Below A.heap.size A B) : BX C W B t v := ⟨box_below hb h.1, box_below hb h.2⟩
theorem BX.bc {C : Nat} {W A B : World} {t : TypeId} {v : Value} (h : BX C W A t v) (hb : BC C A B) (hC : C < W.heap.size) : BX C W B t v := ⟨hb.obj (by omega) h.1, hb.obj (by omega) h.2⟩
theorem BX.put {C : Nat} {W A : World} {t : TypeId} {v : Value} (h : BX C W A t v) (u : Value) : BX C W (A.setCell ⟨W.heap.size + 1, 0, none⟩ u) t u := ⟨box_other _ h.1 (by simp), box_set _ h.2⟩
theorem BX.other {C : Nat} {W A : World} {t : TypeId} {v : Value} (h : BX C W A t v) {a : Addr} (u : Value) (ha : W.heap.size + 1 < a.block) : BX C W (A.setCell a u) t v := ⟨box_other _ h.1 (by omega), box_other _ h.2 (by omega)⟩
theorem BX.start (C : Nat) (W : World) (t : TypeId) (v : Value) : BX C W ((W.alloc (.cells #[.pointer (some ⟨C, 0, none⟩)] 76)).alloc (.cells #[v] t)) t v := ⟨(Below.heap_alloc _ _ _ (by simp)).trans (heap_new _ _), heap_new1 _ _ _⟩
theorem start_below (C : Nat) (W : World) (t : TypeId) (v : Value) : Below W.heap.size W ((W.alloc (.cells #[.pointer (some ⟨C, 0, none⟩)] 76)).alloc (.cells #[v] t)) := ((Below.refl _ W).alloc (Nat.le_refl _) _).alloc (by simp) _

set_option maxRecDepth 100000 in
set_option maxHeartbeats 4000000 in
theorem fold_any {W : World} {v : Value} {L : List Int} (hL : RowAt (Value.int .i64) W v L) {C c : Nat} (hC : Cn W C c) (hc : c ≤ 100000) (hn : L.length ≤ 100000) (hrow : ∀ (i : Nat) (h : i < L.length), ∃ b cap, v = .slice (some b) L.length cap ∧ (b.add i).block ≠ C) :
    Calls Try.prog 34 #[.agg #[.pointer (some ⟨C, 0, none⟩)], v] W (FP C c L.length W) := by
  obtain ⟨a, cap, rfl, hc1, hc2, hcells⟩ := hL
  unfold maxLen at hc2
  have hlt := hC.lt
  have hmf : ∀ (fn : Fn) (first cap : Array Value) (w : World), (Instr.makeFunc fn first cap).run Try.prog w = .ok (.func fn first cap) w := fun _ _ _ _ => rfl
  have hmU : ∀ w : World, (method 206 76 (.agg #[.pointer (some ⟨C, 0, none⟩)]) "Unit").run Try.prog w = .ok (86, .agg #[.pointer (some ⟨C, 0, none⟩)]) w := fun _ => by kernel_rfl
  have hmJ : ∀ w : World, (method 206 76 (.agg #[.pointer (some ⟨C, 0, none⟩)]) "Join").run Try.prog w = .ok (85, .agg #[.pointer (some ⟨C, 0, none⟩)]) w := fun _ => by kernel_rfl
  have HM : Hid (∀ (i : Nat) (h : i < L.length), ∃ b, a = some b ∧ W.cell? (b.add i) = some (.int .i64 L[i]) ∧ (b.add i).block ≠ C) := Lib.hid (fun i h => by
    obtain ⟨b, e, m⟩ := hcells i h
    obtain ⟨b', cap', e', m'⟩ := hrow i h
    simp only [Value.slice.injEq] at e'
    rw [e] at e'
    obtain ⟨e', -, -⟩ := e'
    cases e'
    exact ⟨b, e, m, m'⟩)
  clear hcells hrow
  obtain ⟨W0, hW0⟩ : ∃ W0, (W.alloc (.cells #[.pointer (some ⟨C, 0, none⟩)] 76)).alloc (.cells #[.int .i64 0] 3) = W0 := ⟨_, rfl⟩
  have HB0 : Hid (Below W.heap.size W W0) := Lib.hid (by rw [← hW0]; exact start_below _ _ _ _)
  have HX0 : Hid (BX C W W0 3 (.int .i64 0)) := Lib.hid (by rw [← hW0]; exact BX.start _ _ _ _)
  have HS0 : Hid (St C W W0 c) := Lib.hid ((St.refl hC).below HB0.out)
  have c0 := box_cell HX0.out.1
  cases L with
  | nil =>
    go_enter_defers Try.func34, Try.ntmps34
    go_wp2_with fail
    refine (cnt_unit C _).mono ?_; rintro e w1 ⟨rfl, b1⟩
    have HX1 := Lib.hid (HX0.out.below b1); have HS1 := Lib.hid (HS0.out.below b1)
    have c1 := box_cell HX1.out.2; have f1 := box_frozen HX1.out.2
    have HX2 := Lib.hid (HX1.out.put (.int .i64 0)); have HS2 := Lib.hid (HS1.out.set (p := ⟨W.heap.size + 1, 0, none⟩) (by simp) hlt (.int .i64 0))
    clear b1 c0
    go_wp2_with fail
    refine leaves_cons (f := 54) (args := #[.pointer (some ⟨W.heap.size + 1, 0, none⟩)]) (by simp) (by simp [go_sem]) ?_
    refine (catch54 ⟨W.heap.size + 1, 0, none⟩ _).mono ?_
    rintro e u' w'' ⟨rfl, rfl, rfl⟩
    have c2 := box_cell HX2.out.2
    simp only [Leaves, settle, results, Try.results34]
    simp [go_sem, c2]
    exact ⟨_, 0, rfl, by simp, HS2.out⟩
  | cons s L =>
    obtain ⟨b, rfl, m0, hb0⟩ := HM.out 0 (by simp)
    have z0 : b.add 0 = b := by unfold Addr.add; simp
    rw [z0] at m0 hb0
    have m1 : W0.cell? b = some (.int .i64 s) := cell_below m0 HB0.out
    have c1 := box_cell HX0.out.2; have f1 := box_frozen HX0.out.2
    have hl0 : (0 : Int) < ((L.length + 1 : Nat) : Int) := by omega
    have hl1 : (((L.length + 1 : Nat) : Int) == 0) = false := by simp; omega
    have HXs := Lib.hid (HX0.out.put (.int .i64 s)); have HSs := Lib.hid (HS0.out.set (p := ⟨W.heap.size + 1, 0, none⟩) (by simp) hlt (.int .i64 s))
    simp only [List.length_cons] at *
    clear m0 hb0 z0
    go_enter_defers Try.func34, Try.ntmps34
    go_wp2_with fail
    rotate_left
    all_goals
      clear hW0 c0 c1 f1 m1
      go_loopw [20] (fun k wr => ∃ (j : Nat) (z : Int), j ≤ L.length ∧ k = .int .i64 j ∧ BX C W wr 3 (.int .i64 z) ∧ St C W wr (c + j)) (fun k _ => L.length - (intOf k).toNat)
      case atStart => exact ⟨0, s, by omega, rfl, HXs.out, HSs.out⟩
      case round =>
        obtain ⟨j, z, hj, rfl, hX, hS⟩ := hrel
        have HX := Lib.hid hX; have HS := Lib.hid hS
        have c2 := box_cell hX.2; have f2 := box_frozen hX.2; have c3 := box_cell hX.1
        clear hX hS
        by_cases hlt2 : j < L.length
        · have hl3 : (j : Int) < (L.length : Int) := by omega
          have hl4 : (0 : Int) ≤ (j : Int) := by omega
          obtain ⟨b', e, m, hbl⟩ := HM.out (j + 1) (by simpa using hlt2)
          cases e
          have e : b.add (j + 1) = ⟨b.block, b.off + 1 + j, none⟩ := by unfold Addr.add; simp; omega
          rw [e] at m hbl
          have m1 : wr.cell? ⟨b.block, b.off + 1 + j, none⟩ = some (.int .i64 L[j]) := HS.out.2.cell hbl (by simpa using m)
          clear m hbl e
          go_wp2_with fail
          all_goals
            refine (cnt_join C (c + j) (by omega) _ _ _ HS.out.1).mono ?_
            rintro e w2 ⟨z2, rfl, hs2⟩
            have HX2 := Lib.hid (HX.out.bc hs2.2 hlt); have HS2 := Lib.hid (HS.out.step hs2)
            have c3 := box_cell HX2.out.2; have f3 := box_frozen HX2.out.2
            have HX3 := Lib.hid (HX2.out.put (.int .i64 z2)); have HS3 := Lib.hid (HS2.out.set (p := ⟨W.heap.size + 1, 0, none⟩) (by simp) hlt (.int .i64 z2))
            clear hs2 c2 f2 m1
            go_wp2_with fail
            go_roundw
            case rel => exact ⟨j + 1, z2, by omega, by go_num, HX3.out, HS3.out⟩
            case measure => simp [intOf]; omega
        · obtain rfl : j = L.length := by omega
          have HX2 := Lib.hid (HX.out.put (.int .i64 z)); have HS2 := Lib.hid (HS.out.set (p := ⟨W.heap.size + 1, 0, none⟩) (by simp) hlt (.int .i64 z))
          go_wp2_with fail
          refine leaves_cons (f := 54) (args := #[.pointer (some ⟨W.heap.size + 1, 0, none⟩)]) (by simp) (by simp [go_sem]) ?_
          refine (catch54 ⟨W.heap.size + 1, 0, none⟩ _).mono ?_
          rintro e u' w'' ⟨rfl, rfl, rfl⟩
          have c5 := box_cell HX2.out.2
          simp only [Leaves, settle, results, Try.results34]
          simp [go_sem, c5]
          exact ⟨_, L.length, rfl, by omega, HS2.out⟩
end C
end Go.Proofs.Ytpgnhnimndagpaa
