/- Fold where an element takes two cells. -/
import Derived.Test.YtpgnhnimndagpaaJoins
import Derived.Test.YtpgnhnimndagpaaPair
import Derived.Test.YtpgnhnimndagpaaRows2
import Derived.Test.YtpgnhnimndagpaaLists
import Derived.Outline
namespace Go.Proofs.Ytpgnhnimndagpaa
open Go.RowKit
namespace F

set_option maxRecDepth 100000 in
set_option maxHeartbeats 4000000 in
theorem fold_any {W : World} {v : Value} {L : List (Int × Int)} (hL : RowAt2 .u64 W v L) :
    Calls Try.prog 24 #[.agg #[], v] W fun e w' => e = .returned (.agg #[.int .u64 (fold1 (joinF) (1, 0) L).1, .int .u64 (fold1 (joinF) (1, 0) L).2]) ∧ Below W.heap.size W w' := by
  obtain ⟨a, cap, rfl, hc1, hc2, hcells⟩ := hL
  unfold maxLen at hc2
  have hmf : ∀ (fn : Fn) (first cap : Array Value) (w : World), (Instr.makeFunc fn first cap).run Try.prog w = .ok (.func fn first cap) w := fun _ _ _ _ => rfl
  have hmU : ∀ w : World, (method 206 29 (.agg #[]) "Unit").run Try.prog w = .ok (25, .agg #[]) w := fun _ => by kernel_rfl
  have hmJ : ∀ w : World, (method 206 29 (.agg #[]) "Join").run Try.prog w = .ok (14, .agg #[]) w := fun _ => by kernel_rfl
  have HM := Lib.hid hcells; clear hcells
  obtain ⟨W0, hW0⟩ : ∃ W0, (W.alloc (.cells #[] 29)).alloc (.cells #[.int .u64 0, .int .u64 0] 25) = W0 := ⟨_, rfl⟩
  have HB0 : Hid (Below W.heap.size W W0) := Lib.hid (by rw [← hW0]; exact ((Below.refl _ W).alloc (Nat.le_refl _) _).alloc (by simp) _)
  have HN : Hid (W0.heap[W.heap.size + 1]? = some (.cells #[.int .u64 0, .int .u64 0] 25 (0, 0))) := Lib.hid (by rw [← hW0]; exact heap_new1 _ _ _)
  cases L with
  | nil =>
    go_enter_defers Try.func24, Try.ntmps24
    go_wp2_with fail
    refine (aff_unit _).mono ?_; rintro e w1 ⟨rfl, b1⟩
    have HB1 := Lib.hid (Below.step HB0.out b1); have n1 := box_below b1 HN.out
    obtain ⟨c0, c1, f0, f1⟩ := box2_cell n1
    have HN1 := Lib.hid n1
    clear b1 n1
    go_wp2_with fail
    refine leaves_cons (f := 47) (args := #[.pointer (some ⟨W.heap.size + 1, 0, none⟩)]) (by simp) (by simp [go_sem]) ?_
    refine (catch47 ⟨W.heap.size + 1, 0, none⟩ _).mono ?_
    rintro e u' w'' ⟨rfl, rfl, rfl⟩
    obtain ⟨d0, d1, -, -⟩ := box2_cell (box2_set (.int .u64 (((1, 0) : Int × Int).1)) (.int .u64 (((1, 0) : Int × Int).2)) HN1.out)
    have hB2 := below2 (C := W.heap.size + 1) (.int .u64 (((1, 0) : Int × Int).1)) (.int .u64 (((1, 0) : Int × Int).2)) HB1.out (by omega)
    simp only [Leaves, settle, results, Try.results24]
    simp [go_sem] at d0 d1 hB2 ⊢
    simp [go_sem, d0, d1]
    exact ⟨⟨rfl, rfl⟩, hB2⟩
  | cons s L =>
    obtain ⟨b, rfl, m0, m1⟩ := HM.out 0 (by simp)
    have z0 : b.add (0 * 2) = b := by unfold Addr.add; simp
    rw [z0] at m0 m1
    have c0 : W0.cell? b = some (.int .u64 s.1) := cell_below m0 HB0.out
    have c1 : W0.cell? ⟨b.block, b.off + 1, none⟩ = some (.int .u64 s.2) := cell_below m1 HB0.out
    obtain ⟨d0, d1, e0, e1⟩ := box2_cell HN.out
    have hl0 : (0 : Int) < ((L.length + 1 : Nat) : Int) := by omega
    have hl1 : (((L.length + 1 : Nat) : Int) == 0) = false := by simp; omega
    simp only [List.length_cons] at *
    go_enter_defers Try.func24, Try.ntmps24
    go_wp2_with fail
    rotate_left
    all_goals
      go_loopw [20] (fun c wr => ∃ j : Nat, j ≤ L.length ∧ c = .int .i64 j ∧ wr.heap[W.heap.size + 1]? = some (.cells #[.int .u64 ((L.take j).foldl (joinF) s).1, .int .u64 ((L.take j).foldl (joinF) s).2] 25 (0, 0)) ∧ Below W.heap.size W wr) (fun c _ => L.length - (intOf c).toNat)
      case atStart => exact ⟨0, by omega, rfl, box2_set _ _ HN.out, below2 _ _ HB0.out (by omega)⟩
      case round =>
        obtain ⟨j, hj, rfl, hc, hB⟩ := hrel
        have HB1 := Lib.hid hB; have HC := Lib.hid hc
        clear hB hc
        by_cases hlt : j < L.length
        · have hl3 : (j : Int) < (L.length : Int) := by omega
          have hl4 : (0 : Int) ≤ (j : Int) := by omega
          obtain ⟨b', eb, m0, m1⟩ := HM.out (j + 1) (by simpa using hlt)
          cases eb
          rw [pair_at] at m0 m1
          simp only [List.getElem_cons_succ] at m0 m1
          have m0 : wr.cell? ⟨b.block, b.off + 2 + j * 2, none⟩ = some (.int .u64 L[j].1) := cell_below m0 HB1.out
          have m1 : wr.cell? ⟨b.block, b.off + 2 + j * 2 + 1, none⟩ = some (.int .u64 L[j].2) := cell_below m1 HB1.out
          obtain ⟨W1, hW1⟩ : ∃ W1, wr.alloc (.cells #[.int .u64 L[j].1, .int .u64 L[j].2] 25) = W1 := ⟨_, rfl⟩
          have hb1 : Below wr.heap.size wr W1 := by rw [← hW1]; exact (Below.refl _ _).alloc (Nat.le_refl _) _
          have hn1 : W1.heap[wr.heap.size]? = some (.cells #[.int .u64 L[j].1, .int .u64 L[j].2] 25 (0, 0)) := by rw [← hW1]; exact heap_new _ _
          have hc1 := box_below hb1 HC.out
          obtain ⟨d0, d1, -, -⟩ := box2_cell hc1
          obtain ⟨n0, n1, -, -⟩ := box2_cell hn1
          have HC1 := Lib.hid hc1; have HBW := Lib.hid (Below.step HB1.out hb1)
          have HT := Lib.hid (take_snoc (joinF) s L j hlt)
          clear hb1 hn1 hc1
          go_wp2_with fail
          all_goals
            refine (aff_join _ _ _).mono ?_
            rintro e w2 ⟨rfl, b2⟩
            rw [← HT.out]
            have HB2 := Lib.hid (Below.step HBW.out b2)
            have c2 := box_below b2 HC1.out
            have HC2 := Lib.hid c2
            clear b2 d0 d1 n0 n1 hW1 m0 m1
            obtain ⟨d0, d1, e0, e1⟩ := box2_cell c2
            clear c2
            go_wp2_with fail
            go_roundw
            case rel => exact ⟨j + 1, by omega, by go_num, box2_set _ _ HC2.out, below2 _ _ HB2.out (by omega)⟩
            case measure => simp [intOf]; omega
        · obtain rfl : j = L.length := by omega
          rw [List.take_length] at *
          obtain ⟨d0, d1, e0, e1⟩ := box2_cell HC.out
          have HC2 := Lib.hid (box2_set (.int .u64 (L.foldl (joinF) s).1) (.int .u64 (L.foldl (joinF) s).2) HC.out)
          have HB2 := Lib.hid (below2 (C := W.heap.size + 1) (.int .u64 (L.foldl (joinF) s).1) (.int .u64 (L.foldl (joinF) s).2) HB1.out (by omega))
          go_wp2_with fail
          refine leaves_cons (f := 47) (args := #[.pointer (some ⟨W.heap.size + 1, 0, none⟩)]) (by simp) (by simp [go_sem]) ?_
          refine (catch47 ⟨W.heap.size + 1, 0, none⟩ _).mono ?_
          rintro e u' w'' ⟨rfl, rfl, rfl⟩
          obtain ⟨g0, g1, -, -⟩ := box2_cell HC2.out
          have hB3 := HB2.out
          simp only [Leaves, settle, results, Try.results24]
          simp [go_sem, g0, g1]
          exact ⟨⟨rfl, rfl⟩, hB3⟩
end F
end Go.Proofs.Ytpgnhnimndagpaa
