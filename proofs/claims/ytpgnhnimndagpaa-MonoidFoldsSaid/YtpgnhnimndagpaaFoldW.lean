/- Fold where an element takes one cell. -/
import Derived.Test.YtpgnhnimndagpaaJoins
import Derived.Test.YtpgnhnimndagpaaBase
import Derived.Test.YtpgnhnimndagpaaLists
namespace Go.Proofs.Ytpgnhnimndagpaa
open Go.RowKit
namespace W

set_option maxRecDepth 100000 in
set_option maxHeartbeats 1600000 in
theorem fold_any {W : World} {v : Value} {L : List ByteArray} (hL : RowAt (Value.string) W v L) (hJ : ∀ s L', L = s :: L' → ∀ (j : Nat) (h : j < L'.length), (fun a b : ByteArray => a.size + b.size ≤ 9223372036854775807) ((L'.take j).foldl (fun x1 x2 : ByteArray => x1 ++ x2) s) L'[j]) :
    Calls Try.prog 33 #[.agg #[], v] W fun e w' => e = .returned (Value.string (fold1 (fun x1 x2 : ByteArray => x1 ++ x2) (⟨#[]⟩) L)) ∧ Below W.heap.size W w' := by
  obtain ⟨a, cap, rfl, hc1, hc2, hcells⟩ := hL
  unfold maxLen at hc2
  have hmf : ∀ (fn : Fn) (first cap : Array Value) (w : World), (Instr.makeFunc fn first cap).run Try.prog w = .ok (.func fn first cap) w := fun _ _ _ _ => rfl
  have hmU : ∀ w : World, (method 206 32 (.agg #[]) "Unit").run Try.prog w = .ok (76, .agg #[]) w := fun _ => by kernel_rfl
  have hmJ : ∀ w : World, (method 206 32 (.agg #[]) "Join").run Try.prog w = .ok (75, .agg #[]) w := fun _ => by kernel_rfl
  have HM := Lib.hid hcells; clear hcells
  obtain ⟨W0, hW0⟩ : ∃ W0, (W.alloc (.cells #[] 32)).alloc (.cells #[Value.string ⟨#[]⟩] 9) = W0 := ⟨_, rfl⟩
  have HB0 : Hid (Below W.heap.size W W0) := Lib.hid (by rw [← hW0]; exact ((Below.refl _ W).alloc (Nat.le_refl _) _).alloc (by simp) _)
  have HN : Hid (W0.heap[W.heap.size + 1]? = some (.cells #[Value.string ⟨#[]⟩] 9 (0, 0))) := Lib.hid (by rw [← hW0]; exact heap_new1 _ _ _)
  cases L with
  | nil =>
    go_enter_defers Try.func33, Try.ntmps33
    go_wp2_with fail
    refine (words_unit _).mono ?_; rintro e w1 ⟨rfl, b1⟩
    have HB1 := Lib.hid (Below.step HB0.out b1); have n1 := box_below b1 HN.out
    have c1 := box_cell n1; have f1 := box_frozen n1
    have HN1 := Lib.hid n1
    clear b1 n1
    go_wp2_with fail
    refine leaves_cons (f := 53) (args := #[.pointer (some ⟨W.heap.size + 1, 0, none⟩)]) (by simp) (by simp [go_sem]) ?_
    refine (catch53 ⟨W.heap.size + 1, 0, none⟩ _).mono ?_
    rintro e u' w'' ⟨rfl, rfl, rfl⟩
    have c2 := box_cell (box_set (Value.string (⟨#[]⟩)) HN1.out)
    have hB2 : Below W.heap.size W (w1.setCell ⟨W.heap.size + 1, 0, none⟩ (Value.string (⟨#[]⟩))) := HB1.out.setCell (p := ⟨W.heap.size + 1, 0, none⟩) (by simp) _
    simp [Leaves, settle, results, Try.results33, go_sem, c2]
    exact ⟨rfl, hB2⟩
  | cons s L =>
    have HJ := Lib.hid (hJ s L rfl); clear hJ
    obtain ⟨b, rfl, m0⟩ := HM.out 0 (by simp)
    have z0 : b.add 0 = b := by unfold Addr.add; simp
    rw [z0] at m0
    have c0 : W0.cell? b = some (Value.string s) := cell_below m0 HB0.out
    have c1 := box_cell HN.out; have f1 := box_frozen HN.out
    have hl0 : (0 : Int) < ((L.length + 1 : Nat) : Int) := by omega
    have hl1 : (((L.length + 1 : Nat) : Int) == 0) = false := by simp; omega
    simp only [List.length_cons] at *
    go_enter_defers Try.func33, Try.ntmps33
    go_wp2_with fail
    rotate_left
    all_goals
      go_loopw [20] (fun c wr => ∃ j : Nat, j ≤ L.length ∧ c = .int .i64 j ∧ wr.heap[W.heap.size + 1]? = some (.cells #[Value.string ((L.take j).foldl (fun x1 x2 : ByteArray => x1 ++ x2) s)] 9 (0, 0)) ∧ wr.heap[W.heap.size]? = some (.cells #[] 32 (0, 0)) ∧ Below W.heap.size W wr) (fun c _ => L.length - (intOf c).toNat)
      case atStart => exact ⟨0, by omega, rfl, box_set _ HN.out, (by
          rw [Below.heap_setCell]
          · rw [← hW0]; exact (Below.heap_alloc _ _ _ (by simp)).trans (heap_new W _)
          · simp), HB0.out.setCell (p := ⟨W.heap.size + 1, 0, none⟩) (by simp) _⟩
      case round =>
        obtain ⟨j, hj, rfl, hc, hd, hB⟩ := hrel
        have HB1 := Lib.hid hB; have HC := Lib.hid hc; have HD := Lib.hid hd
        have c2 := box_cell hc; have f2 := box_frozen hc
        clear hB hc hd
        by_cases hlt : j < L.length
        · have hl3 : (j : Int) < (L.length : Int) := by omega
          have hl4 : (0 : Int) ≤ (j : Int) := by omega
          have m1 : wr.cell? ⟨b.block, b.off + 1 + j, none⟩ = some (Value.string L[j]) := by
            obtain ⟨b', e, m⟩ := HM.out (j + 1) (by simpa using hlt)
            cases e
            have e : b.add (j + 1) = ⟨b.block, b.off + 1 + j, none⟩ := by unfold Addr.add; simp; omega
            rw [e] at m
            exact cell_below (by simpa using m) HB1.out
          go_wp2_with fail
          all_goals
            have hs := HJ.out j hlt
            refine (words_join _ _ hs _).mono ?_
            rintro e w2 ⟨rfl, b2⟩
            rw [← take_snoc (fun x1 x2 : ByteArray => x1 ++ x2) s L j hlt]
            have hB2 := Below.step HB1.out b2
            have n2 := box_below b2 HC.out
            have c3 := box_cell n2; have f3 := box_frozen n2
            have hd2 := box_below b2 HD.out
            have hne : (w2.setCell ⟨W.heap.size + 1, 0, none⟩ (Value.string ((L.take (j + 1)).foldl (fun x1 x2 : ByteArray => x1 ++ x2) s))).heap[W.heap.size]? = some (.cells #[] 32 (0, 0)) := by
              rw [Below.heap_setCell]
              · exact hd2
              · simp
            have HD2 := Lib.hid hne; have HN2 := Lib.hid (box_set (Value.string ((L.take (j + 1)).foldl (fun x1 x2 : ByteArray => x1 ++ x2) s)) n2)
            have HB2 := Lib.hid (hB2.setCell (p := ⟨W.heap.size + 1, 0, none⟩) (by simp) (Value.string ((L.take (j + 1)).foldl (fun x1 x2 : ByteArray => x1 ++ x2) s)))
            clear b2 hB2 n2 hd2 hne c2 f2 m1
            go_wp2_with fail
            go_roundw
            case rel => exact ⟨j + 1, by omega, by go_num, HN2.out, HD2.out, HB2.out⟩
            case measure => simp [intOf]; omega
        · obtain rfl : j = L.length := by omega
          rw [List.take_length] at *
          have HC2 := Lib.hid (box_set (Value.string (L.foldl (fun x1 x2 : ByteArray => x1 ++ x2) s)) HC.out)
          have HB2 := Lib.hid (HB1.out.setCell (p := ⟨W.heap.size + 1, 0, none⟩) (by simp) (Value.string (L.foldl (fun x1 x2 : ByteArray => x1 ++ x2) s)))
          go_wp2_with fail
          refine leaves_cons (f := 53) (args := #[.pointer (some ⟨W.heap.size + 1, 0, none⟩)]) (by simp) (by simp [go_sem]) ?_
          refine (catch53 ⟨W.heap.size + 1, 0, none⟩ _).mono ?_
          rintro e u' w'' ⟨rfl, rfl, rfl⟩
          have c5 := box_cell HC2.out
          have hB3 := HB2.out
          simp only [Leaves, settle, results, Try.results33]
          simp [go_sem, c5]
          exact ⟨rfl, hB3⟩
end W
end Go.Proofs.Ytpgnhnimndagpaa
