/- length.Sum; split.Cut: the parts of a text between offsets. -/
import Derived.Test.YtplccefjljdjnaaSplitB
import Derived.Test.YtplccefjljdjnaaPrep
set_option linter.unusedVariables false
set_option linter.unusedSimpArgs false
namespace Go.Proofs.Ytplccefjljdjnaa
open Go.RowKit Go.Lib
namespace M
attribute [local go_sem] Oper.semAt_some
def encNt (n : Nat) : List Value := [.int .i64 (n : Int)]
theorem encNt_len (n : Nat) : (encNt n).length = 1 := rfl
theorem encNt_one (n : Nat) : ∀ u ∈ encNt n, u.oneCell' = true := by simp [encNt, Value.oneCell']
abbrev Nts (B : Nat) (W : World) (v : Value) (l : List Nat) : Prop := SlA B W 3 1 encNt v l
abbrev Ids (B : Nat) (W : World) (v : Value) (l : List Nat) : Prop := SlA B W 65 1 encNt v l
theorem elemNt : Elem Try.prog 49 3 1 8 := elem_of Try.underlying49 (z := .int .i64 0) (by kernel_rfl) rfl (by decide) (by decide)
theorem elemId : Elem Try.prog 128 65 1 8 := elem_of Try.underlying128 (z := .int .i64 0) (by kernel_rfl) rfl (by decide) (by decide)
theorem nts_at {e : TypeId} {B : Nat} {W : World} {v : Value} {l : List Nat} (h : SlA B W e 1 encNt v l) {i : Nat} (hi : i < l.length) : ∃ g cap, v = .slice (some ⟨g, 0, none⟩) l.length cap ∧ W.cell? ⟨g, i, none⟩ = some (.int .i64 (l[i] : Int)) := by
  rcases h.shape with ⟨-, rfl⟩ | ⟨g, cap, rfl, h1, h2⟩
  · simp at hi
  · have := SlA.cell encNt_len h hi (j := 0) (by omega)
    rw [Nat.mul_one, Nat.add_zero] at this
    exact ⟨g, cap, rfl, this⟩
theorem sla_made {α : Type} (w : World) (e : TypeId) (enc : α → List Value) (c : Nat) (hc : c ≤ maxLen) : SlA w.heap.size (w.alloc (.cells (madeCells #[Value.int .i64 0] c) e)) e 1 enc (.slice (some ⟨w.heap.size, 0, none⟩) 0 c) [] := by
  have := World.ownsRow_made w (madeCells #[Value.int .i64 0] c) c (e := e) (base := w.heap.size) (size := 1) (by omega) hc (by rw [size_madeCells, Nat.mul_one])
  simpa [SlA] using this
theorem sum_take {l : List Nat} {j : Nat} (hj : j < l.length) : (l.take (j + 1)).sum = (l.take j).sum + l[j] := by
  rw [List.take_succ_eq_append_getElem hj, List.sum_append]; simp
theorem sum_le (l : List Nat) (j : Nat) : (l.take j).sum ≤ l.sum := by
  conv => rhs; rw [← List.take_append_drop j l, List.sum_append]
  omega
set_option maxRecDepth 100000 in
set_option maxHeartbeats 2000000 in
theorem sum_any {B : Nat} {W : World} {v : Value} {l : List Nat} (h : Nts B W v l) (hl : l.length ≤ 1000000) (hs : l.sum ≤ 1152921504606846976) :
    Calls Try.prog 80 #[v] W fun e w' => e = .returned (.tuple #[.int .i64 (l.sum : Nat), .nilIface]) ∧ w' = W := by
  obtain ⟨a0, c0, rfl⟩ := h.len
  have H := Lib.hid h; have HSM := Lib.hid hs
  clear h hs
  go_enter Try.func80, Try.ntmps80
  go_wp2_with fail
  go_loop [4, 11] (fun u c => ∃ j : Nat, j ≤ l.length ∧ c = .int .i64 j ∧ u = .int .i64 ((l.take j).sum : Nat)) (fun _ c => l.length - (intOf c).toNat)
  case atStart => exact ⟨0, Nat.zero_le _, rfl, rfl⟩
  case round =>
    obtain ⟨j, hj, rfl, rfl⟩ := hrel
    by_cases hlt : j < l.length
    · have hlt2 : (j : Int) < (l.length : Int) := by omega
      obtain ⟨g, cap, e1, k0⟩ := nts_at H.out hlt
      simp only [Value.slice.injEq] at e1
      obtain ⟨rfl, -, rfl⟩ := e1
      have HLT := Lib.hid hlt
      have hst := sum_take hlt
      have hle := sum_le l (j + 1)
      have hm := HSM.out
      generalize l[j]'hlt = x at k0 hst
      obtain ⟨q, hq⟩ : ∃ q, (l.take j).sum = q := ⟨_, rfl⟩
      rw [hq] at hst ⊢
      obtain ⟨q2, hq2⟩ : ∃ q2, q + x = q2 := ⟨_, rfl⟩
      have HAD := Lib.hid (fun w => add1_any w (a := q) (b := x) (by omega) (by omega))
      rw [hq2] at HAD hst
      simp only [if_pos (show q2 ≤ 1152921504606846976 by omega)] at HAD
      have HQ := Lib.hid hst
      clear hst hle hm hq hq2
      go_wp2_with fail
      refine (HAD.out W).mono ?_; rintro e w ⟨rfl, h⟩; rw [h]; clear h w
      go_wp2_with fail
      go_round
      case rel => exact ⟨j + 1, HLT.out, by go_num, by rw [HQ.out]⟩
      case measure => have := HLT.out; simp [intOf]; omega
    · obtain rfl : j = l.length := by omega
      go_wp2_with fail
      go_ret2
      exact ⟨rfl, rfl⟩
end M
end Go.Proofs.Ytplccefjljdjnaa
