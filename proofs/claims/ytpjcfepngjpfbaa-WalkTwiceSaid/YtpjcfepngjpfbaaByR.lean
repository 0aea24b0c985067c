/- Letters, wherever they lie; the law's Bytes; a text from an offset on (as in cursor/XStepP). -/
import Derived.Test.YtpjcfepngjpfbaaBytes
import Derived.Test.YtpjcfepngjpfbaaBase
import Derived.Laws.Slices
namespace Go.Proofs.Ytpjcfepngjpfbaa
open Go.RowKit Go.Lib
namespace M
attribute [local go_sem] Oper.semAt_some
theorem cell_on3' {A C : World} {a : Addr} {v : Value} (h : A.cell? a = some v) (hb : Below A.heap.size A C) : C.cell? a = some v := by
  have h2 := h
  unfold World.cell? at h ⊢
  cases hh : A.heap[a.block]? with
  | none => rw [hh] at h; cases h
  | some o =>
    rw [hb.block a.block (Array.getElem?_eq_some_iff.1 hh).1]
    exact h
/-- Letters, wherever they lie. -/
abbrev ByR (W : World) (v : Value) (l : List Nat) : Prop := RowAt (fun n : Nat => Value.int .u8 n) W v l
theorem Bys.row {B : Nat} {W : World} {v : Value} {l : List Nat} (h : Bys B W v l) : ByR W v l := by
  rcases h.shape with ⟨rfl, rfl⟩ | ⟨g, cap, rfl, h1, h2⟩
  · exact ⟨none, 0, rfl, by simp, by unfold maxLen; omega, fun i h => by cases h⟩
  · refine ⟨_, cap, rfl, h1, h2, fun i hi => ⟨_, rfl, ?_⟩⟩
    obtain ⟨g', cap', hv, -, -, hc⟩ := Bys.at h hi
    cases hv
    rw [← hc W (Below.refl _ _) i hi]
    congr 1
    unfold Addr.add; split <;> simp_all
theorem conv_row {W : World} {v : Value} {l : List Nat} (h : ByR W v l) : (convert 32 9 v).run Try.prog W = .ok (.string (bstr l)) W := by
  obtain ⟨a, cap, rfl, h1, h2, hc⟩ := h
  rw [run_convert_bytes_string (e := 5) W _ _ _ _ _ Try.underlying32 Try.underlying5 Try.underlying9]
  cases a with
  | none =>
    cases l with
    | nil => rfl
    | cons x l => obtain ⟨b, hb, -⟩ := hc 0 (by simp); cases hb
  | some b =>
    refine run_bytesToString W b l.length cap (l.map (fun n : Nat => (n : Int))) ?_
    have := run_loadCells_list (P := Try.prog) W b ((l.map (fun n : Nat => (n : Int))).map (Value.int .u8)) (fun j v hv => by
      have hj : j < l.length := by
        have := (List.getElem?_eq_some_iff.1 hv).1
        simpa using this
      obtain ⟨b', hb', hcl⟩ := hc j hj
      cases hb'
      rw [hcl]
      rw [List.getElem?_eq_getElem (by simpa using hj)] at hv
      simp only [List.getElem_map, Option.some.injEq] at hv
      exact congrArg some hv)
    simpa using this
set_option maxRecDepth 100000 in
theorem bytes2_any {W : World} {v1 v2 : Value} {l : List Nat} (h1 : ByR W v1 l) (h2 : ByR W v2 l) :
    Calls Try.prog 17 #[v1, v2] W fun e w' => e = .returned (.bool true) ∧ w' = W := by
  have c1 := conv_row h1; have c2 := conv_row h2
  generalize bstr l = s at *
  clear h1 h2
  go_enter Try.func17, Try.ntmps17
  go_wp2_with fail
  go_ret
  exact ⟨rfl, rfl⟩
theorem row_below {A C : World} {v : Value} {l : List Nat} (h : ByR A v l) (hb : Below A.heap.size A C) : ByR C v l := by
  obtain ⟨a, cap, rfl, h1, h2, hc⟩ := h
  exact ⟨a, cap, rfl, h1, h2, fun i hi => (hc i hi).imp fun b hh => ⟨hh.1, cell_on3' hh.2 hb⟩⟩
/-- A text from an offset on. -/
theorem bys_drop {t : List Nat} {tl k : Nat} (hl : t.length = tl) (hk : k ≤ tl) (a0 : Option Addr) (c : Nat) (hc : tl ≤ c) :
    ∃ A' m c', (∀ w, (Instr.slice 32 (.slice a0 tl c) (some (.int .i64 (k : Int))) none none).run Try.prog w = .ok (.slice A' m c') w) ∧ ∀ W B, Bys B W (.slice a0 tl c) t → ByR W (.slice A' m c') (t.drop k) := by
  have hs : ∀ w, (sizeOf (Try.prog.elem 32)).run Try.prog w = .ok 1 w := fun w => by kernel_rfl
  have hr : ∀ w, (Instr.slice 32 (.slice a0 tl c) (some (.int .i64 (k : Int))) none none).run Try.prog w = .ok (sliced a0 k tl c 1) w := fun w => by
    have := run_slice_l (P := Try.prog) w 32 a0 tl c (by kernel_rfl) .i64 (k : Int) (by omega) (by omega)
    rw [this, hs, Int.toNat_natCast]; rfl
  refine ⟨(if c = k then a0 else a0.map (·.add (k * 1))), tl - k, c - k, (fun w => by rw [hr w]; simp [sliced]), ?_⟩
  intro W B h
  have hml : (t.drop k).length = tl - k := by rw [List.length_drop]; omega
  have hcm : c ≤ maxLen := by
    rcases h.shape with ⟨h1, h2⟩ | ⟨g2, c2, h1, h2, h3⟩
    · cases h1; unfold maxLen; omega
    · simp only [Value.slice.injEq] at h1; obtain ⟨-, -, rfl⟩ := h1; exact h3
  refine ⟨_, _, by rw [hml], by rw [hml]; omega, by omega, ?_⟩
  intro j hj
  rw [hml] at hj
  have hj' : k + j < t.length := by omega
  obtain ⟨g, cap, hv, -, -, hE⟩ := Bys.at h hj'
  simp only [Value.slice.injEq] at hv
  obtain ⟨rfl, -, rfl⟩ := hv
  have e0 := hE W (Below.refl _ _) (k + j) hj'
  have hne : ¬ c = k := by omega
  have hx : (t.drop k)[j]'(by rw [hml]; exact hj) = t[k + j] := by rw [List.getElem_drop]
  rw [hx, if_neg hne]
  refine ⟨_, rfl, ?_⟩
  rw [← e0]; congr 1; unfold Addr.add; split <;> split <;> simp_all <;> omega
end M
end Go.Proofs.Ytpjcfepngjpfbaa
