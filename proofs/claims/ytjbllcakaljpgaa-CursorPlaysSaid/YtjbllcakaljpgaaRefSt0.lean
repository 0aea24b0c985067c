/- The reference's store: its two slices; Length. -/
import Derived.Test.YtjbllcakaljpgaaStoreWf
import Derived.Test.YtjbllcakaljpgaaPick
namespace Go.Proofs.Ytjbllcakaljpgaa
open Go.RowKit
namespace M
attribute [local go_sem] Oper.semAt_some
def encRu (r : Ru) : List Value := [.int .i64 r.kind, .int .u8 r.letter, .int .i64 r.left, .int .i64 r.right, .int .i64 r.times]
theorem encRu_len (r : Ru) : (encRu r).length = 5 := rfl
def encLn (n : Nat) : List Value := [.int .i64 n]
theorem encLn_len (n : Nat) : (encLn n).length = 1 := rfl
abbrev Rus (B : Nat) (W : World) (v : Value) (l : List Ru) : Prop := SlA B W 115 5 encRu v l
abbrev Lns (B : Nat) (W : World) (v : Value) (l : List Nat) : Prop := SlA B W 3 1 encLn v l
theorem elemRu : Elem Try.prog 58 115 5 40 := elem_of Try.underlying58 (z := .agg #[.int .i64 0, .int .u8 0, .int .i64 0, .int .i64 0, .int .i64 0]) (by kernel_rfl) rfl (by decide) (by decide)
theorem elemLn : Elem Try.prog 59 3 1 8 := elem_of Try.underlying59 (z := .int .i64 0) (by kernel_rfl) rfl (by decide) (by decide)
theorem Rus.at {B : Nat} {W : World} {v : Value} {l : List Ru} (h : Rus B W v l) {i : Nat} (hi : i < l.length) :
    ∃ g cap, v = .slice (some ⟨g, 0, none⟩) l.length cap ∧ l.length ≤ cap ∧ cap ≤ maxLen ∧ ∀ (W' : World), Below W.heap.size W W' → ∀ i (hi : i < l.length), W'.cell? ⟨g, i * 5, none⟩ = some (.int .i64 l[i].kind) ∧ W'.cell? ⟨g, i * 5 + 1, none⟩ = some (.int .u8 l[i].letter) ∧ W'.cell? ⟨g, i * 5 + 2, none⟩ = some (.int .i64 l[i].left) ∧ W'.cell? ⟨g, i * 5 + 3, none⟩ = some (.int .i64 l[i].right) ∧ W'.cell? ⟨g, i * 5 + 4, none⟩ = some (.int .i64 l[i].times) := by
  rcases h.shape with ⟨-, rfl⟩ | ⟨g, cap, rfl, h1, h2⟩
  · simp at hi
  · refine ⟨g, cap, rfl, h1, h2, fun W' hb i hi => ?_⟩
    have h' := h.below hb
    have c := fun (j : Nat) (hj : j < 5) => SlA.cell encRu_len h' hi (j := j) hj
    exact ⟨c 0 (by omega), c 1 (by omega), c 2 (by omega), c 3 (by omega), c 4 (by omega)⟩
theorem Lns.at {B : Nat} {W : World} {v : Value} {l : List Nat} (h : Lns B W v l) {i : Nat} (hi : i < l.length) :
    ∃ g cap, v = .slice (some ⟨g, 0, none⟩) l.length cap ∧ l.length ≤ cap ∧ cap ≤ maxLen ∧ ∀ (W' : World), Below W.heap.size W W' → ∀ i (hi : i < l.length), W'.cell? ⟨g, i, none⟩ = some (.int .i64 l[i]) := by
  rcases h.shape with ⟨-, rfl⟩ | ⟨g, cap, rfl, h1, h2⟩
  · simp at hi
  · refine ⟨g, cap, rfl, h1, h2, fun W' hb i hi => ?_⟩
    have h' := h.below hb
    have := SlA.cell encLn_len h' hi (j := 0) (by omega)
    rw [Nat.mul_one] at this
    exact this
/-- The length of a number's text. -/
def lenAt (l : List Nat) (i : Nat) : Nat := if i = 0 then 0 else (l[i - 1]?).getD 0
/-- A store of the reference in a block. -/
def RsC (W : World) (g : Nat) (a b : Value) : Prop := W.heap[g]? = some (.cells #[a, b] 61 (0, 0))
theorem RsC.cells {W : World} {g : Nat} {a b : Value} (h : RsC W g a b) : W.cell? ⟨g, 0, none⟩ = some a ∧ W.cell? ⟨g, 1, none⟩ = some b ∧ W.frozen? ⟨g, 0, none⟩ = false ∧ W.frozen? ⟨g, 1, none⟩ = false := by
  unfold RsC at h
  simp [World.cell?, World.frozen?, h]
set_option maxRecDepth 100000 in
theorem refLen_any {B : Nat} {W : World} {v u : Value} {l : List Nat} (h : Lns B W u l) {i : Nat} (hi : i ≤ l.length) (hl : l.length ≤ 1000000) (hv : ∃ a n c, v = .slice a n c) :
    Calls Try.prog 77 #[.agg #[v, u], .int .i64 i] W fun e w' => e = .returned (.int .i64 (lenAt l i)) ∧ Below W.heap.size W w' := by
  obtain ⟨va, vn, vc, rfl⟩ := hv
  obtain ⟨ua, uc, rfl⟩ := h.len
  by_cases h0 : i = 0
  · subst h0
    have e : lenAt l 0 = 0 := rfl
    rw [e]
    clear h hi hl
    go_enter Try.func77, Try.ntmps77
    go_wp2_with fail
    go_ret
    exact ⟨rfl, (Below.refl _ _).alloc (Nat.le_refl _) _⟩
  · have hlt : i - 1 < l.length := by omega
    have e : lenAt l i = l[i - 1] := by unfold lenAt; rw [if_neg h0, List.getElem?_eq_getElem hlt]; rfl
    rw [e]
    obtain ⟨W1, hW1⟩ : ∃ w, W.alloc (.cells #[.slice va vn vc, .slice ua l.length uc] 61) = w := ⟨_, rfl⟩
    have b1 : Below W.heap.size W W1 := by rw [← hW1]; exact (Below.refl _ _).alloc (Nat.le_refl _) _
    have k1 : RsC W1 W.heap.size (.slice va vn vc) (.slice ua l.length uc) := by rw [← hW1]; exact heap_new' _ _
    obtain ⟨-, c1, -, -⟩ := k1.cells
    obtain ⟨g, cap, hv, -, -, hc⟩ := h.at hlt
    simp only [Value.slice.injEq] at hv
    obtain ⟨rfl, -, rfl⟩ := hv
    have m0 := hc W1 b1 (i - 1) hlt
    generalize l[i - 1] = y at *
    obtain ⟨j, hj⟩ : ∃ j, i - 1 = j := ⟨_, rfl⟩
    have hi0 : ((i : Int) == 0) = false := by simp; omega
    have hs : IntKind.i64.wrap ((i : Int) - 1) = (j : Int) := by rw [IntKind.wrap_i64]; omega
    have hi3 : (j : Int) < (l.length : Int) := by omega
    have hi4 : (0 : Int) ≤ (j : Int) := by omega
    rw [hj] at m0
    have B1 := Lib.hid b1
    clear h hi hl h0 hlt e hc k1 b1 hj
    go_enter Try.func77, Try.ntmps77
    go_wp2_with fail
    go_ret
    exact ⟨rfl, B1.out⟩
end M
end Go.Proofs.Ytjbllcakaljpgaa
