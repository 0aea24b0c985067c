/- Rows of letters. No walk. -/
import Derived.Test.YtpjcfepngjpfbaaStoreOps
import Derived.Test.YtpjcfepngjpfbaaKeep
namespace Go.Proofs.Ytpjcfepngjpfbaa
open Go.RowKit Go.Lib
namespace M
attribute [local go_sem] Oper.semAt_some
theorem StAt.set {n0 B most g i : Nat} {W : World} {E : List En} (h : StAt n0 W B most E) {cs : Array Value} {t : TypeId} {fz : Nat × Nat} (hb : W.heap[g]? = some (.cells cs t fz)) (h1 : t ≠ 116) (h2 : t ≠ 122) (v : Value) : StAt n0 (W.setCell ⟨g, i, none⟩ v) B most E := by
  obtain ⟨lv, mb, k1, k2, k3, k4⟩ := h
  refine ⟨lv, mb, set_other (fun e => ?_) k1, SlA.setCell k2 v (a := ⟨g, i, none⟩) hb h2, MapR.of_block k3 (Below.heap_setCell _ _ _ _ (fun e => ?_)), k4⟩
  · subst e; unfold StC at k1; rw [hb] at k1; simp at k1; exact h1 k1.2.1
  · have e : mb = g := e
    subst e
    obtain ⟨es, c, h5, -⟩ := k3
    rw [hb] at h5; cases h5
theorem StAt.app {n0 n1 B most : Nat} {w0 w' : World} {E : List En} {α : Type} {e : TypeId} {size : Nat} {enc : α → List Value} {v : Value} {l : List α} {cs : Array Value} (h : StAt n0 w0 B most E) (hS : SlA n1 w0 e size enc v l) (hg : (w0.alloc (.cells cs e)).grownBy w' v.ownBlock) (h1 : 116 ≠ e) (h2 : 122 ≠ e) : StAt n0 w' B most E := by
  obtain ⟨lv, mb, k1, k2, k3, k4⟩ := h
  refine ⟨lv, mb, app_other hS hg k1 h1, SlA.keep k2 (fun k cs fz h => app_other hS hg h h2), ?_, k4⟩
  obtain ⟨es, c, h5, h6⟩ := k3
  exact ⟨es, c, (app_keepsOthers hS hg).same _ _ h5 rfl, h6⟩
def encB (n : Nat) : List Value := [.int .u8 n]
theorem encB_len (n : Nat) : (encB n).length = 1 := rfl
theorem encB_one (n : Nat) : ∀ u ∈ encB n, u.oneCell' = true := by simp [encB, Value.oneCell']
abbrev Bys (B : Nat) (W : World) (v : Value) (l : List Nat) : Prop := SlA B W 5 1 encB v l
theorem elemB : Elem Try.prog 32 5 1 1 := elem_of Try.underlying32 (z := .int .u8 0) (by kernel_rfl) rfl (by decide) (by decide)
theorem Bys.at {B : Nat} {W : World} {v : Value} {l : List Nat} (h : Bys B W v l) {i : Nat} (hi : i < l.length) :
    ∃ g cap, v = .slice (some ⟨g, 0, none⟩) l.length cap ∧ l.length ≤ cap ∧ cap ≤ maxLen ∧ ∀ (W' : World), Below W.heap.size W W' → ∀ i (hi : i < l.length), W'.cell? ⟨g, i, none⟩ = some (.int .u8 l[i]) := by
  rcases h.shape with ⟨-, rfl⟩ | ⟨g, cap, rfl, h1, h2⟩
  · simp at hi
  · refine ⟨g, cap, rfl, h1, h2, fun W' hb i hi => ?_⟩
    have h' := h.below hb
    have := SlA.cell encB_len h' hi (j := 0) (by omega)
    rw [Nat.mul_one] at this
    exact this
end M
end Go.Proofs.Ytpjcfepngjpfbaa
