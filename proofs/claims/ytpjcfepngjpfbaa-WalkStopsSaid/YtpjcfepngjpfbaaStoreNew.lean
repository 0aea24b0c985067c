/- An empty store. -/
import Derived.Test.YtpjcfepngjpfbaaStoreGet
namespace Go.Proofs.Ytpjcfepngjpfbaa
open Go.RowKit Go.Lib
namespace M
attribute [local go_sem] Oper.semAt_some
set_option maxRecDepth 100000 in
set_option maxHeartbeats 1000000 in
theorem snew_any (W : World) (n : Nat) (hn : n ≤ 1048576) : Calls Try.prog 24 #[.int .i64 n] W fun e w' => ∃ B, e = .returned (.pointer (some ⟨B, 0, none⟩)) ∧ StAt W.heap.size w' B n [] ∧ Below W.heap.size W w' := by
  have hmm := @run_makeMap Try.prog
  have hc : (if (n : Int) < 0 then (0 : Int) else if (n : Int) > 1048576 then 1048576 else (n : Int)) = (n : Int) := by
    rw [if_neg (by omega), if_neg (by omega)]
  go_enter Try.func24, Try.ntmps24
  go_wp2_with fail
  refine (clip_any W n 0 1048576).mono ?_; rintro e w ⟨rfl, h⟩; rw [h, hc]; clear h w
  clear hc
  go_wp2_with fail
  go_ret
  refine ⟨_, rfl, ⟨.slice none 0 0, W.heap.size, ?_, SlA.nil _ _ _ _ _, ?_, by simp, Nat.le_refl _⟩, ?_⟩
  · have := heap_new' (W.alloc (.map #[] 0)) (.cells #[.int .i64 n, .slice none 0 0, .map (some W.heap.size)] 116)
    rw [World.size_alloc] at this
    exact this
  · exact (MapR.made W).below ((Below.refl _ _).alloc (Nat.le_refl _) _)
  · exact ((Below.refl _ W).alloc (Nat.le_refl _) _).alloc (by simp) _
end M
end Go.Proofs.Ytpjcfepngjpfbaa
