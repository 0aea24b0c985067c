/- The law over plays: the walk. -/
import Derived.Test.YtdgclambplipnaaPlaysui
import Derived.Test.YtdgclambplipnaaAwake
namespace Go.Proofs.Ytdgclambplipnaa
open Go.RowKit Go.Shelf
namespace ui
set_option maxRecDepth 100000 in
set_option maxHeartbeats 4000000 in
theorem row_any {W : World} {v : Value} {L : List (Bool × Int × Int)} (hA : ActsAt W v L) (hok : ∀ a ∈ L, ok a.2.1) (k : Int) (hk : ok k) :
    Calls Try.prog 8 #[v, Value.int .u64 k] W fun e w' => e = .returned (.bool true) ∧ Below W.heap.size W w' := by
  obtain ⟨a, cap, hv, hcells⟩ := hA
  subst hv
  have HC := Lib.hid hcells; clear hcells
  have HOK := Lib.hid hok; have HK := Lib.hid hk; clear hok hk
  go_enter Try.func8, Try.ntmps8
  go_wp2_with fail
  refine (awake_any W).mono ?_; rintro e w1 ⟨rfl, b1⟩
  have HB1 := Lib.hid b1; clear b1
  by_cases hn : L.length ≤ 60
  · have hn1 : ¬ (60 < L.length) := by omega
    have hn2 : ¬ ((60 : Int) < (L.length : Int)) := by omega
    have hn3 : decide ((60 : Int) < (L.length : Int)) = false := decide_eq_false hn2
    have HN := Lib.hid hn; clear hn
    go_wp2_with fail
    have hA1 : ActsAt w1 (.slice a L.length cap) L := ⟨a, cap, rfl, fun i h => by
      obtain ⟨b, h0, h1, h2, h3⟩ := HC.out i h
      exact ⟨b, h0, cell_below h1 HB1.out, cell_below h2 HB1.out, cell_below h3 HB1.out⟩⟩
    refine (plays_any hA1 HOK.out k HK.out HN.out).mono ?_
    rintro e w2 ⟨rfl, b2⟩
    have HB2 := Lib.hid (Below.step HB1.out b2); clear b2
    go_wp2_with fail
    go_ret
    exact ⟨rfl, HB2.out⟩
  · have hn1 : 60 < L.length := by omega
    have hn2 : (60 : Int) < (L.length : Int) := by omega
    clear hn
    go_wp2_with fail
    go_ret
    exact ⟨rfl, HB1.out⟩
end ui
end Go.Proofs.Ytdgclambplipnaa
