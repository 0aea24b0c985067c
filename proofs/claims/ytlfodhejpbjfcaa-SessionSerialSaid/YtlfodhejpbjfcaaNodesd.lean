/- The contracts of tall, count, build and level, at each instance of the node type. -/
import Derived.Test.YtlfodhejpbjfcaaProg
import Derived.Test.YtlfodhejpbjfcaaPm
import Derived.WalkKit
import Derived.WalkSpells
import Derived.WalkLawsBesides
import Derived.Outline
import Derived.Lib.Hide
import Derived.Lib.MinMax
import Derived.Deep.RegionHeld3
set_option linter.unusedVariables false
set_option linter.unusedSimpArgs false
namespace Go.Proofs.Ytlfodhejpbjfcaa
open Go.RowKit

namespace sd
abbrev Is (W : World) (p : Option Addr) (T : Tr ByteArray Int) : Prop := IsT (fun k : ByteArray => Value.string k) (fun v : Int => Value.int .i64 v) 189 W p T

set_option maxHeartbeats 400000 in
theorem tall_any {W : World} {p : Option Addr} {T : Tr ByteArray Int} (h : Is W p T) : Calls Try.prog 101 #[.pointer p] W fun e w' => e = .returned (.int .i64 T.ht) ∧ W = w' := by
  cases T with
  | nil =>
    obtain rfl : p = none := h
    go_enter Try.func101, Try.ntmps101
    go_wp2
    go_ret
    exact ⟨rfl, rfl⟩
  | node l k v r =>
    obtain ⟨b, pl, pr, rfl, hb, -, -⟩ := h
    obtain ⟨-, -, -, -, h4, -⟩ := node_cells hb
    clear hb
    show Calls _ _ _ W fun e w' => e = .returned (.int .i64 (1 + max l.ht r.ht)) ∧ W = w'
    generalize 1 + max l.ht r.ht = m at *
    go_enter Try.func101, Try.ntmps101
    go_wp2
    go_ret
    exact ⟨rfl, rfl⟩

set_option maxHeartbeats 400000 in
theorem count_any {W : World} {p : Option Addr} {T : Tr ByteArray Int} (h : Is W p T) : Calls Try.prog 102 #[.pointer p] W fun e w' => e = .returned (.int .i64 T.sz) ∧ W = w' := by
  cases T with
  | nil =>
    obtain rfl : p = none := h
    go_enter Try.func102, Try.ntmps102
    go_wp2
    go_ret
    exact ⟨rfl, rfl⟩
  | node l k v r =>
    obtain ⟨b, pl, pr, rfl, hb, -, -⟩ := h
    obtain ⟨-, -, -, -, -, h5⟩ := node_cells hb
    clear hb
    show Calls _ _ _ W fun e w' => e = .returned (.int .i64 (1 + l.sz + r.sz)) ∧ W = w'
    generalize 1 + l.sz + r.sz = m at *
    go_enter Try.func102, Try.ntmps102
    go_wp2
    go_ret
    exact ⟨rfl, rfl⟩

set_option maxHeartbeats 400000 in
theorem build_any {W : World} {pl pr : Option Addr} {L R : Tr ByteArray Int} (k : ByteArray) (v : Int) (hL : Is W pl L) (hR : Is W pr R) (hs : L.sz + R.sz ≤ 1000000) :
    Calls Try.prog 94 #[.pointer pl, Value.string k, Value.int .i64 v, .pointer pr] W fun e w' => ∃ p', e = .returned (.pointer p') ∧ Is w' p' (.node L k v R) ∧ Below W.heap.size W w' := by
  have H1 := Lib.hid (tall_any hL); have H2 := Lib.hid (tall_any hR); have H3 := Lib.hid (count_any hL); have H4 := Lib.hid (count_any hR)
  have HL := Lib.hid hL; have HR := Lib.hid hR
  have b1 := L.ht_nonneg; have b2 := R.ht_nonneg; have b3 := L.ht_le_sz; have b4 := R.ht_le_sz
  have fin : ∀ w', w' = W.alloc (.cells #[Value.string k, Value.int .i64 v, .pointer pl, .pointer pr, .int .i64 (1 + max L.ht R.ht), .int .i64 (1 + L.sz + R.sz)] 189) →
      Is w' (some ⟨W.heap.size, 0, none⟩) (.node L k v R) ∧ Below W.heap.size W w' := by
    rintro w' rfl
    have hb : Below W.heap.size W (W.alloc (.cells #[Value.string k, Value.int .i64 v, .pointer pl, .pointer pr, .int .i64 (1 + max L.ht R.ht), .int .i64 (1 + L.sz + R.sz)] 189)) := (Below.refl _ W).alloc (Nat.le_refl _) _
    exact ⟨⟨_, pl, pr, rfl, heap_new W _, IsT.below hb HL.out, IsT.below hb HR.out⟩, hb⟩
  have F := Lib.hid fin
  clear hL hR HL HR fin
  generalize L.ht = lh at *; generalize R.ht = rh at *; generalize L.sz = lc at *; generalize R.sz = rc at *
  go_enter Try.func94, Try.ntmps94
  go_wp2_with fail
  refine H1.out.mono ?_; rintro e w' ⟨rfl, rfl⟩
  go_wp2_with fail
  refine H2.out.mono ?_; rintro e w' ⟨rfl, rfl⟩
  go_wp2_with fail
  refine H3.out.mono ?_; rintro e w' ⟨rfl, rfl⟩
  go_wp2_with fail
  refine H4.out.mono ?_; rintro e w' ⟨rfl, rfl⟩
  go_wp2_with fail
  go_ret
  exact ⟨_, rfl, F.out _ rfl⟩
end sd
end Go.Proofs.Ytlfodhejpbjfcaa
