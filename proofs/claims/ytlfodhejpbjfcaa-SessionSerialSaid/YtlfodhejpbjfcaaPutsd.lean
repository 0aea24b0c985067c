/- The contracts of put, find and entry, at each instance. -/
import Derived.Test.YtlfodhejpbjfcaaLevelsd
import Derived.Test.YtlfodhejpbjfcaaPm
import Derived.Deep.QuietTactic
import Derived.BigQuiet
set_option linter.unusedVariables false
set_option linter.unusedSimpArgs false
namespace Go.Proofs.Ytlfodhejpbjfcaa
open Go.RowKit
namespace sd

/-- The order of the keys. -/
def lt (a b : ByteArray) : Bool := (fun a b => Op.bytesLess a.toList b.toList : ByteArray → ByteArray → Bool) a b

set_option maxRecDepth 100000 in
set_option maxHeartbeats 1600000 in
theorem put_any (k : ByteArray) (v : Int) : ∀ (T : Tr ByteArray Int) {W : World} {p : Option Addr}, Is W p T → T.sz ≤ 900000 →
    Calls Try.prog 85 #[.pointer p, Value.string k, Value.int .i64 v] W fun e w' => ∃ p', e = .returned (.pointer p') ∧ Is w' p' (putF lt k v T) ∧ Below W.heap.size W w' := by
  intro T
  induction T with
  | nil =>
    intro W p h _
    obtain rfl : p = none := h
    have H1 := Lib.hid (build_any (W := W) (pl := none) (pr := none) (L := .nil) (R := .nil) k v rfl rfl (by simp [Tr.sz]))
    go_enter Try.func85, Try.ntmps85
    go_wp2_with fail
    refine H1.out.mono ?_; rintro e w' ⟨p1, rfl, hT1, hB1⟩
    go_wp2_with fail
    go_ret
    exact ⟨_, rfl, hT1, hB1⟩
  | node l nk nv r ihl ihr =>
    intro W p h hs
    obtain ⟨b, pl, pr, rfl, hb, hl, hr⟩ := h
    obtain ⟨c0, c1, c2, c3, -, -⟩ := node_cells hb
    have d0 := cell_at c0; have d1 := cell_at c1; have d2 := cell_at c2; have d3 := cell_at c3
    have HL := Lib.hid hl; have HR := Lib.hid hr
    have n1 := l.sz_nonneg; have n2 := r.sz_nonneg
    simp only [Tr.sz] at hs
    have B0 : Below W.heap.size W W := Below.refl _ _
    clear hb hl hr
    by_cases h1 : lt k nk = true
    · have e1 : putF lt k v (.node l nk nv r) = levelF (putF lt k v l) nk nv r := by simp only [putF]; rw [if_pos h1]
      rw [e1]
      have hk : Op.bytesLess k.toList nk.toList = true := by simpa [lt] using h1
      have hz := putF_sz lt k v l
      have S1 := Lib.hid (show (putF lt k v l).sz + r.sz ≤ 999990 by omega)
      have IH := Lib.hid (fun (w : World) (q : Option Addr) (hq : Is w q l) => ihl hq (by omega))
      clear ihl ihr h1 e1 hs n1 n2 hz c1 c2 c3
      generalize putF lt k v l = T1 at *
      go_enter Try.func85, Try.ntmps85
      go_wp2_with fail
      go_region_held3 (fun w' => Below W.heap.size W w') (first | assumption | exact Below.drew (by assumption)) (first
        | (go_at_call 85; with_reducible refine (IH.out _ _ (IsT.below (by assumption) HL.out)).mono ?_; rintro e w' ⟨p1, rfl, hT1, hB1⟩; have hC1 : Below W.heap.size W w' := Below.step (by assumption) hB1)
        | (go_at_call 95; with_reducible refine (level_any nk nv hT1 (IsT.below (by assumption) HR.out) S1.out).mono ?_; rintro e w' ⟨p2, rfl, hT2, hB2⟩; have hC2 : Below W.heap.size W w' := Below.step (by assumption) hB2))
      go_wp2_with fail
      go_ret
      exact ⟨_, rfl, hT2, hC2⟩
    · have hk : Op.bytesLess k.toList nk.toList = false := by simpa [lt] using h1
      by_cases h2 : lt nk k = true
      · have e1 : putF lt k v (.node l nk nv r) = levelF l nk nv (putF lt k v r) := by simp only [putF]; rw [if_neg h1, if_pos h2]
        rw [e1]
        have hk2 : Op.bytesLess nk.toList k.toList = true := by simpa [lt] using h2
        have hz := putF_sz lt k v r
        have S1 := Lib.hid (show l.sz + (putF lt k v r).sz ≤ 999990 by omega)
        have IH := Lib.hid (fun (w : World) (q : Option Addr) (hq : Is w q r) => ihr hq (by omega))
        clear ihl ihr h1 h2 e1 hs n1 n2 hz c1 c2 c3
        generalize putF lt k v r = T1 at *
        go_enter Try.func85, Try.ntmps85
        go_wp2_with fail
        go_region_held3 (fun w' => Below W.heap.size W w') (first | assumption | exact Below.drew (by assumption)) (first
          | (go_at_call 85; with_reducible refine (IH.out _ _ (IsT.below (by assumption) HR.out)).mono ?_; rintro e w' ⟨p1, rfl, hT1, hB1⟩; have hC1 : Below W.heap.size W w' := Below.step (by assumption) hB1)
          | (go_at_call 95; with_reducible refine (level_any nk nv (IsT.below (by assumption) HL.out) hT1 S1.out).mono ?_; rintro e w' ⟨p2, rfl, hT2, hB2⟩; have hC2 : Below W.heap.size W w' := Below.step (by assumption) hB2))
        go_wp2_with fail
        go_ret
        exact ⟨_, rfl, hT2, hC2⟩
      · have e1 : putF lt k v (.node l nk nv r) = .node l k v r := by simp only [putF]; rw [if_neg h1, if_neg h2]
        rw [e1]
        have hk2 : Op.bytesLess nk.toList k.toList = false := by simpa [lt] using h2
        have S1 := Lib.hid (show l.sz + r.sz ≤ 1000000 by omega)
        clear ihl ihr h1 h2 e1 hs n1 n2 c1 c2 c3
        go_enter Try.func85, Try.ntmps85
        go_wp2_with fail
        go_region_held3 (fun w' => Below W.heap.size W w') (first | assumption | exact Below.drew (by assumption)) (
          (go_at_call 94; with_reducible refine (build_any k v (IsT.below (by assumption) HL.out) (IsT.below (by assumption) HR.out) S1.out).mono ?_; rintro e w' ⟨p2, rfl, hT2, hB2⟩; have hC2 : Below W.heap.size W w' := Below.step (by assumption) hB2))
        go_wp2_with fail
        go_ret
        exact ⟨_, rfl, hT2, hC2⟩

set_option maxHeartbeats 800000 in
theorem find_any (k : ByteArray) {W : World} {p : Option Addr} {T : Tr ByteArray Int} (h : Is W p T) :
    Calls Try.prog 84 #[.pointer p, Value.string k] W fun e w' => ∃ q, e = .returned (.pointer q) ∧ Is W q (findF lt k T) ∧ W = w' := by
  go_enter Try.func84, Try.ntmps84
  go_wp2
  go_loop [0] (fun s => ∃ q T', s = .pointer q ∧ Is W q T' ∧ findF lt k T' = findF lt k T) (fun s => szAt W s)
  case atStart => exact ⟨_, T, rfl, h, rfl⟩
  case round =>
    obtain ⟨q, T', rfl, hq, he⟩ := hrel
    have m0 := hq.szAt
    cases T' with
    | nil =>
      obtain rfl : q = none := hq
      clear m0
      have HE := Lib.hid he; clear he
      go_wp2
      go_ret
      exact ⟨_, rfl, by rw [← HE.out]; rfl, rfl⟩
    | node l nk nv r =>
      have hq' := Lib.hid hq
      obtain ⟨b, pl, pr, rfl, hb, hl, hr⟩ := hq
      obtain ⟨c0, -, c2, c3, -, -⟩ := node_cells hb
      have m1 := hl.szAt; have m2 := hr.szAt; have m3 := Tr.sz_pos (l := l) (k := nk) (v := nv) (r := r)
      have HL := Lib.hid hl; have HR := Lib.hid hr; have HE := Lib.hid he; have M0 := Lib.hid m0; have M1 := Lib.hid m1; have M2 := Lib.hid m2; have M3 := Lib.hid m3
      clear hb hl hr he m0 m1 m2 m3
      by_cases h1 : lt k nk = true
      · have hk : Op.bytesLess k.toList nk.toList = true := by simpa [lt] using h1
        have H1 := Lib.hid h1; clear h1
        go_wp2
        go_round
        case rel => exact ⟨_, l, rfl, HL.out, by rw [← HE.out]; simp only [findF]; rw [if_pos H1.out]⟩
        case measure => rw [M0.out, M1.out]; have := M3.out; omega
      · have hk : Op.bytesLess k.toList nk.toList = false := by simpa [lt] using h1
        have H1 := Lib.hid h1; clear h1
        by_cases h2 : lt nk k = true
        · have hk2 : Op.bytesLess nk.toList k.toList = true := by simpa [lt] using h2
          have H2 := Lib.hid h2; clear h2
          go_wp2
          go_round
          case rel => exact ⟨_, r, rfl, HR.out, by rw [← HE.out]; simp only [findF]; rw [if_neg H1.out, if_pos H2.out]⟩
          case measure => rw [M0.out, M2.out]; have := M3.out; omega
        · have hk2 : Op.bytesLess nk.toList k.toList = false := by simpa [lt] using h2
          have H2 := Lib.hid h2; clear h2
          go_wp2
          go_ret
          exact ⟨_, rfl, by rw [← HE.out]; simp only [findF]; rw [if_neg H1.out, if_neg H2.out]; exact hq'.out, rfl⟩

/-- What entry returns. -/
def entryV : Tr ByteArray Int → Value
  | .nil => .tuple #[Value.string ⟨#[]⟩, Value.int .i64 0, .bool false]
  | .node _ k v _ => .tuple #[Value.string k, Value.int .i64 v, .bool true]
/-- What Get returns. -/
def getV : Tr ByteArray Int → Value
  | .nil => .tuple #[Value.int .i64 0, .bool false]
  | .node _ _ v _ => .tuple #[Value.int .i64 v, .bool true]

set_option maxHeartbeats 800000 in
theorem entry_any {W : World} {p : Option Addr} {T : Tr ByteArray Int} (h : Is W p T) :
    Calls Try.prog 83 #[.pointer p] W fun e w' => e = .returned (entryV T) ∧ Below W.heap.size W w' := by
  cases T with
  | nil =>
    obtain rfl : p = none := h
    go_enter Try.func83, Try.ntmps83
    go_wp2
    go_ret3
    exact ⟨rfl, Below.refl _ _⟩
  | node l k v r =>
    obtain ⟨b, pl, pr, rfl, hb, -, -⟩ := h
    obtain ⟨c0, c1, -, -, -, -⟩ := node_cells hb
    clear hb
    go_enter Try.func83, Try.ntmps83
    go_wp2
    go_quiet (fail)
    go_wp2
    go_ret3
    exact ⟨rfl, Below.drewN' _ _ _⟩
end sd
end Go.Proofs.Ytlfodhejpbjfcaa
