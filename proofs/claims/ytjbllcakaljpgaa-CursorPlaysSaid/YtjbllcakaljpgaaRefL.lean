/- The reference's cursor: Peek, Line, NextLine, PrevLine. -/
import Derived.Test.YtjbllcakaljpgaaCur0
import Derived.Test.YtjbllcakaljpgaaBys
import Derived.Test.YtjbllcakaljpgaaRead
import Derived.Test.YtjbllcakaljpgaaMoves
namespace Go.Proofs.Ytjbllcakaljpgaa
open Go.RowKit Go.Lib
namespace M
attribute [local go_sem] Oper.semAt_some
def RcC (W : World) (g : Nat) (v : Value) (k : Int) : Prop := W.heap[g]? = some (.cells #[v, .int .i64 k] 68 (0, 0))
section
variable {W : World} {g : Nat} {v : Value} {k : Int}
theorem RcC.cells (h : RcC W g v k) : W.cell? ⟨g, 0, none⟩ = some v ∧ W.cell? ⟨g, 1, none⟩ = some (.int .i64 k) ∧ W.frozen? ⟨g, 0, none⟩ = false ∧ W.frozen? ⟨g, 1, none⟩ = false := by
  unfold RcC at h
  simp [World.cell?, World.frozen?, h]
theorem RcC.move (h : RcC W g v k) (x : Int) : RcC (W.setCell ⟨g, 1, none⟩ (.int .i64 x)) g v x := by
  unfold RcC at h ⊢
  exact heap_set0 _ h
theorem RcC.set (h : RcC W g v k) (u : Value) (x : Int) : RcC ((W.setCell ⟨g, 0, none⟩ u).setCell ⟨g, 1, none⟩ (.int .i64 x)) g u x := by
  unfold RcC at h ⊢
  exact heap_set0 _ (heap_set0 _ h)
theorem RcC.other (h : RcC W g v k) {c i : Nat} (hc : g ≠ c) (u : Value) : RcC (W.setCell ⟨c, i, none⟩ u) g v k := set_other hc h
end
abbrev zeroC : Obj := .cells #[.slice none 0 0, .int .i64 0] 68
/-- Two boxes: the argument's, the result's. -/
theorem rc_two (W : World) (v : Value) (k : Int) : ∃ W2, (W.alloc (.cells #[v, .int .i64 k] 68)).alloc zeroC = W2 ∧ RcC W2 W.heap.size v k ∧ RcC W2 (W.heap.size + 1) (.slice none 0 0) 0 ∧ Below W.heap.size W W2 := by
  refine ⟨_, rfl, below_block ((Below.refl _ _).alloc (Nat.le_refl _) _) (heap_new' W _), ?_, ((Below.refl _ W).alloc (Nat.le_refl _) _).alloc (by simp) _⟩
  have := heap_new' (W.alloc (.cells #[v, .int .i64 k] 68)) zeroC
  rw [World.size_alloc] at this
  exact this
set_option maxRecDepth 100000 in
set_option maxHeartbeats 2000000 in
theorem rskip_any (W : World) {va : Option Addr} {tl vc k : Nat} (hk : k ≤ tl) (htl : tl ≤ 1152921504606846976) (n : Int) :
    Calls Try.prog 52 #[.agg #[.slice va tl vc, .int .i64 k], .int .i64 n] W fun e w' => e = .returned (.agg #[.slice va tl vc, .int .i64 ((k : Int) + mv tl k n)]) ∧ Below W.heap.size W w' := by
  have hin := mv_in hk n
  obtain ⟨W2, hW2, k1, k2, b2⟩ := rc_two W (.slice va tl vc) k
  obtain ⟨x, hx⟩ : ∃ x : Int, (k : Int) + mv tl k n = x := ⟨_, rfl⟩
  rw [hx] at hin ⊢
  obtain ⟨c0, c1, f0, f1⟩ := k1.cells
  obtain ⟨W3, hW3⟩ : ∃ w, W2.setCell ⟨W.heap.size, 1, none⟩ (.int .i64 x) = w := ⟨_, rfl⟩
  have k3 : RcC W3 W.heap.size (.slice va tl vc) x := by rw [← hW3]; exact k1.move x
  have k4 : RcC W3 (W.heap.size + 1) (.slice none 0 0) 0 := by rw [← hW3]; exact k2.other (by omega) _
  obtain ⟨d0, d1, -, -⟩ := k3.cells
  obtain ⟨e0, e1, g0, g1⟩ := k4.cells
  obtain ⟨W4, hW4⟩ : ∃ w, (W3.setCell ⟨W.heap.size + 1, 0, none⟩ (.slice va tl vc)).setCell ⟨W.heap.size + 1, 1, none⟩ (.int .i64 x) = w := ⟨_, rfl⟩
  have k5 : RcC W4 (W.heap.size + 1) (.slice va tl vc) x := by rw [← hW4]; exact k4.set _ x
  have b4 : Below W.heap.size W W4 := by
    rw [← hW4, ← hW3]
    exact ((b2.setCell (p := ⟨W.heap.size, 1, none⟩) (Nat.le_refl _) _).setCell (p := ⟨W.heap.size + 1, 0, none⟩) (by simp) _).setCell (p := ⟨W.heap.size + 1, 1, none⟩) (by simp) _
  obtain ⟨h0, h1, -, -⟩ := k5.cells
  have HB := Lib.hid b4
  have w1 : IntKind.i64.wrap ((tl : Int) - (k : Int)) = (tl : Int) - (k : Int) := by rw [IntKind.wrap_i64]; omega
  have w2 : IntKind.i64.wrap (-(k : Int)) = -(k : Int) := by rw [IntKind.wrap_i64]; omega
  have hcs : ((tl : Int) - (k : Int) < n ∧ x = (tl : Int)) ∨ (¬ (tl : Int) - (k : Int) < n ∧ n < -(k : Int) ∧ x = 0) ∨ (¬ (tl : Int) - (k : Int) < n ∧ ¬ n < -(k : Int) ∧ (k : Int) + n = x) := by
    unfold mv at hx
    split at hx
    · right; left; omega
    · split at hx
      · left; omega
      · right; right; omega
  clear k1 k2 k3 k4 k5 b2 b4 hx
  rcases hcs with ⟨a1, rfl⟩ | ⟨a1, a2, rfl⟩ | ⟨a1, a2, a3⟩
  · have a1' : n > (tl : Int) - (k : Int) := a1
    go_enter Try.func52, Try.ntmps52
    go_wp2_with fail
    exact bodyPost_ret (v := .agg #[.slice va tl vc, .int .i64 tl]) (by simp [results, Try.results52, go_sem, h0, h1]) rfl ⟨rfl, HB.out⟩
  · have a1' : ¬ n > (tl : Int) - (k : Int) := a1
    go_enter Try.func52, Try.ntmps52
    go_wp2_with fail
    exact bodyPost_ret (v := .agg #[.slice va tl vc, .int .i64 0]) (by simp [results, Try.results52, go_sem, h0, h1]) rfl ⟨rfl, HB.out⟩
  · have a1' : ¬ n > (tl : Int) - (k : Int) := a1
    have w3 : IntKind.i64.wrap ((k : Int) + n) = x := by rw [IntKind.wrap_i64]; omega
    clear a3
    go_enter Try.func52, Try.ntmps52
    go_wp2_with fail
    exact bodyPost_ret (v := .agg #[.slice va tl vc, .int .i64 x]) (by simp [results, Try.results52, go_sem, h0, h1]) rfl ⟨rfl, HB.out⟩
end M
end Go.Proofs.Ytjbllcakaljpgaa
namespace Go.Proofs.Ytjbllcakaljpgaa
namespace M
theorem tl_snoc (s : List Nat) (x : Nat) : tlT (s ++ [x]) = if x = 10 then 0 else tlT s + 1 := by
  unfold tlT
  rw [List.reverse_append, List.reverse_singleton, List.singleton_append, List.findIdx_cons]
  by_cases h : x = 10
  · subst h; simp
  · rw [if_neg h]
    have : (x == 10) = false := by simpa using h
    rw [this]; rfl
theorem take_one {t : List Nat} {i : Nat} (h : i < t.length) : t.take (i + 1) = t.take i ++ [t[i]] := by
  rw [List.take_add_one, List.getElem?_eq_getElem h]; rfl
theorem tl_step {t : List Nat} {i : Nat} (h : i < t.length) : tlT (t.take (i + 1)) = if t[i] = 10 then 0 else tlT (t.take i) + 1 := by
  rw [take_one h, tl_snoc]
theorem count_step {t : List Nat} {i : Nat} (h : i < t.length) : (t.take (i + 1)).count 10 = (t.take i).count 10 + if t[i] = 10 then 1 else 0 := by
  rw [take_one h, List.count_append]
  by_cases g : t[i] = 10
  · rw [if_pos g, g]; simp
  · rw [if_neg g]; simp [g]
theorem tl_zero_last {t : List Nat} {i : Nat} (h0 : 0 < i) (hi : i ≤ t.length) (h : tlT (t.take i) = 0) : t[i - 1]'(by omega) = 10 := by
  obtain ⟨j, rfl⟩ : ∃ j, i = j + 1 := ⟨i - 1, by omega⟩
  rw [tl_step (by omega)] at h
  by_cases g : t[j] = 10
  · simpa using g
  · rw [if_neg g] at h; cases h
theorem tl_sub {t : List Nat} {i : Nat} (h : tlT (t.take i) = 0) : ∀ d, i + d ≤ t.length → tlT (t.take (i + d)) ≤ d
  | 0, _ => by rw [Nat.add_zero, h]; exact Nat.le_refl _
  | d + 1, hd => by
    have := tl_sub h d (by omega)
    rw [← Nat.add_assoc, tl_step (by omega)]
    split <;> omega
/-- PrevLine leads to the last beginning of a line before. -/
theorem pv_last {t : List Nat} {i a : Nat} (hi : i < a) (ha : a ≤ t.length) (h0 : tlT (t.take i) = 0) (h1 : ∀ j, i < j → j < a → tlT (t.take j) ≠ 0) : pvF t a = some i := by
  rcases pv_cases ha with ⟨g, -⟩ | ⟨g1, g2, g3, g4, g5⟩ | ⟨g1, g2, g3, p, g4, g5, g6, g7⟩
  · omega
  · have h2 := tl_sub h0 (a - i) (by omega)
    rw [show i + (a - i) = a by omega] at h2
    rw [g3]
    congr 1
    rcases Nat.lt_trichotomy (a - tlT (t.take a)) i with g | g | g
    · omega
    · exact g
    · exact absurd g5 (h1 _ g (by omega))
  · rw [g4]
    congr 1
    rcases Nat.lt_trichotomy p i with g | g | g
    · exfalso
      have e1 := tl_zero_last (show 0 < i by omega) (by omega) h0
      have e2 := tl_zero_last g1 ha g2
      obtain ⟨j, rfl⟩ : ∃ j, i = j + 1 := ⟨i - 1, by omega⟩
      obtain ⟨b, rfl⟩ : ∃ b, a = b + 1 := ⟨a - 1, by omega⟩
      have c1 := count_step (t := t) (i := j) (by omega)
      have c2 := count_step (t := t) (i := b) (by omega)
      simp only [Nat.add_sub_cancel] at e1 e2
      rw [if_pos e1] at c1
      rw [if_pos e2] at c2
      have c3 := count_take_le t (show p ≤ j by omega)
      have c4 := count_take_le t (show j + 1 ≤ b by omega)
      omega
    · exact g
    · exact absurd g7 (h1 _ g g5)
theorem pv_zero (t : List Nat) : pvF t 0 = none := by simp [pvF, tlT]
/-- NextLine leads behind the first line feed. -/
theorem nx_first {t : List Nat} {k i : Nat} (hi : i < t.length) (hc : (t.take i).count 10 = (t.take k).count 10) (h : t[i] = 10) : nxF t k = some (i + 1) := by
  have h1 := count_step hi
  rw [if_pos h] at h1
  have h2 := count_take_le t (show i + 1 ≤ t.length by omega)
  rw [List.take_length] at h2
  unfold nxF
  rw [if_neg (by omega), ← hc]
  have hd : 0 < (t.drop i).count 10 := by
    have := count_cut t i
    omega
  rw [nlp_next t (by omega) hd]
  congr 1
  have : hdT (t.drop i) = 0 := by
    unfold hdT
    rw [List.drop_eq_getElem_cons hi, List.findIdx_cons, h]; rfl
  omega
theorem nx_none' {t : List Nat} {k : Nat} (hc : t.count 10 = (t.take k).count 10) : nxF t k = none := by
  unfold nxF
  rw [if_pos hc.symm]
end M
end Go.Proofs.Ytjbllcakaljpgaa
namespace Go.Proofs.Ytjbllcakaljpgaa
open Go.RowKit Go.Lib
namespace M
attribute [local go_sem] Oper.semAt_some
set_option maxRecDepth 100000 in
set_option maxHeartbeats 2000000 in
theorem rpeek_any {b0 : Nat} {W : World} {va : Option Addr} {vc k : Nat} {t : List Nat} {tl : Nat} (hB : Bys b0 W (.slice va tl vc) t) (hl : t.length = tl) (hk : k ≤ tl) :
    Calls Try.prog 53 #[.agg #[.slice va tl vc, .int .i64 k]] W fun e w' => e = .returned (.tuple #[.int .u8 ((t[k]?).getD 0), .bool (decide (k < tl))]) ∧ Below W.heap.size W w' := by
  obtain ⟨W1, hW1⟩ : ∃ w, W.alloc (.cells #[.slice va tl vc, .int .i64 k] 68) = w := ⟨_, rfl⟩
  have k1 : RcC W1 W.heap.size (.slice va tl vc) k := by rw [← hW1]; exact heap_new' W _
  have b1 : Below W.heap.size W W1 := by rw [← hW1]; exact (Below.refl _ W).alloc (Nat.le_refl _) _
  obtain ⟨c0, c1, -, -⟩ := k1.cells
  have HB := Lib.hid b1
  rcases Nat.lt_or_ge k tl with h | h
  · have hk2 : k < t.length := by omega
    obtain ⟨g, cap, hv, -, -, hc⟩ := Bys.at (hB.below b1) hk2
    simp only [Value.slice.injEq] at hv
    obtain ⟨rfl, -, rfl⟩ := hv
    have q0 := hc W1 (Below.refl _ _) k hk2
    have hkb : ((k : Int) == (tl : Int)) = false := by simp; omega
    have hk3 : (k : Int) < (tl : Int) := by omega
    have hk4 : (0 : Int) ≤ (k : Int) := by omega
    rw [List.getElem?_eq_getElem hk2, decide_eq_true h, Option.getD_some]
    generalize t[k] = x at *
    clear hc k1 b1 hB h hl hk2 hk
    go_enter Try.func53, Try.ntmps53
    go_wp2_with fail
    go_ret2
    exact ⟨rfl, HB.out⟩
  · have hkb : ((k : Int) == (tl : Int)) = true := by simp; omega
    rw [List.getElem?_eq_none (by omega), decide_eq_false (by omega)]
    clear k1 b1 hB h hl hk
    go_enter Try.func53, Try.ntmps53
    go_wp2_with fail
    go_ret2
    exact ⟨rfl, HB.out⟩
set_option maxRecDepth 100000 in
set_option maxHeartbeats 4000000 in
theorem rline_any {b0 : Nat} {W : World} {va : Option Addr} {vc k : Nat} {t : List Nat} {tl : Nat} (hB : Bys b0 W (.slice va tl vc) t) (hl : t.length = tl) (hk : k ≤ tl) (htl : tl ≤ 1000000) :
    Calls Try.prog 55 #[.agg #[.slice va tl vc, .int .i64 k]] W fun e w' => e = .returned (.tuple #[.int .i64 ((t.take k).count 10 : Nat), .int .i64 (tlT (t.take k) : Nat)]) ∧ Below W.heap.size W w' := by
  obtain ⟨W1, hW1⟩ : ∃ w, W.alloc (.cells #[.slice va tl vc, .int .i64 k] 68) = w := ⟨_, rfl⟩
  have k1 : RcC W1 W.heap.size (.slice va tl vc) k := by rw [← hW1]; exact heap_new' W _
  have b1 : Below W.heap.size W W1 := by rw [← hW1]; exact (Below.refl _ W).alloc (Nat.le_refl _) _
  have HB1 := Lib.hid b1; have K1 := Lib.hid k1; have HV := Lib.hid (hB.below b1)
  have HLN := Lib.hid hl
  clear k1 b1 hB hl
  go_enter Try.func55, Try.ntmps55
  go_wp2_with fail
  clear hW1
  go_loopw [4, 5, 6] (fun lv cv iv wr => ∃ i : Nat, iv = .int .i64 i ∧ lv = .int .i64 ((t.take i).count 10 : Nat) ∧ cv = .int .i64 (tlT (t.take i) : Nat) ∧ i ≤ k ∧ Below W1.heap.size W1 wr) (fun _ _ iv _ => k - (intOf iv).toNat)
  case atStart => exact ⟨0, rfl, rfl, rfl, Nat.zero_le _, Below.refl _ _⟩
  case round =>
    obtain ⟨i, rfl, rfl, rfl, hi, hB⟩ := hrel
    have HB := Lib.hid hB
    obtain ⟨c0, c1, -, -⟩ := RcC.cells (show RcC wr W.heap.size (.slice va tl vc) k from below_block hB K1.out)
    have hcb : (t.take i).count 10 ≤ i := Nat.le_trans List.count_le_length (List.length_take_le _ _)
    have htb : tlT (t.take i) ≤ i := tl_le t i
    clear hB
    by_cases hlt : i < k
    · have hlt2 : (i : Int) < (k : Int) := by omega
      have hit : i < t.length := by have := HLN.out; omega
      have hit2 : (i : Int) < (tl : Int) := by omega
      have hi0 : (0 : Int) ≤ (i : Int) := by omega
      obtain ⟨g, cap, hv, -, -, hc⟩ := Bys.at (HV.out.below HB.out) hit
      simp only [Value.slice.injEq] at hv
      obtain ⟨rfl, -, rfl⟩ := hv
      have q0 := hc wr (Below.refl _ _) i hit
      have HT := Lib.hid (tl_step hit); have HC := Lib.hid (count_step hit)
      obtain ⟨n1, hn1⟩ : ∃ n, (t.take i).count 10 = n := ⟨_, rfl⟩
      obtain ⟨n2, hn2⟩ : ∃ n, tlT (t.take i) = n := ⟨_, rfl⟩
      rw [hn1] at HC hcb ⊢
      rw [hn2] at HT htb ⊢
      have w1 : IntKind.i64.wrap ((n1 : Int) + 1) = ((n1 + 1 : Nat) : Int) := by rw [IntKind.wrap_i64]; omega
      have w2 : IntKind.i64.wrap ((n2 : Int) + 1) = ((n2 + 1 : Nat) : Int) := by rw [IntKind.wrap_i64]; omega
      generalize t[i] = x at *
      clear hc hn1 hn2 hcb htb
      by_cases hx : x = 10
      · have HT2 : Hid (tlT (t.take (i + 1)) = 0) := Lib.hid (by rw [HT.out, if_pos hx])
        have HC2 : Hid ((t.take (i + 1)).count 10 = n1 + 1) := Lib.hid (by rw [HC.out, if_pos hx])
        subst hx
        go_wp2_with fail
        clear c0 c1 q0 w1 w2
        go_roundw
        case rel => exact ⟨i + 1, by go_num, by rw [HC2.out]; try rfl, by rw [HT2.out]; try rfl, by omega, HB.out⟩
        case measure => first | (simp [intOf]; omega) | simp [intOf]
      · have HT2 : Hid (tlT (t.take (i + 1)) = n2 + 1) := Lib.hid (by rw [HT.out, if_neg hx])
        have HC2 : Hid ((t.take (i + 1)).count 10 = n1) := Lib.hid (by rw [HC.out, if_neg hx]; rfl)
        have hxb : ((x : Int) == 10) = false := by simp; omega
        clear hx
        go_wp2_with fail
        clear c0 c1 q0 w1 w2 hxb
        go_roundw
        case rel => exact ⟨i + 1, by go_num, by rw [HC2.out]; try rfl, by rw [HT2.out]; try rfl, by omega, HB.out⟩
        case measure => first | (simp [intOf]; omega) | simp [intOf]
    · have hlt2 : ¬ (i : Int) < (k : Int) := by omega
      obtain rfl : i = k := by omega
      clear hlt
      go_wp2_with fail
      go_ret2
      exact ⟨rfl, Below.after HB1.out HB.out⟩
/-- A move of the reference's cursor. -/
def RmP (va : Option Addr) (tl vc k : Nat) (W : World) (o : Option Nat) (e : Ending) (w' : World) : Prop := e = .returned (.tuple #[.agg #[.slice va tl vc, .int .i64 ((o.getD k : Nat) : Int)], .bool o.isSome]) ∧ Below W.heap.size W w'
set_option maxRecDepth 100000 in
set_option maxHeartbeats 4000000 in
theorem rnextl_any {b0 : Nat} {W : World} {va : Option Addr} {vc k : Nat} {t : List Nat} {tl : Nat} (hB : Bys b0 W (.slice va tl vc) t) (hl : t.length = tl) (hk : k ≤ tl) (htl : tl ≤ 1000000) :
    Calls Try.prog 56 #[.agg #[.slice va tl vc, .int .i64 k]] W (RmP va tl vc k W (nxF t k)) := by
  obtain ⟨W2, hW2, k1, k2, b2⟩ := rc_two W (.slice va tl vc) k
  have K1 := Lib.hid k1; have K2 := Lib.hid k2; have B2 := Lib.hid b2
  have HV := Lib.hid (hB.below b2)
  have HLN := Lib.hid hl
  obtain ⟨c0, c1, -, -⟩ := k1.cells
  have HEND : Hid (∀ (w : World) (y : Int), Below W2.heap.size W2 w → ∃ w2, (w.setCell ⟨W.heap.size + 1, 0, none⟩ (.slice va tl vc)).setCell ⟨W.heap.size + 1, 1, none⟩ (.int .i64 y) = w2 ∧ RcC w2 (W.heap.size + 1) (.slice va tl vc) y ∧ Below W.heap.size W w2) := Lib.hid (fun w y hb => ⟨_, rfl, RcC.set (below_block hb K2.out) _ y, ((Below.after B2.out hb).setCell (p := ⟨W.heap.size + 1, 0, none⟩) (by simp) _).setCell (p := ⟨W.heap.size + 1, 1, none⟩) (by simp) _⟩)
  obtain ⟨res, hres⟩ : ∃ r, nxF t k = r := ⟨_, rfl⟩
  have HRS := Lib.hid hres
  rw [hres]
  have HOK : Hid (∀ w o, res = o → Below W.heap.size W w → RmP va tl vc k W res (.returned (.tuple #[.agg #[.slice va tl vc, .int .i64 ((o.getD k : Nat) : Int)], .bool o.isSome])) w) := Lib.hid (fun w o ho hw => ⟨by rw [ho], hw⟩)
  clear k1 k2 b2 hB hl hres
  go_enter Try.func56, Try.ntmps56
  go_wp2_with fail
  clear c0 c1 hW2
  go_loopw [4] (fun iv wr => ∃ i : Nat, iv = .int .i64 i ∧ k ≤ i ∧ i ≤ tl ∧ (t.take i).count 10 = (t.take k).count 10 ∧ Below W2.heap.size W2 wr) (fun iv _ => tl - (intOf iv).toNat)
  case atStart => exact ⟨k, rfl, Nat.le_refl _, hk, rfl, Below.refl _ _⟩
  case round =>
    obtain ⟨i, rfl, hki, hi, hcn, hB⟩ := hrel
    have HB := Lib.hid hB; have HCN := Lib.hid hcn
    obtain ⟨c0, c1, -, -⟩ := RcC.cells (show RcC wr W.heap.size (.slice va tl vc) k from below_block hB K1.out)
    obtain ⟨d0, d1, f0, f1⟩ := RcC.cells (show RcC wr (W.heap.size + 1) (.slice none 0 0) 0 from below_block hB K2.out)
    clear hB hcn
    by_cases hlt : i < tl
    · have hlt2 : (i : Int) < (tl : Int) := by omega
      have hit : i < t.length := by have := HLN.out; omega
      have hi0 : (0 : Int) ≤ (i : Int) := by omega
      obtain ⟨g, cap, hv, -, -, hc⟩ := Bys.at (HV.out.below HB.out) hit
      simp only [Value.slice.injEq] at hv
      obtain ⟨rfl, -, rfl⟩ := hv
      have q0 := hc wr (Below.refl _ _) i hit
      have HC := Lib.hid (count_step hit)
      have HNX := Lib.hid (nx_first (k := k) hit HCN.out)
      have w1 : IntKind.i64.wrap ((i : Int) + 1) = ((i + 1 : Nat) : Int) := by rw [IntKind.wrap_i64]; omega
      generalize t[i] = x at *
      clear hc
      by_cases hx : x = 10
      · obtain ⟨w2, hw2, k2, hb2⟩ := HEND.out wr ((i : Int) + 1) HB.out
        obtain ⟨h0, h1, -, -⟩ := k2.cells
        have hr : res = some (i + 1) := by rw [← HRS.out]; exact HNX.out hx
        have HB3 := Lib.hid (HOK.out w2 (some (i + 1)) hr hb2)
        rw [show (((some (i + 1)).getD k : Nat) : Int) = (i : Int) + 1 by simp] at HB3
        subst hx
        clear k2 hb2 HEND hr HNX HC HOK
        go_wp2_with fail
        exact bodyPost_ret (v := .tuple #[.agg #[.slice (some ⟨g, 0, none⟩) tl vc, .int .i64 ((i : Int) + 1)], .bool true]) (by simp [results, Try.results56, go_sem, h0, h1]) rfl HB3.out
      · have HC2 : Hid ((t.take (i + 1)).count 10 = (t.take k).count 10) := Lib.hid (by rw [HC.out, if_neg hx, HCN.out]; rfl)
        have hxb : ((x : Int) == 10) = false := by simp; omega
        clear hx
        go_wp2_with fail
        clear c0 c1 d0 d1 f0 f1 q0 w1 hxb
        go_roundw
        case rel => exact ⟨i + 1, by go_num, by omega, by omega, HC2.out, HB.out⟩
        case measure => first | (simp [intOf]; omega) | simp [intOf]
    · have hlt2 : ¬ (i : Int) < (tl : Int) := by omega
      obtain ⟨w2, hw2, k2, hb2⟩ := HEND.out wr k HB.out
      obtain ⟨h0, h1, -, -⟩ := k2.cells
      have hr : res = none := by
        rw [← HRS.out]
        refine nx_none' ?_
        have h := HCN.out
        rw [List.take_of_length_le (show t.length ≤ i by have := HLN.out; omega)] at h
        exact h
      have HB3 := Lib.hid (HOK.out w2 none hr hb2)
      clear k2 hb2 HEND hlt hr HOK
      go_wp2_with fail
      exact bodyPost_ret (v := .tuple #[.agg #[.slice va tl vc, .int .i64 k], .bool false]) (by simp [results, Try.results56, go_sem, h0, h1]) rfl HB3.out
set_option maxRecDepth 100000 in
set_option maxHeartbeats 4000000 in
theorem rprevl_any {b0 : Nat} {W : World} {va : Option Addr} {vc k : Nat} {t : List Nat} {tl : Nat} (hB : Bys b0 W (.slice va tl vc) t) (hl : t.length = tl) (hk : k ≤ tl) (htl : tl ≤ 1000000) :
    Calls Try.prog 57 #[.agg #[.slice va tl vc, .int .i64 k]] W (RmP va tl vc k W (pvF t k)) := by
  obtain ⟨W2, hW2, k1, k2, b2⟩ := rc_two W (.slice va tl vc) k
  have K1 := Lib.hid k1; have K2 := Lib.hid k2; have B2 := Lib.hid b2
  have HV := Lib.hid (hB.below b2)
  have HLN := Lib.hid hl
  obtain ⟨c0, c1, -, -⟩ := k1.cells
  have HEND : Hid (∀ (w : World) (y : Int), Below W2.heap.size W2 w → ∃ w2, (w.setCell ⟨W.heap.size + 1, 0, none⟩ (.slice va tl vc)).setCell ⟨W.heap.size + 1, 1, none⟩ (.int .i64 y) = w2 ∧ RcC w2 (W.heap.size + 1) (.slice va tl vc) y ∧ Below W.heap.size W w2) := Lib.hid (fun w y hb => ⟨_, rfl, RcC.set (below_block hb K2.out) _ y, ((Below.after B2.out hb).setCell (p := ⟨W.heap.size + 1, 0, none⟩) (by simp) _).setCell (p := ⟨W.heap.size + 1, 1, none⟩) (by simp) _⟩)
  obtain ⟨res, hres⟩ : ∃ r, pvF t k = r := ⟨_, rfl⟩
  have HRS := Lib.hid hres
  rw [hres]
  have HOK : Hid (∀ w o, res = o → Below W.heap.size W w → RmP va tl vc k W res (.returned (.tuple #[.agg #[.slice va tl vc, .int .i64 ((o.getD k : Nat) : Int)], .bool o.isSome])) w) := Lib.hid (fun w o ho hw => ⟨by rw [ho], hw⟩)
  have hkw : IntKind.i64.wrap ((k : Int) - 1) = (k : Int) - 1 := by rw [IntKind.wrap_i64]; omega
  have HLI : Hid (∀ (w : World) (i : Nat), Below W2.heap.size W2 w → i ≤ tl → Calls Try.prog 55 #[.agg #[.slice va tl vc, .int .i64 i]] w fun e w' => e = .returned (.tuple #[.int .i64 ((t.take i).count 10 : Nat), .int .i64 (tlT (t.take i) : Nat)]) ∧ Below w.heap.size w w') := Lib.hid (fun w i hw hi => rline_any (HV.out.below hw) HLN.out hi htl)
  clear k1 k2 b2 hB hl hres
  go_enter Try.func57, Try.ntmps57
  go_wp2_with fail
  clear c0 c1 hW2 hkw
  go_loopw [4] (fun iv wr => ∃ i : Nat, iv = .int .i64 ((i : Int) - 1) ∧ i ≤ k ∧ (∀ j, i ≤ j → j < k → tlT (t.take j) ≠ 0) ∧ Below W2.heap.size W2 wr) (fun iv _ => (intOf iv + 1).toNat)
  case atStart => exact ⟨k, rfl, Nat.le_refl _, fun j h1 h2 => by omega, Below.refl _ _⟩
  case round =>
    obtain ⟨i, rfl, hi, hj, hB⟩ := hrel
    have HB := Lib.hid hB; have HJ := Lib.hid hj
    obtain ⟨c0, c1, -, -⟩ := RcC.cells (show RcC wr W.heap.size (.slice va tl vc) k from below_block hB K1.out)
    obtain ⟨d0, d1, f0, f1⟩ := RcC.cells (show RcC wr (W.heap.size + 1) (.slice none 0 0) 0 from below_block hB K2.out)
    clear hB hj
    cases i with
    | succ i =>
      have e : ((i + 1 : Nat) : Int) - 1 = (i : Int) := by omega
      rw [e]
      have hge : (i : Int) ≥ 0 := by omega
      have HL := Lib.hid (HLI.out wr i HB.out (by omega))
      obtain ⟨n1, hn1⟩ : ∃ n, (t.take i).count 10 = n := ⟨_, rfl⟩
      obtain ⟨n2, hn2⟩ : ∃ n, tlT (t.take i) = n := ⟨_, rfl⟩
      rw [hn1, hn2] at HL
      have HN2 := Lib.hid hn2
      have hw1 : IntKind.i64.wrap ((i : Int) - 1) = (i : Int) - 1 := by rw [IntKind.wrap_i64]; omega
      clear hn1 hn2 e
      by_cases hz : n2 = 0
      · have hr : res = some i := by
          rw [← HRS.out]
          exact pv_last (by omega) (by have := HLN.out; omega) (by rw [HN2.out, hz]) (fun j h1 h2 => HJ.out j (by omega) h2)
        have hzb : ((n2 : Int) == 0) = true := by simp; omega
        subst hz
        go_wp2_with fail
        refine HL.out.mono ?_; rintro e w1 ⟨rfl, b1⟩
        have HB1 := Lib.hid (Below.after HB.out b1)
        obtain ⟨c0', c1', -, -⟩ := RcC.cells (show RcC w1 W.heap.size (.slice va tl vc) k from below_block HB1.out K1.out)
        obtain ⟨d0', d1', f0', f1'⟩ := RcC.cells (show RcC w1 (W.heap.size + 1) (.slice none 0 0) 0 from below_block HB1.out K2.out)
        obtain ⟨w2, hw2, k2, hb2⟩ := HEND.out w1 i HB1.out
        obtain ⟨h0, h1, -, -⟩ := k2.cells
        have HB3 := Lib.hid (HOK.out w2 (some i) hr hb2)
        clear k2 hb2 HEND hr HOK HL b1 c0 c1 d0 d1 f0 f1
        go_wp2_with fail
        exact bodyPost_ret (v := .tuple #[.agg #[.slice va tl vc, .int .i64 i], .bool true]) (by simp [results, Try.results57, go_sem, h0, h1]) rfl HB3.out
      · have hzb : ((n2 : Int) == 0) = false := by simp; omega
        have HJ2 : Hid (∀ j, i ≤ j → j < k → tlT (t.take j) ≠ 0) := Lib.hid (fun j h1 h2 => by
          rcases Nat.lt_or_ge i j with g | g
          · exact HJ.out j (by omega) h2
          · obtain rfl : j = i := by omega
            rw [HN2.out]; exact hz)
        clear hz
        go_wp2_with fail
        refine HL.out.mono ?_; rintro e w1 ⟨rfl, b1⟩
        have HB1 := Lib.hid (Below.after HB.out b1)
        clear b1 c0 c1 d0 d1 f0 f1
        go_wp2_with fail
        clear hw1 hzb
        go_roundw
        case rel => exact ⟨i, by first | rfl | go_num, by omega, HJ2.out, HB1.out⟩
        case measure => first | (simp [intOf]; omega) | simp [intOf]
    | zero =>
      have e : ((0 : Nat) : Int) - 1 = -1 := by omega
      rw [e]
      have hge : ¬ (-1 : Int) ≥ 0 := by omega
      obtain ⟨w2, hw2, k2, hb2⟩ := HEND.out wr k HB.out
      obtain ⟨h0, h1, -, -⟩ := k2.cells
      have hr : res = none := by
        rw [← HRS.out]
        have hk0 : k = 0 := by
          rcases Nat.eq_zero_or_pos k with g | g
          · exact g
          · exact absurd (by simp [tlT]) (HJ.out 0 (Nat.le_refl _) g)
        rw [hk0]; exact pv_zero t
      have HB3 := Lib.hid (HOK.out w2 none hr hb2)
      clear k2 hb2 HEND hr HOK e
      go_wp2_with fail
      exact bodyPost_ret (v := .tuple #[.agg #[.slice va tl vc, .int .i64 k], .bool false]) (by simp [results, Try.results57, go_sem, h0, h1]) rfl HB3.out
end M
end Go.Proofs.Ytjbllcakaljpgaa
