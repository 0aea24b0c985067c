/- Calls on a cursor, each with what it returns and where it leads; the reference's Read; letters as strings. -/
import Derived.Test.YtjbllcakaljpgaaBys
import Derived.Laws.BytesString
import Derived.Laws.Cells
import Derived.Test.YtjbllcakaljpgaaRefL
import Derived.Test.YtjbllcakaljpgaaAct18
import Derived.Test.YtjbllcakaljpgaaBase
namespace Go.Proofs.Ytjbllcakaljpgaa
open Go.RowKit Go.Lib
namespace M
attribute [local go_sem] Oper.semAt_some
def bstr (l : List Nat) : ByteArray := (l.map (fun n : Nat => (n : Int))).foldl (fun r n => r.push (UInt8.ofNat n.toNat)) ByteArray.empty
theorem conv_bys {B : Nat} {W : World} {v : Value} {l : List Nat} (h : Bys B W v l) : (convert 37 9 v).run Try.prog W = .ok (.string (bstr l)) W := by
  rcases h.shape with ⟨rfl, rfl⟩ | ⟨g, cap, rfl, h1, h2⟩
  · rw [run_convert_bytes_string (e := 5) W _ _ none 0 0 Try.underlying37 Try.underlying5 Try.underlying9]
    rfl
  · rw [run_convert_bytes_string (e := 5) W _ _ _ _ _ Try.underlying37 Try.underlying5 Try.underlying9]
    refine run_bytesToString W ⟨g, 0, none⟩ l.length cap (l.map (fun n : Nat => (n : Int))) ?_
    have := run_loadCells_list (P := Try.prog) W ⟨g, 0, none⟩ (l.flatMap encB) (fun j v hv => World.ownsRow.cells h (g := g) rfl j v hv)
    rw [flatMap_len encB_len, Nat.mul_one] at this
    rw [this]
    congr 1
    have e : ∀ l : List Nat, l.flatMap encB = (l.map (fun n : Nat => (n : Int))).map (Value.int .u8) := by
      intro l
      induction l with
      | nil => rfl
      | cons a l ih => simp [encB, ih]
    rw [e]
set_option maxRecDepth 100000 in
theorem bytes_any {B1 B2 : Nat} {W : World} {v1 v2 : Value} {l : List Nat} (h1 : Bys B1 W v1 l) (h2 : Bys B2 W v2 l) :
    Calls Try.prog 20 #[v1, v2] W fun e w' => e = .returned (.bool true) ∧ w' = W := by
  have c1 := conv_bys h1; have c2 := conv_bys h2
  generalize bstr l = s at *
  clear h1 h2
  go_enter Try.func20, Try.ntmps20
  go_wp2_with fail
  go_ret
  exact ⟨rfl, rfl⟩
end M
end Go.Proofs.Ytjbllcakaljpgaa
namespace Go.Proofs.Ytjbllcakaljpgaa
open Go.RowKit Go.Lib
namespace M
attribute [local go_sem] Oper.semAt_some
section
variable {n0 B most : Nat} {W : World} {E : List En} {c id len k : Nat}
/-- Where the cursor is behind a call. -/
def MvP (c B id len : Nat) (W : World) (v : Value) (k' : Nat) (e : Ending) (w' : World) : Prop := e = .returned v ∧ CuC w' c B id len k' ∧ BC c W w'
theorem MvP.set {k0 k' : Nat} {w1 : World} {v : Value} (h : CuC W c B id len k0) (hb : Below W.heap.size W w1) : MvP c B id len W v k' (.returned v) (w1.setCell ⟨c, 3, none⟩ (.int .i64 k')) :=
  ⟨rfl, CuC.move (below_block hb h) k', (BC.of hb).set (p := ⟨c, 3, none⟩) (.inr rfl) _⟩
theorem MvP.keep {w1 : World} {v : Value} (h : CuC W c B id len k) (hb : Below W.heap.size W w1) : MvP c B id len W v k (.returned v) w1 :=
  ⟨rfl, below_block hb h, .of hb⟩
theorem cseek_any (h : CuC W c B id len k) (n : Int) : Calls Try.prog 15 #[.pointer (some ⟨c, 0, none⟩), .int .i64 n] W (MvP c B id len W (if 0 ≤ n ∧ n ≤ len then .nilIface else err 1) (if 0 ≤ n ∧ n ≤ len then n.toNat else k)) := by
  refine (seek_any h n).mono ?_
  rintro e w' (⟨h1, h2, rfl, rfl⟩ | ⟨h1, rfl, rfl⟩)
  · rw [if_pos ⟨h1, h2⟩, if_pos ⟨h1, h2⟩]
    obtain ⟨a, rfl⟩ : ∃ a : Nat, n = (a : Int) := ⟨n.toNat, by omega⟩
    rw [Int.toNat_natCast]
    exact MvP.set h (Below.refl _ _)
  · rw [if_neg h1, if_neg h1]
    exact MvP.keep h (Below.refl _ _)
theorem cskip_any (h : CuC W c B id len k) (hk : k ≤ len) (hl : len ≤ 1152921504606846976) (n : Int) {k' : Nat} (hk' : (k : Int) + mv len k n = k') : Calls Try.prog 12 #[.pointer (some ⟨c, 0, none⟩), .int .i64 n] W (MvP c B id len W (.int .i64 (mv len k n)) k') := by
  refine (skip_any h hk hl n).mono ?_
  rintro e w' ⟨rfl, w1, b1, rfl⟩
  rw [hk']
  exact MvP.set h b1
theorem cpeek_any (hs : StAt n0 W B most E) (hwf : Wf E) (hE : E.length ≤ 1048576) (h : CuC W c B id len k) (hid : id ≤ E.length) (hlen : (txt E id).length = len) (hk : k ≤ len) : Calls Try.prog 32 #[.pointer (some ⟨c, 0, none⟩)] W (MvP c B id len W (.tuple #[.int .u8 (((txt E id)[k]?).getD 0), .bool (decide (k < len))]) k) := by
  rcases Nat.lt_or_ge k len with g | g
  · have hb := List.getElem?_eq_getElem (l := txt E id) (show k < (txt E id).length by omega)
    rw [hb, decide_eq_true g, Option.getD_some]
    refine (peek_some hs hwf hE h hid g hb).mono ?_
    rintro e w' ⟨rfl, b1⟩
    exact MvP.keep h b1
  · obtain rfl : k = len := by omega
    rw [List.getElem?_eq_none (by omega), decide_eq_false (by omega)]
    refine (peek_none h).mono ?_
    rintro e w' ⟨rfl, b1⟩
    exact MvP.keep h b1
theorem cnext_any (hs : StAt n0 W B most E) (hwf : Wf E) (hE : E.length ≤ 1048576) (h : CuC W c B id len k) (hid : id ≤ E.length) (hlen : (txt E id).length = len) (hk : k ≤ len) {k' : Nat} (hk' : (k : Int) + mv len k 1 = k') : Calls Try.prog 16 #[.pointer (some ⟨c, 0, none⟩)] W (MvP c B id len W (.tuple #[.int .u8 (((txt E id)[k]?).getD 0), .bool (decide (k < len))]) k') := by
  have hlb := (hwf.len hid).2
  rcases Nat.lt_or_ge k len with g | g
  · have hb := List.getElem?_eq_getElem (l := txt E id) (show k < (txt E id).length by omega)
    rw [hb, decide_eq_true g, Option.getD_some]
    have e : k' = k + 1 := by unfold mv at hk'; rw [if_neg (by omega), if_neg (by omega)] at hk'; omega
    subst e
    refine (next_some hs hwf hE h hid g (by omega) hb).mono ?_
    rintro e w' ⟨rfl, w1, b1, rfl⟩
    exact MvP.set h b1
  · obtain rfl : k = len := by omega
    rw [List.getElem?_eq_none (by omega), decide_eq_false (by omega)]
    have e : k' = k := by unfold mv at hk'; rw [if_neg (by omega), if_pos (by omega)] at hk'; omega
    subst e
    refine (next_none h).mono ?_
    rintro e w' ⟨rfl, b1⟩
    exact MvP.keep h b1
theorem cprev_any (hs : StAt n0 W B most E) (hwf : Wf E) (hE : E.length ≤ 1048576) (h : CuC W c B id len k) (hid : id ≤ E.length) (hlen : (txt E id).length = len) (hk : k ≤ len) : Calls Try.prog 18 #[.pointer (some ⟨c, 0, none⟩)] W (MvP c B id len W (.tuple #[.int .u8 (if k = 0 then 0 else ((txt E id)[k - 1]?).getD 0 : Nat), .bool (decide (0 < k))]) (k - 1)) := by
  have hlb := (hwf.len hid).2
  cases k with
  | zero =>
    refine (prev_none h).mono ?_
    rintro e w' ⟨rfl, rfl⟩
    exact MvP.keep h (Below.refl _ _)
  | succ j =>
    have hb := List.getElem?_eq_getElem (l := txt E id) (show j < (txt E id).length by omega)
    rw [if_neg (by omega), decide_eq_true (by omega), Nat.add_sub_cancel, hb, Option.getD_some]
    refine (prev_some hs hwf hE h hid (by omega) (by omega) hb).mono ?_
    rintro e w' ⟨rfl, w1, b1, rfl⟩
    exact MvP.set h b1
theorem cline_any (hs : StAt n0 W B most E) (hwf : Wf E) (hE : E.length ≤ 1048576) (h : CuC W c B id len k) (hid : id ≤ E.length) (hlen : (txt E id).length = len) (hk : k ≤ len) : Calls Try.prog 22 #[.pointer (some ⟨c, 0, none⟩)] W (MvP c B id len W (.tuple #[.int .i64 (((txt E id).take k).count 10 : Nat), .int .i64 (tlT ((txt E id).take k) : Nat)]) k) := by
  refine (line_any hs hwf hE h hid (by omega)).mono ?_
  rintro e w' ⟨rfl, b1⟩
  exact MvP.keep h b1
theorem cnextl_any (hs : StAt n0 W B most E) (hwf : Wf E) (hE : E.length ≤ 1048576) (h : CuC W c B id len k) (hid : id ≤ E.length) (hlen : (txt E id).length = len) (hk : k ≤ len) : Calls Try.prog 25 #[.pointer (some ⟨c, 0, none⟩)] W (MvP c B id len W (.bool (nxF (txt E id) k).isSome) ((nxF (txt E id) k).getD k)) := by
  refine (nextl_any hs hwf hE h hid (by omega)).mono ?_
  intro e w' m
  exact m.bc h
theorem cprevl_any (hs : StAt n0 W B most E) (hwf : Wf E) (hE : E.length ≤ 1048576) (h : CuC W c B id len k) (hid : id ≤ E.length) (hlen : (txt E id).length = len) (hk : k ≤ len) : Calls Try.prog 26 #[.pointer (some ⟨c, 0, none⟩)] W (MvP c B id len W (.bool (pvF (txt E id) k).isSome) ((pvF (txt E id) k).getD k)) := by
  refine (prevl_any hs hwf hE h hid (by omega)).mono ?_
  intro e w' m
  exact m.bc h
end
/-- Letters, wherever they lie. -/
abbrev ByR (W : World) (v : Value) (l : List Nat) : Prop := RowAt (fun n : Nat => Value.int .u8 n) W v l
theorem Bys.row {B : Nat} {W : World} {v : Value} {l : List Nat} (h : Bys B W v l) : ByR W v l := by
  rcases h.shape with ⟨rfl, rfl⟩ | ⟨g, cap, rfl, h1, h2⟩
  · exact ⟨none, 0, rfl, by simp, by unfold maxLen; omega, fun i h => by cases h⟩
  · refine ⟨_, cap, rfl, h1, h2, fun i hi => ⟨_, rfl, ?_⟩⟩
    obtain ⟨g', cap', hv, -, -, hc⟩ := Bys.at h hi
    cases hv
    rw [← hc W (Below.refl _ _) i hi]
    congr 1
    unfold Addr.add; split <;> simp_all
theorem conv_row {W : World} {v : Value} {l : List Nat} (h : ByR W v l) : (convert 37 9 v).run Try.prog W = .ok (.string (bstr l)) W := by
  obtain ⟨a, cap, rfl, h1, h2, hc⟩ := h
  rw [run_convert_bytes_string (e := 5) W _ _ _ _ _ Try.underlying37 Try.underlying5 Try.underlying9]
  cases a with
  | none =>
    cases l with
    | nil => rfl
    | cons x l => obtain ⟨b, hb, -⟩ := hc 0 (by simp); cases hb
  | some b =>
    refine run_bytesToString W b l.length cap (l.map (fun n : Nat => (n : Int))) ?_
    have := run_loadCells_list (P := Try.prog) W b ((l.map (fun n : Nat => (n : Int))).map (Value.int .u8)) (fun j v hv => by
      have hj : j < l.length := by
        have := (List.getElem?_eq_some_iff.1 hv).1
        simpa using this
      obtain ⟨b', hb', hcl⟩ := hc j hj
      cases hb'
      rw [hcl]
      rw [List.getElem?_eq_getElem (by simpa using hj)] at hv
      simp only [List.getElem_map, Option.some.injEq] at hv
      exact congrArg some hv)
    simpa using this
set_option maxRecDepth 100000 in
theorem bytes2_any {W : World} {v1 v2 : Value} {l : List Nat} (h1 : ByR W v1 l) (h2 : ByR W v2 l) :
    Calls Try.prog 20 #[v1, v2] W fun e w' => e = .returned (.bool true) ∧ w' = W := by
  have c1 := conv_row h1; have c2 := conv_row h2
  generalize bstr l = s at *
  clear h1 h2
  go_enter Try.func20, Try.ntmps20
  go_wp2_with fail
  go_ret
  exact ⟨rfl, rfl⟩
/-- A part of letters. -/
theorem bys_cut {t : List Nat} {tl k m : Nat} (hl : t.length = tl) (hkm : k + m ≤ tl) (a0 : Option Addr) (c : Nat) (hc : tl ≤ c) :
    ∃ A' c', (∀ w, (Instr.slice 37 (.slice a0 tl c) (some (.int .i64 (k : Int))) (some (.int .i64 ((k + m : Nat) : Int))) none).run Try.prog w = .ok (.slice A' m c') w) ∧ ∀ W B, Bys B W (.slice a0 tl c) t → ByR W (.slice A' m c') ((t.drop k).take m) := by
  have hs : ∀ w, (sizeOf (Try.prog.elem 37)).run Try.prog w = .ok 1 w := fun w => by kernel_rfl
  have hr : ∀ w, (Instr.slice 37 (.slice a0 tl c) (some (.int .i64 (k : Int))) (some (.int .i64 ((k + m : Nat) : Int))) none).run Try.prog w = .ok (sliced a0 k (k + m) c 1) w := fun w => by
    have := run_slice_lh (P := Try.prog) w 37 a0 tl c (by kernel_rfl) .i64 .i64 (k : Int) ((k + m : Nat) : Int) (by omega) (by omega) (by omega)
    rw [this, hs, Int.toNat_natCast, Int.toNat_natCast]; rfl
  refine ⟨(if c = k then a0 else a0.map (·.add (k * 1))), c - k, (fun w => by rw [hr w]; simp [sliced]), ?_⟩
  intro W B h
  have hml : ((t.drop k).take m).length = m := by rw [List.length_take, List.length_drop]; omega
  have hcm : c ≤ maxLen := by
    rcases h.shape with ⟨h1, -⟩ | ⟨g2, c2, h1, h2, h3⟩
    · cases h1; unfold maxLen; omega
    · simp only [Value.slice.injEq] at h1; obtain ⟨-, -, rfl⟩ := h1; exact h3
  refine ⟨_, _, by rw [hml], by rw [hml]; omega, by omega, ?_⟩
  intro j hj
  rw [hml] at hj
  have hj' : k + j < t.length := by omega
  obtain ⟨g, cap, hv, -, -, hE⟩ := Bys.at h hj'
  simp only [Value.slice.injEq] at hv
  obtain ⟨rfl, -, rfl⟩ := hv
  have e0 := hE W (Below.refl _ _) (k + j) hj'
  have hne : ¬ c = k := by omega
  have hx : ((t.drop k).take m)[j]'(by rw [hml]; exact hj) = t[k + j] := by rw [List.getElem_take, List.getElem_drop]
  rw [hx, if_neg hne]
  refine ⟨_, rfl, ?_⟩
  rw [← e0]; congr 1; unfold Addr.add; split <;> split <;> simp_all <;> omega
set_option maxRecDepth 100000 in
set_option maxHeartbeats 4000000 in
theorem rread_any {b0 : Nat} {W : World} {va : Option Addr} {vc k : Nat} {t : List Nat} {tl : Nat} (hB : Bys b0 W (.slice va tl vc) t) (hl : t.length = tl) (hk : k ≤ tl) (htl : tl ≤ 1000000) (n : Int) :
    Calls Try.prog 54 #[.agg #[.slice va tl vc, .int .i64 k], .int .i64 n] W fun e w' => ∃ A' c', e = .returned (.tuple #[.slice A' (rdN tl k n) c', .agg #[.slice va tl vc, .int .i64 ((k + rdN tl k n : Nat) : Int)]]) ∧ ByR w' (.slice A' (rdN tl k n) c') ((t.drop k).take (rdN tl k n)) ∧ Below W.heap.size W w' := by
  have HF : ∀ f, Fence.wide.fn f := fun _ => trivial
  obtain ⟨W2, hW2, k1, k2, b2⟩ := rc_two W (.slice va tl vc) k
  have hcap : tl ≤ vc := by
    rcases hB.shape with ⟨h1, h2⟩ | ⟨g2, c2, h1, h2, h3⟩
    · simp only [Value.slice.injEq] at h1; omega
    · simp only [Value.slice.injEq] at h1; omega
  obtain ⟨m, hm⟩ : ∃ m, rdN tl k n = m := ⟨_, rfl⟩
  have hmb := rdN_le tl k n
  rw [hm] at hmb ⊢
  obtain ⟨A', c', hsl, hrow⟩ := bys_cut (m := m) (k := k) hl (by omega) va vc hcap
  obtain ⟨q, hq⟩ : ∃ q, k + m = q := ⟨_, rfl⟩
  rw [hq] at hsl ⊢
  obtain ⟨n', hn'⟩ : ∃ y : Int, (if n < 0 then 0 else if n > 65536 then 65536 else n) = y := ⟨_, rfl⟩
  have hmv : (k : Int) + mv tl k n' = ((k + m : Nat) : Int) := by
    rw [← hm]; unfold rdN mv
    rw [hn']
    have h0 : 0 ≤ n' := by rw [← hn']; split; · omega
                           · split <;> omega
    rw [if_neg (by omega)]
    split
    · rw [Nat.min_eq_right (by omega)]; omega
    · rw [Nat.min_eq_left (by omega)]; omega
  have HSK := Lib.hid (rskip_any W2 (va := va) (vc := vc) hk (by omega) n')
  rw [hmv, hq] at HSK
  have K2 := Lib.hid k2; have K1 := Lib.hid k1
  obtain ⟨c0, c1, -, -⟩ := k1.cells
  have B2 := Lib.hid b2
  have HROW : Hid (∀ w, Below W.heap.size W w → ByR w (.slice A' m c') ((t.drop k).take m)) := Lib.hid (fun w hw => hrow w b0 (hB.below hw))
  have HMM := Lib.hid hmb
  have hcs : (n > 65536 ∧ n' = 65536) ∨ (¬ n > 65536 ∧ n < 0 ∧ n' = 0) ∨ (¬ n > 65536 ∧ ¬ n < 0 ∧ n' = n) := by
    rw [← hn']
    by_cases g1 : n < 0
    · right; left; rw [if_pos g1]; exact ⟨by omega, g1, rfl⟩
    · by_cases g2 : n > 65536
      · left; rw [if_neg g1, if_pos g2]; exact ⟨g2, rfl⟩
      · right; right; rw [if_neg g1, if_neg g2]; exact ⟨g2, g1, rfl⟩
  have h65 : ¬ (65536 : Int) < 0 := by omega
  clear hrow hB k1 k2 b2 hn' hmv hmb hm
  rcases hcs with ⟨g1, rfl⟩ | ⟨g1, g2, rfl⟩ | ⟨g1, g2, rfl⟩
  all_goals
    go_enter Try.func54, Try.ntmps54
    go_wp2_with fail
    refine HSK.out.mono ?_
    rintro e w3 ⟨rfl, b3⟩
    obtain ⟨g6, hg6⟩ : ∃ g, w3.heap.size = g := ⟨_, rfl⟩
    obtain ⟨w4, hw4⟩ : ∃ w, w3.alloc (.cells #[.slice va tl vc, .int .i64 (q : Int)] 68) = w := ⟨_, rfl⟩
    have k4 : RcC w4 g6 (.slice va tl vc) (q : Int) := by rw [← hw4, ← hg6]; exact heap_new' _ _
    have b4 : Below w3.heap.size w3 w4 := by rw [← hw4]; exact (Below.refl _ _).alloc (Nat.le_refl _) _
    have B4 := Lib.hid (Below.after b3 b4)
    have K4 := Lib.hid k4
    clear b3 k4 b4
    go_wp2_with fail
    obtain ⟨wd, hwd⟩ : ∃ w, w4.drew = w := ⟨_, rfl⟩
    have SD : Below w4.heap.size w4 wd := by rw [← hwd]; exact (Below.refl _ _).drew
    have HW4 := Lib.hid (show RcC w4 W.heap.size (.slice va tl vc) k from below_block B4.out K1.out)
    have m0 : ∀ w, Below w4.heap.size w4 w → w.cell? ⟨W.heap.size, 0, none⟩ = some (.slice va tl vc) := fun w hw => (RcC.cells (below_block hw HW4.out)).1
    have m1 : ∀ w, Below w4.heap.size w4 w → w.cell? ⟨W.heap.size, 1, none⟩ = some (.int .i64 k) := fun w hw => (RcC.cells (below_block hw HW4.out)).2.1
    have m2 : ∀ w, Below w4.heap.size w4 w → w.cell? ⟨g6, 0, none⟩ = some (.slice va tl vc) := fun w hw => (RcC.cells (below_block hw K4.out)).1
    have m3 : ∀ w, Below w4.heap.size w4 w → w.cell? ⟨g6, 1, none⟩ = some (.int .i64 (q : Int)) := fun w hw => (RcC.cells (below_block hw K4.out)).2.1
    have K5 : RcC wd (W.heap.size + 1) (.slice none 0 0) 0 := below_block (Below.after B4.out SD) K2.out
    obtain ⟨z0, z1, z2, z3⟩ := K5.cells
    obtain ⟨wf, hwf⟩ : ∃ w, (wd.setCell ⟨W.heap.size + 1, 0, none⟩ (.slice va tl vc)).setCell ⟨W.heap.size + 1, 1, none⟩ (.int .i64 (q : Int)) = w := ⟨_, rfl⟩
    have KF : RcC wf (W.heap.size + 1) (.slice va tl vc) (q : Int) := by rw [← hwf]; exact K5.set _ _
    have BF : Below W.heap.size W wf := by
      rw [← hwf]
      exact ((Below.after (Below.after B2.out B4.out) SD).setCell (p := ⟨W.heap.size + 1, 0, none⟩) (by simp) _).setCell (p := ⟨W.heap.size + 1, 1, none⟩) (by simp) _
    obtain ⟨h0, h1, -, -⟩ := KF.cells
    have HBF := Lib.hid BF
    clear K5 KF BF
    refine wp_region_anyH (Below w4.heap.size w4) (by kernel_rfl) ?_
    rw [hwd]
    clear hwd hw4
    refine AnyH.take (i := 0) (d := some 14) (v := ?_) (by kernel_rfl) rfl rfl HF (fun _ _ _ h => h) (.inl ⟨by rfl, ?_⟩) (by first | assumption | rfl) ?_
    rotate_left
    · intro w hS; try subst hS
      go_simp; try with_reducible rfl
    try simp only [Act.put, List.setIfInBounds_toArray, List.set_cons_zero, List.set_cons_succ]
    refine AnyH.take (i := 1) (d := some 15) (v := ?_) (by kernel_rfl) rfl rfl HF (fun _ _ _ h => h) (.inl ⟨by rfl, ?_⟩) (by first | assumption | rfl) ?_
    rotate_left
    · intro w hS; try subst hS
      go_simp; try with_reducible rfl
    try simp only [Act.put, List.setIfInBounds_toArray, List.set_cons_zero, List.set_cons_succ]
    refine AnyH.take (i := 2) (d := some 16) (v := ?_) (by kernel_rfl) rfl rfl HF (fun _ _ _ h => h) (.inl ⟨by rfl, ?_⟩) (by first | assumption | rfl) ?_
    rotate_left
    · intro w hS; try subst hS
      go_simp; try with_reducible rfl
    try simp only [Act.put, List.setIfInBounds_toArray, List.set_cons_zero, List.set_cons_succ]
    refine AnyH.take (i := 3) (d := some 17) (v := ?_) (by kernel_rfl) rfl rfl HF (fun _ _ _ h => h) (.inl ⟨by rfl, ?_⟩) (by first | assumption | rfl) ?_
    rotate_left
    · intro w hS; try subst hS
      go_simp; try with_reducible rfl
    try simp only [Act.put, List.setIfInBounds_toArray, List.set_cons_zero, List.set_cons_succ]
    refine AnyH.take (i := 4) (d := some 18) (v := ?_) (by kernel_rfl) rfl rfl HF (fun _ _ _ h => h) (.inl ⟨by rfl, ?_⟩) (by first | assumption | rfl) ?_
    rotate_left
    · intro w hS; try subst hS
      go_simp; try with_reducible rfl
    try simp only [Act.put, List.setIfInBounds_toArray, List.set_cons_zero, List.set_cons_succ]
    refine AnyH.take (i := 5) (d := some 19) (v := ?_) (by kernel_rfl) rfl rfl HF (fun _ _ _ h => h) (.inl ⟨by rfl, ?_⟩) (by first | assumption | rfl) ?_
    rotate_left
    · intro w hS; try subst hS
      go_simp; try with_reducible rfl
    try simp only [Act.put, List.setIfInBounds_toArray, List.set_cons_zero, List.set_cons_succ]
    refine AnyH.take (i := 6) (d := some 20) (v := ?_) (by kernel_rfl) rfl rfl HF (fun _ _ _ h => h) (.inl ⟨by rfl, ?_⟩) (by first | assumption | rfl) ?_
    rotate_left
    · intro w hS; try subst hS
      go_simp; try with_reducible rfl
    try simp only [Act.put, List.setIfInBounds_toArray, List.set_cons_zero, List.set_cons_succ]
    refine AnyH.take (i := 7) (d := some 21) (v := ?_) (by kernel_rfl) rfl rfl HF (fun _ _ _ h => h) (.inl ⟨by rfl, ?_⟩) (by first | assumption | rfl) ?_
    rotate_left
    · intro w hS; try subst hS
      go_simp; try with_reducible rfl
    try simp only [Act.put, List.setIfInBounds_toArray, List.set_cons_zero, List.set_cons_succ]
    refine AnyH.take (i := 8) (d := some 4) (v := ?_) (by kernel_rfl) rfl rfl HF (fun _ _ _ h => h) (.inl ⟨by rfl, ?_⟩) (by first | assumption | rfl) ?_
    rotate_left
    · intro w hS; try subst hS
      go_simp; try with_reducible rfl
    try simp only [Act.put, List.setIfInBounds_toArray, List.set_cons_zero, List.set_cons_succ]
    refine AnyH.tailL 9 (by kernel_rfl) ?_
    simp only [List.drop_succ_cons, List.drop_zero]
    clear m0 m1 m2 m3
    gi_wp2_with fail
    go_wp2_with fail
    exact bodyPost_ret (v := .tuple #[.slice A' m c', .agg #[.slice va tl vc, .int .i64 (q : Int)]]) (by simp [results, Try.results54, go_sem, h0, h1]) rfl ⟨A', c', rfl, HROW.out wf HBF.out, HBF.out⟩
end M
end Go.Proofs.Ytjbllcakaljpgaa
