/- Digests and weights: blocks; Unit, Letter. -/
import Derived.Test.YtpjcfepngjpfbaaModular
import Derived.Outline
import Derived.Test.YtpjcfepngjpfbaaOwn
import Derived.Test.YtpjcfepngjpfbaaTail
namespace Go.Proofs.Ytpjcfepngjpfbaa
namespace M
def Q : Nat := 2305843009213693951
def bs : Nat := 1103515245
def stepM (m c v b : Nat) : Nat := (v * c + (b + 1)) % m
theorem foldM_lt {m c : Nat} (hm : 0 < m) : ∀ (t : List Nat) (v : Nat), v < m → t.foldl (stepM m c) v < m
  | [], v, h => h
  | b :: t, v, _ => foldM_lt hm t _ (Nat.mod_lt _ hm)
theorem foldM_eq (m c : Nat) : ∀ (t : List Nat) (v : Nat), t.foldl (stepM m c) v % m = (v * c ^ t.length + t.foldl (stepM m c) 0) % m
  | [], v => by simp
  | b :: t, v => by
    rw [List.foldl_cons, List.foldl_cons, foldM_eq m c t (stepM m c v b), List.length_cons, Nat.pow_succ]
    rw [Nat.add_mod (v * _) , foldM_eq m c t (stepM m c 0 b), ← Nat.add_mod]
    have h1 : ∀ x : Nat, (x % m * c ^ t.length + t.foldl (stepM m c) 0) % m = (x * c ^ t.length + t.foldl (stepM m c) 0) % m := fun x => by
      rw [Nat.add_mod, Nat.mod_mul_mod, ← Nat.add_mod]
    unfold stepM at h1 ⊢
    rw [h1, Nat.zero_mul, Nat.zero_add]
    have h2 : ∀ A X : Nat, (A + ((b + 1) % m * c ^ t.length + X)) % m = (A + ((b + 1) * c ^ t.length + X)) % m := fun A X => by
      rw [← Nat.add_assoc, ← Nat.add_assoc, Nat.add_mod, Nat.add_mod A, Nat.mod_mul_mod, ← Nat.add_mod A, ← Nat.add_mod]
    rw [h2, Nat.add_mul, Nat.mul_assoc, Nat.mul_comm c, Nat.add_assoc]
/-- The digest's value of a text. -/
def dgv (t : List Nat) : Nat := t.foldl (stepM Q bs) 0
structure Dg where
  v : Nat
  s : Nat
def joinD (a b : Dg) : Dg := ⟨(a.v * b.s + b.v) % Q, a.s * b.s % Q⟩
def dg (t : List Nat) : Dg := ⟨dgv t, bs ^ t.length % Q⟩
structure Wt where
  len : Nat
  lines : Nat
  head : Nat
  tail : Nat
  d : Dg
def hdT (t : List Nat) : Nat := t.findIdx (· == 10)
def tlT (t : List Nat) : Nat := t.reverse.findIdx (· == 10)
def wt (t : List Nat) : Wt := ⟨t.length, t.count 10, hdT t, tlT t, dg t⟩
def joinW (a b : Wt) : Wt := ⟨a.len + b.len, a.lines + b.lines, if a.lines = 0 then a.len + b.head else a.head, if b.lines = 0 then b.len + a.tail else b.tail, joinD a.d b.d⟩
/-- A text, k times. -/
def rep (k : Nat) (t : List Nat) : List Nat := (List.replicate k t).flatten
theorem rep_zero (t : List Nat) : rep 0 t = [] := rfl
theorem rep_one (t : List Nat) : rep 1 t = t := by simp [rep]
theorem rep_succ (k : Nat) (t : List Nat) : rep (k + 1) t = t ++ rep k t := by simp [rep, List.replicate_succ]
theorem rep_add (j k : Nat) (t : List Nat) : rep (j + k) t = rep j t ++ rep k t := by
  induction j with
  | zero => rw [Nat.zero_add]; rfl
  | succ j ih => rw [Nat.succ_add, rep_succ, ih, rep_succ, List.append_assoc]
theorem rep_length (k : Nat) (t : List Nat) : (rep k t).length = k * t.length := by simp [rep]
theorem rep_mul (j k : Nat) (t : List Nat) : rep j (rep k t) = rep (j * k) t := by
  induction j with
  | zero => rw [Nat.zero_mul]; rfl
  | succ j ih => rw [rep_succ, ih, Nat.succ_mul, Nat.add_comm, rep_add]
theorem Q_pos : 0 < Q := by decide
theorem dgv_lt (t : List Nat) : dgv t < Q := foldM_lt Q_pos t 0 Q_pos
theorem dgv_append (s t : List Nat) : dgv (s ++ t) = (dgv s * (bs ^ t.length % Q) + dgv t) % Q := by
  have h := foldM_eq Q bs t (dgv s)
  have h2 : dgv (s ++ t) = t.foldl (stepM Q bs) (dgv s) := by unfold dgv; rw [List.foldl_append]
  rw [h2, ← Nat.mod_eq_of_lt (foldM_lt Q_pos t (dgv s) (dgv_lt s)), h]
  show (dgv s * bs ^ t.length + dgv t) % Q = _
  rw [Nat.add_mod, Nat.mul_mod, Nat.add_mod (dgv s * (bs ^ t.length % Q)), Nat.mul_mod (dgv s) (bs ^ t.length % Q), Nat.mod_mod]
theorem dg_append (s t : List Nat) : dg (s ++ t) = joinD (dg s) (dg t) := by
  unfold dg joinD
  simp only [Dg.mk.injEq]
  refine ⟨dgv_append s t, ?_⟩
  rw [List.length_append, Nat.pow_add, Nat.mul_mod]
theorem hdT_append (s t : List Nat) : hdT (s ++ t) = if s.count 10 = 0 then s.length + hdT t else hdT s := by
  unfold hdT
  rw [List.findIdx_append]
  by_cases h : s.count 10 = 0
  · have h2 : ¬ (s.findIdx (· == 10) < s.length) := by
      rw [List.findIdx_lt_length]
      rintro ⟨x, hx, e⟩
      have : x = 10 := by simpa using e
      subst this
      exact (List.count_eq_zero.1 h) hx
    rw [if_neg h2, if_pos h, Nat.add_comm]
  · have h2 : s.findIdx (· == 10) < s.length := by
      rw [List.findIdx_lt_length]
      exact ⟨10, List.count_pos_iff.1 (Nat.pos_of_ne_zero h), by simp⟩
    rw [if_pos h2, if_neg h]
theorem tlT_append (s t : List Nat) : tlT (s ++ t) = if t.count 10 = 0 then t.length + tlT s else tlT t := by
  have := hdT_append t.reverse s.reverse
  rw [← List.reverse_append] at this
  unfold hdT at this
  unfold tlT
  rw [this, List.count_reverse, List.length_reverse]
theorem wt_append (s t : List Nat) : wt (s ++ t) = joinW (wt s) (wt t) := by
  unfold wt joinW
  simp only [Wt.mk.injEq]
  exact ⟨by simp, by simp, hdT_append s t, tlT_append s t, dg_append s t⟩
/-- A weight's fields fit each other. -/
structure Good (w : Wt) : Prop where
  none : w.lines = 0 → w.head = w.len ∧ w.tail = w.len
  some : 0 < w.lines → w.head + w.tail + w.lines ≤ w.len
  one : w.lines = 1 → w.head + w.tail + 1 = w.len
theorem Good.join {a b : Wt} (ha : Good a) (hb : Good b) : Good (joinW a b) := by
  obtain ⟨a1, a2, a3⟩ := ha
  obtain ⟨b1, b2, b3⟩ := hb
  obtain ⟨al, an, ah, at', ad⟩ := a
  obtain ⟨bl, bn, bh, bt, bd⟩ := b
  dsimp only at *
  unfold joinW
  refine ⟨fun h => ?_, fun h => ?_, fun h => ?_⟩
  all_goals
    dsimp only at *
    split <;> split <;> omega
theorem good_wt (t : List Nat) : Good (wt t) := by
  induction t with
  | nil => exact ⟨fun _ => ⟨rfl, rfl⟩, fun h => by simp [wt] at h, fun h => by simp [wt] at h⟩
  | cons b t ih =>
    have e : b :: t = [b] ++ t := rfl
    rw [e, wt_append]
    refine Good.join ?_ ih
    by_cases h : b = 10
    · subst h
      exact ⟨fun h => by simp [wt] at h, fun _ => by simp [wt, hdT, tlT, List.findIdx_cons], fun _ => by simp [wt, hdT, tlT, List.findIdx_cons]⟩
    · have h0 : [b].count 10 = 0 := by simp [List.count_cons, h]
      have hb : (b == 10) = false := by simpa using h
      have h1 : hdT [b] = 1 := by simp [hdT, List.findIdx_cons, hb]
      have h2 : tlT [b] = 1 := by simp [tlT, List.findIdx_cons, hb]
      refine ⟨fun _ => ⟨by simp [wt, h1], by simp [wt, h2]⟩, fun hh => ?_, fun hh => ?_⟩
      · have : 0 < [b].count 10 := hh
        omega
      · have : [b].count 10 = 1 := hh
        omega
end M
end Go.Proofs.Ytpjcfepngjpfbaa
namespace Go.Proofs.Ytpjcfepngjpfbaa
open Go.RowKit Go.Lib
namespace M
attribute [local go_sem] Oper.semAt_some
def err (c : Int) : Value := .iface 120 (.int .i64 c)
def errV (c : Int) : Value := if c = 0 then .nilIface else err c
theorem errV_0 : errV 0 = .nilIface := rfl
/-- The greatest length. -/
abbrev mx : Nat := 1152921504606846976
set_option maxRecDepth 100000 in
theorem valid_any (W : World) (n : Int) : Calls Try.prog 85 #[.int .i64 n] W fun e w' => e = .returned (.bool (decide (0 ≤ n ∧ n ≤ 1152921504606846976))) ∧ w' = W := by
  by_cases h1 : 0 ≤ n
  · by_cases h2 : n ≤ 1152921504606846976
    · have e : decide (0 ≤ n ∧ n ≤ 1152921504606846976) = true := decide_eq_true ⟨h1, h2⟩
      rw [e]
      go_enter Try.func85, Try.ntmps85
      go_wp2_with fail
      go_ret
      exact ⟨rfl, rfl⟩
    · have e : decide (0 ≤ n ∧ n ≤ 1152921504606846976) = false := decide_eq_false (fun h => h2 h.2)
      rw [e]
      go_enter Try.func85, Try.ntmps85
      go_wp2_with fail
      go_ret
      exact ⟨rfl, rfl⟩
  · have e : decide (0 ≤ n ∧ n ≤ 1152921504606846976) = false := decide_eq_false (fun h => h1 h.1)
    rw [e]
    go_enter Try.func85, Try.ntmps85
    go_wp2_with fail
    go_ret
    exact ⟨rfl, rfl⟩
theorem valid_yes (W : World) {n : Nat} (h : n ≤ 1152921504606846976) : Calls Try.prog 85 #[.int .i64 n] W fun e w' => e = .returned (.bool true) ∧ w' = W := by
  refine (valid_any W n).mono fun e w h' => ⟨?_, h'.2⟩
  rw [h'.1, decide_eq_true (by constructor <;> omega)]
set_option maxRecDepth 100000 in
theorem add1_any (W : World) {a b : Nat} (ha : a ≤ 1152921504606846976) (hb : b ≤ 1152921504606846976) : Calls Try.prog 81 #[.int .i64 a, .int .i64 b] W fun e w' => e = .returned (if a + b ≤ 1152921504606846976 then .tuple #[.int .i64 ((a + b : Nat) : Int), .nilIface] else .tuple #[.int .i64 0, err 2]) ∧ w' = W := by
  have hw : IntKind.i64.wrap (1152921504606846976 - (b : Int)) = 1152921504606846976 - (b : Int) := by rw [IntKind.wrap_i64]; omega
  have hw2 : IntKind.i64.wrap ((a : Int) + (b : Int)) = (a : Int) + (b : Int) := by rw [IntKind.wrap_i64]; omega
  by_cases h : a + b ≤ 1152921504606846976
  all_goals
    first | (have t : ¬ ((a : Int) > 1152921504606846976 - (b : Int)) := by omega) | (have t : (a : Int) > 1152921504606846976 - (b : Int) := by omega)
    first | rw [if_pos h] | rw [if_neg h]
    clear h
    go_enter Try.func81, Try.ntmps81
    go_wp2_with fail
    refine (valid_yes W ha).mono ?_; rintro e w1 ⟨rfl, h⟩; rw [h]; clear h w1
    go_wp2_with fail
    refine (valid_yes W hb).mono ?_; rintro e w1 ⟨rfl, h⟩; rw [h]; clear h w1
    go_wp2_with fail
    go_ret2
    first | exact ⟨rfl, rfl⟩ | exact ⟨by simp, rfl⟩
set_option maxRecDepth 100000 in
theorem mul1_any (W : World) {a k : Nat} (ha : a ≤ 1152921504606846976) (h0 : 0 < a) (hk : k ≤ 9223372036854775807) : Calls Try.prog 74 #[.int .i64 a, .int .i64 k] W fun e w' => e = .returned (if a * k ≤ 1152921504606846976 then .tuple #[.int .i64 ((a * k : Nat) : Int), .nilIface] else .tuple #[.int .i64 0, err 2]) ∧ w' = W := by
  obtain ⟨q, hq⟩ : ∃ q, 1152921504606846976 / a = q := ⟨_, rfl⟩
  have hqq : Int.tdiv 1152921504606846976 (a : Int) = (q : Int) := by rw [← hq]; rfl
  have hiff : k ≤ q ↔ a * k ≤ 1152921504606846976 := by rw [← hq, Nat.le_div_iff_mul_le h0, Nat.mul_comm]
  have hq2 : q ≤ 1152921504606846976 := by rw [← hq]; exact Nat.div_le_self _ _
  have z0 : ¬ ((a : Int) = 0) := by omega
  have z1 : ((a : Int) == 0) = false := by simpa using z0
  have hwq : IntKind.i64.wrap (q : Int) = (q : Int) := by rw [IntKind.wrap_i64]; omega
  have k0 : ¬ ((k : Int) < 0) := by omega
  have ee : (a : Int) * (k : Int) = ((a * k : Nat) : Int) := (Int.natCast_mul a k).symm
  by_cases h : a * k ≤ 1152921504606846976
  all_goals
    first | (have t : ¬ ((k : Int) > (q : Int)) := by have := hiff.2 h; omega) | (have t : (k : Int) > (q : Int) := by have := fun x => h (hiff.1 x); omega)
    first | (have hw2 : IntKind.i64.wrap ((a : Int) * (k : Int)) = (a : Int) * (k : Int) := by rw [IntKind.wrap_i64, ee]; omega) | skip
    first | rw [if_pos h] | rw [if_neg h]
    clear h hiff hq ee
    go_enter Try.func74, Try.ntmps74
    go_wp2_with fail
    refine (valid_yes W ha).mono ?_; rintro e w1 ⟨rfl, h⟩; rw [h]; clear h w1
    go_wp2_with fail
    go_ret2
    first | exact ⟨rfl, rfl⟩ | exact ⟨by simp, rfl⟩
set_option maxRecDepth 100000 in
theorem clip_any (W : World) (n l h : Int) : Calls Try.prog 58 #[.int .i64 n, .int .i64 l, .int .i64 h] W fun e w' => e = .returned (.int .i64 (if n < l then l else if n > h then h else n)) ∧ w' = W := by
  by_cases h1 : n < l
  · rw [if_pos h1]
    go_enter Try.func58, Try.ntmps58
    go_wp2_with fail
    go_ret
    exact ⟨rfl, rfl⟩
  · rw [if_neg h1]
    by_cases h2 : n > h
    · rw [if_pos h2]
      go_enter Try.func58, Try.ntmps58
      go_wp2_with fail
      go_ret
      exact ⟨rfl, rfl⟩
    · rw [if_neg h2]
      go_enter Try.func58, Try.ntmps58
      go_wp2_with fail
      go_ret
      exact ⟨rfl, rfl⟩
end M
end Go.Proofs.Ytpjcfepngjpfbaa
namespace Go.Proofs.Ytpjcfepngjpfbaa
open Go.RowKit Go.Lib
theorem heap_new' (W : World) (o : Obj) : (W.alloc o).heap[W.heap.size]? = some o := by
  show (W.heap.push o)[W.heap.size]? = _
  simp
theorem heap_set0 {W : World} {g : Nat} {cs : Array Value} {t : TypeId} {i : Nat} (v : Value) (h : W.heap[g]? = some (.cells cs t (0, 0))) : (W.setCell ⟨g, i, none⟩ v).heap[g]? = some (.cells (cs.setIfInBounds i v) t (0, 0)) := by
  obtain ⟨hlt, hk⟩ := Array.getElem?_eq_some_iff.1 h
  show (W.heap.modify g _)[g]? = _
  rw [Array.getElem?_eq_getElem (by rw [Array.size_modify]; exact hlt), Array.getElem_modify_self, hk]
  rfl
theorem below_block {A B : World} {g : Nat} {o : Obj} (hb : Below A.heap.size A B) (h : A.heap[g]? = some o) : B.heap[g]? = some o := (hb.block g (Array.getElem?_eq_some_iff.1 h).1).trans h
theorem Below.after {A B C : World} (h : Below A.heap.size A B) (k : Below B.heap.size B C) : Below A.heap.size A C := h.trans (k.mono h.size)
namespace M
attribute [local go_sem] Oper.semAt_some
/-- A block with a digest. -/
def DgC (W : World) (g : Nat) (d : Dg) : Prop := W.heap[g]? = some (.cells #[.int .u64 d.v, .int .u64 d.s] 86 (0, 0))
abbrev dgV (d : Dg) : Value := .agg #[.int .u64 d.v, .int .u64 d.s]
theorem DgC.cells {W : World} {g : Nat} {d : Dg} (h : DgC W g d) : (W.cell? ⟨g, 0, none⟩ = some (.int .u64 d.v) ∧ W.cell? ⟨g, 1, none⟩ = some (.int .u64 d.s)) ∧ W.frozen? ⟨g, 0, none⟩ = false ∧ W.frozen? ⟨g, 1, none⟩ = false := by
  unfold DgC at h
  simp [World.cell?, World.frozen?, h]
theorem DgC.new (W : World) (d : Dg) : DgC (W.alloc (.cells #[.int .u64 d.v, .int .u64 d.s] 86)) W.heap.size d := heap_new' _ _
theorem DgC.set {W : World} {g : Nat} {d : Dg} (h : DgC W g d) (d' : Dg) : DgC ((W.setCell ⟨g, 0, none⟩ (.int .u64 d'.v)).setCell ⟨g, 1, none⟩ (.int .u64 d'.s)) g d' := by
  unfold DgC at h ⊢
  exact heap_set0 _ (heap_set0 _ h)
abbrev wtL (w : Wt) : List Value := [.int .i64 w.len, .int .i64 w.lines, .int .i64 w.head, .int .i64 w.tail, .int .u64 w.d.v, .int .u64 w.d.s]
abbrev wtV (w : Wt) : Value := .agg #[.int .i64 w.len, .int .i64 w.lines, .int .i64 w.head, .int .i64 w.tail, .int .u64 w.d.v, .int .u64 w.d.s]
def WtC (W : World) (g : Nat) (w : Wt) : Prop := W.heap[g]? = some (.cells #[.int .i64 w.len, .int .i64 w.lines, .int .i64 w.head, .int .i64 w.tail, .int .u64 w.d.v, .int .u64 w.d.s] 88 (0, 0))
section
variable {W : World} {g : Nat} {w : Wt}
theorem WtC.cells (h : WtC W g w) : W.cell? ⟨g, 0, none⟩ = some (.int .i64 w.len) ∧ W.cell? ⟨g, 1, none⟩ = some (.int .i64 w.lines) ∧ W.cell? ⟨g, 2, none⟩ = some (.int .i64 w.head) ∧ W.cell? ⟨g, 3, none⟩ = some (.int .i64 w.tail) ∧ W.cell? ⟨g, 4, none⟩ = some (.int .u64 w.d.v) ∧ W.cell? ⟨g, 5, none⟩ = some (.int .u64 w.d.s) := by
  unfold WtC at h
  simp [World.cell?, h]
theorem WtC.free (h : WtC W g w) (i : Nat) : W.frozen? ⟨g, i, none⟩ = false := by
  unfold WtC at h
  simp [World.frozen?, h]
theorem WtC.new (W : World) (w : Wt) : WtC (W.alloc (.cells #[.int .i64 w.len, .int .i64 w.lines, .int .i64 w.head, .int .i64 w.tail, .int .u64 w.d.v, .int .u64 w.d.s] 88)) W.heap.size w := heap_new' _ _
/-- All six cells written. -/
abbrev setW (W : World) (g : Nat) (w : Wt) : World := (((((W.setCell ⟨g, 0, none⟩ (.int .i64 w.len)).setCell ⟨g, 1, none⟩ (.int .i64 w.lines)).setCell ⟨g, 2, none⟩ (.int .i64 w.head)).setCell ⟨g, 3, none⟩ (.int .i64 w.tail)).setCell ⟨g, 4, none⟩ (.int .u64 w.d.v)).setCell ⟨g, 5, none⟩ (.int .u64 w.d.s)
theorem WtC.set (h : WtC W g w) (w' : Wt) : WtC (setW W g w') g w' := by
  unfold WtC at h ⊢
  exact heap_set0 _ (heap_set0 _ (heap_set0 _ (heap_set0 _ (heap_set0 _ (heap_set0 _ h)))))
theorem setW_below {n : Nat} {A : World} (h : Below n A W) (hg : n ≤ g) (w : Wt) : Below n A (setW W g w) :=
  (((((h.setCell (p := ⟨g, 0, none⟩) hg _).setCell (p := ⟨g, 1, none⟩) hg _).setCell (p := ⟨g, 2, none⟩) hg _).setCell (p := ⟨g, 3, none⟩) hg _).setCell (p := ⟨g, 4, none⟩) hg _).setCell (p := ⟨g, 5, none⟩) hg _
end
def w0 : Wt := ⟨0, 0, 0, 0, ⟨0, 0⟩⟩
set_option maxRecDepth 100000 in
theorem dunit_any (W : World) : Calls Try.prog 79 #[] W fun e w' => e = .returned (dgV (dg [])) ∧ Below W.heap.size W w' := by
  go_enter Try.func79, Try.ntmps79
  go_wp2_with fail
  exact bodyPost_ret (v := dgV (dg [])) (by simp [results, Try.results79, go_sem]; exact ⟨rfl, rfl⟩) rfl ⟨rfl, (Below.refl _ _).alloc (Nat.le_refl _) _⟩
set_option maxRecDepth 100000 in
theorem wunit_any (W : World) : Calls Try.prog 38 #[] W fun e w' => e = .returned (wtV (wt [])) ∧ Below W.heap.size W w' := by
  obtain ⟨W1, hW1⟩ : ∃ w, W.alloc (.cells #[.int .i64 0, .int .i64 0, .int .i64 0, .int .i64 0, .int .u64 0, .int .u64 0] 88) = w := ⟨_, rfl⟩
  have k1 : WtC W1 W.heap.size w0 := by rw [← hW1]; exact heap_new' _ _
  have b1 : Below W.heap.size W W1 := by rw [← hW1]; exact (Below.refl _ _).alloc (Nat.le_refl _) _
  have K1 := Lib.hid k1; have B1 := Lib.hid b1
  clear k1 b1
  go_enter Try.func38, Try.ntmps38
  go_wp2_with fail
  refine (dunit_any W1).mono ?_; rintro e w1 ⟨rfl, b2⟩
  have k2 := below_block b2 K1.out
  obtain ⟨c0, c1, c2, c3, c4, c5⟩ := WtC.cells k2
  have f0 := WtC.free k2 0; have f1 := WtC.free k2 1; have f2 := WtC.free k2 2; have f3 := WtC.free k2 3; have f4 := WtC.free k2 4; have f5 := WtC.free k2 5
  have K3 := Lib.hid (WtC.set k2 (wt []))
  have B3 := Lib.hid (setW_below (Below.after B1.out b2) (Nat.le_refl _) (wt []))
  obtain ⟨w3, hw3⟩ : ∃ w, setW w1 W.heap.size (wt []) = w := ⟨_, rfl⟩
  rw [hw3] at K3 B3
  have e0 : dgV (dg []) = .agg #[.int .u64 0, .int .u64 1] := rfl
  rw [e0]
  have hw3' : (((((w1.setCell ⟨W.heap.size, 0, none⟩ (.int .i64 0)).setCell ⟨W.heap.size, 1, none⟩ (.int .i64 0)).setCell ⟨W.heap.size, 2, none⟩ (.int .i64 0)).setCell ⟨W.heap.size, 3, none⟩ (.int .i64 0)).setCell ⟨W.heap.size, 4, none⟩ (.int .u64 0)).setCell ⟨W.heap.size, 5, none⟩ (.int .u64 1) = w3 := hw3
  clear hw3 k2 b2 hW1
  go_wp2_with fail
  obtain ⟨c0, c1, c2, c3, c4, c5⟩ := K3.out.cells
  exact bodyPost_ret (v := wtV (wt [])) (by simp [results, Try.results38, go_sem, c0, c1, c2, c3, c4, c5]) rfl ⟨rfl, B3.out⟩
set_option maxRecDepth 100000 in
theorem dletter_any (W : World) (b : Nat) (hb : b < 256) : Calls Try.prog 90 #[.int .u8 b] W fun e w' => e = .returned (dgV (dg [b])) ∧ Below W.heap.size W w' := by
  have e0 : dgV (dg [b]) = .agg #[.int .u64 ((b : Int) + 1), .int .u64 1103515245] := by
    have h1 : dgv [b] = b + 1 := by show (0 * bs + (b + 1)) % Q = _; rw [Nat.zero_mul, Nat.zero_add]; exact Nat.mod_eq_of_lt (by unfold Q; omega)
    have h2 : bs ^ [b].length % Q = 1103515245 := rfl
    unfold dgV dg
    dsimp only
    rw [h1, h2]
    rfl
  rw [e0]
  have hw : IntKind.u64.wrap ((b : Int) + 1) = (b : Int) + 1 := by rw [IntKind.wrap_u64]; omega
  have hw2 : IntKind.u64.wrap (b : Int) = (b : Int) := by rw [IntKind.wrap_u64]; omega
  go_enter Try.func90, Try.ntmps90
  go_wp2_with fail
  exact bodyPost_ret (v := .agg #[.int .u64 ((b : Int) + 1), .int .u64 1103515245]) (by simp [results, Try.results90, go_sem]) rfl ⟨rfl, (Below.refl _ _).alloc (Nat.le_refl _) _⟩
theorem wt_nl : wt [10] = ⟨1, 1, 0, 0, dg [10]⟩ := rfl
theorem wt_lt {b : Nat} (h : b ≠ 10) : wt [b] = ⟨1, 0, 1, 1, dg [b]⟩ := by
  have hb : (b == 10) = false := by simpa using h
  simp [wt, hdT, tlT, List.findIdx_cons, hb, List.count_cons]
set_option maxRecDepth 100000 in
theorem wletter_any (W : World) (b : Nat) (hb : b < 256) : Calls Try.prog 72 #[.int .u8 b] W fun e w' => e = .returned (wtV (wt [b])) ∧ Below W.heap.size W w' := by
  obtain ⟨W1, hW1⟩ : ∃ w, W.alloc (.cells #[.int .i64 0, .int .i64 0, .int .i64 0, .int .i64 0, .int .u64 0, .int .u64 0] 88) = w := ⟨_, rfl⟩
  have k1 : WtC W1 W.heap.size w0 := by rw [← hW1]; exact heap_new' _ _
  have b1 : Below W.heap.size W W1 := by rw [← hW1]; exact (Below.refl _ _).alloc (Nat.le_refl _) _
  have K1 := Lib.hid k1; have B1 := Lib.hid b1
  clear k1 b1
  by_cases h10 : b = 10
  · have hbb : ((b : Int) == 10) = true := by simp [h10]
    have e10 : wt [b] = ⟨1, 1, 0, 0, dg [b]⟩ := by rw [h10]; rfl
    clear h10
    go_enter Try.func72, Try.ntmps72
    go_wp2_with fail
    refine (dletter_any W1 b hb).mono ?_; rintro e w1 ⟨rfl, b2⟩
    obtain ⟨d, hd⟩ : ∃ d, dg [b] = d := ⟨_, rfl⟩
    have ev : dgV d = .agg #[.int .u64 d.v, .int .u64 d.s] := rfl
    rw [hd, ev]
    have HW : Hid (wt [b] = ⟨1, 1, 0, 0, d⟩) := Lib.hid (by rw [e10, hd])
    have k2 := below_block b2 K1.out
    obtain ⟨c0, c1, c2, c3, c4, c5⟩ := WtC.cells k2
    have f0 := WtC.free k2 0; have f1 := WtC.free k2 1; have f2 := WtC.free k2 2; have f3 := WtC.free k2 3; have f4 := WtC.free k2 4; have f5 := WtC.free k2 5
    have K3 := Lib.hid (WtC.set k2 ⟨1, 1, 0, 0, d⟩)
    have B3 := Lib.hid (setW_below (Below.after B1.out b2) (Nat.le_refl _) ⟨1, 1, 0, 0, d⟩)
    obtain ⟨w3, hw3⟩ : ∃ w, setW w1 W.heap.size ⟨1, 1, 0, 0, d⟩ = w := ⟨_, rfl⟩
    rw [hw3] at K3 B3
    have hw3' : (((((w1.setCell ⟨W.heap.size, 0, none⟩ (.int .i64 1)).setCell ⟨W.heap.size, 1, none⟩ (.int .i64 1)).setCell ⟨W.heap.size, 2, none⟩ (.int .i64 0)).setCell ⟨W.heap.size, 3, none⟩ (.int .i64 0)).setCell ⟨W.heap.size, 4, none⟩ (.int .u64 d.v)).setCell ⟨W.heap.size, 5, none⟩ (.int .u64 d.s) = w3 := hw3
    clear hw3 k2 b2 hW1 ev hd
    go_wp2_with fail
    obtain ⟨c0, c1, c2, c3, c4, c5⟩ := K3.out.cells
    exact bodyPost_ret (v := wtV ⟨1, 1, 0, 0, d⟩) (by simp [results, Try.results72, go_sem, c0, c1, c2, c3, c4, c5]) rfl ⟨by rw [HW.out], B3.out⟩
  · have hbb : ((b : Int) == 10) = false := by simp; omega
    have e10 := wt_lt h10
    clear h10
    go_enter Try.func72, Try.ntmps72
    go_wp2_with fail
    refine (dletter_any W1 b hb).mono ?_; rintro e w1 ⟨rfl, b2⟩
    obtain ⟨d, hd⟩ : ∃ d, dg [b] = d := ⟨_, rfl⟩
    have ev : dgV d = .agg #[.int .u64 d.v, .int .u64 d.s] := rfl
    rw [hd, ev]
    have HW : Hid (wt [b] = ⟨1, 0, 1, 1, d⟩) := Lib.hid (by rw [e10, hd])
    have k2 := below_block b2 K1.out
    obtain ⟨c0, c1, c2, c3, c4, c5⟩ := WtC.cells k2
    have f0 := WtC.free k2 0; have f1 := WtC.free k2 1; have f2 := WtC.free k2 2; have f3 := WtC.free k2 3; have f4 := WtC.free k2 4; have f5 := WtC.free k2 5
    have K3 := Lib.hid (WtC.set k2 ⟨1, 0, 1, 1, d⟩)
    have B3 := Lib.hid (setW_below (Below.after B1.out b2) (Nat.le_refl _) ⟨1, 0, 1, 1, d⟩)
    obtain ⟨w3, hw3⟩ : ∃ w, setW w1 W.heap.size ⟨1, 0, 1, 1, d⟩ = w := ⟨_, rfl⟩
    rw [hw3] at K3 B3
    have hw3' : (((((w1.setCell ⟨W.heap.size, 0, none⟩ (.int .i64 1)).setCell ⟨W.heap.size, 1, none⟩ (.int .i64 0)).setCell ⟨W.heap.size, 2, none⟩ (.int .i64 1)).setCell ⟨W.heap.size, 3, none⟩ (.int .i64 1)).setCell ⟨W.heap.size, 4, none⟩ (.int .u64 d.v)).setCell ⟨W.heap.size, 5, none⟩ (.int .u64 d.s) = w3 := hw3
    clear hw3 k2 b2 hW1 ev hd
    go_wp2_with fail
    obtain ⟨c0, c1, c2, c3, c4, c5⟩ := K3.out.cells
    exact bodyPost_ret (v := wtV ⟨1, 0, 1, 1, d⟩) (by simp [results, Try.results72, go_sem, c0, c1, c2, c3, c4, c5]) rfl ⟨by rw [HW.out], B3.out⟩
end M
end Go.Proofs.Ytpjcfepngjpfbaa
