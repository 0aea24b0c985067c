/- The player's block.
Equal lists of named texts are found equal. -/
import Derived.Test.YtlfodhejpbjfcaaInv
import Derived.Test.YtlfodhejpbjfcaaIts
set_option linter.unusedVariables false
set_option linter.unusedSimpArgs false
namespace Go.Proofs.Ytlfodhejpbjfcaa
open Go.RowKit
namespace S
abbrev R5 := Int × Sl × Sl × Sl × Bool
def r5 (r : R5) : List Value := [.int .i64 r.1, slV r.2.1, slV r.2.2.1, slV r.2.2.2.1, .bool r.2.2.2.2]
def r5V (r : R5) : Value := rtV r.1 r.2.1 r.2.2.1 r.2.2.2.1 r.2.2.2.2
/-- The player's cells: the box, the versions, four transactions, four of the reference's. -/
def plCells (b : Nat) (m : Sl) (ts : Nat → Option Addr) (rs : Nat → R5) : List Value :=
  [.pointer (some ⟨b, 0, none⟩), slV m, .pointer (ts 0), .pointer (ts 1), .pointer (ts 2), .pointer (ts 3)] ++ (r5 (rs 0) ++ (r5 (rs 1) ++ (r5 (rs 2) ++ r5 (rs 3))))
def PlC (W : World) (p b : Nat) (m : Sl) (ts : Nat → Option Addr) (rs : Nat → R5) : Prop := W.heap[p]? = some (.cells (plCells b m ts rs).toArray 43 (0, 0))
def up {α : Type} (f : Nat → α) (k : Nat) (a : α) : Nat → α := fun j => if j = k then a else f j
theorem four {k : Nat} (h : k < 4) : k = 0 ∨ k = 1 ∨ k = 2 ∨ k = 3 := by omega
section
variable {W : World} {p b : Nat} {m : Sl} {ts : Nat → Option Addr} {rs : Nat → R5}
theorem PlC.cellAt (h : PlC W p b m ts rs) (o : Nat) : W.cell? ⟨p, o, none⟩ = (plCells b m ts rs)[o]? := by
  unfold PlC at h
  simp [World.cell?, h]
theorem PlC.free (h : PlC W p b m ts rs) (o : Nat) : W.frozen? ⟨p, o, none⟩ = false := by
  unfold PlC at h
  simp [World.frozen?, h]
theorem PlC.box (h : PlC W p b m ts rs) : W.cell? ⟨p, 0, none⟩ = some (.pointer (some ⟨b, 0, none⟩)) := h.cellAt 0
theorem PlC.vers (h : PlC W p b m ts rs) : W.cell? ⟨p, 1, none⟩ = some (slV m) := h.cellAt 1
theorem PlC.txn (h : PlC W p b m ts rs) {k : Nat} (hk : k < 4) : W.cell? ⟨p, 2 + k, none⟩ = some (.pointer (ts k)) := by
  rw [h.cellAt]
  rcases four hk with rfl | rfl | rfl | rfl <;> rfl
theorem PlC.ref (h : PlC W p b m ts rs) {k : Nat} (hk : k < 4) : W.cell? ⟨p, 6 + k * 5, none⟩ = some (.int .i64 (rs k).1) ∧ W.cell? ⟨p, 6 + k * 5 + 1, none⟩ = some (slV (rs k).2.1) ∧ W.cell? ⟨p, 6 + k * 5 + 2, none⟩ = some (slV (rs k).2.2.1) ∧ W.cell? ⟨p, 6 + k * 5 + 3, none⟩ = some (slV (rs k).2.2.2.1) ∧ W.cell? ⟨p, 6 + k * 5 + 4, none⟩ = some (.bool (rs k).2.2.2.2) := by
  simp only [h.cellAt]
  rcases four hk with rfl | rfl | rfl | rfl <;> exact ⟨rfl, rfl, rfl, rfl, rfl⟩
theorem PlC.setVers (h : PlC W p b m ts rs) (m' : Sl) : PlC (W.setCell ⟨p, 1, none⟩ (slV m')) p b m' ts rs := by
  unfold PlC at h ⊢
  rw [heap_set0 _ h]; rfl
theorem PlC.setTxn (h : PlC W p b m ts rs) {k : Nat} (hk : k < 4) (a : Option Addr) : PlC (W.setCell ⟨p, 2 + k, none⟩ (.pointer a)) p b m (up ts k a) rs := by
  unfold PlC at h ⊢
  rw [heap_set0 _ h]
  rcases four hk with rfl | rfl | rfl | rfl <;> rfl
theorem PlC.setRef (h : PlC W p b m ts rs) {k : Nat} (hk : k < 4) (r : R5) : PlC (((((W.setCell ⟨p, 6 + k * 5, none⟩ (.int .i64 r.1)).setCell ⟨p, 6 + k * 5 + 1, none⟩ (slV r.2.1)).setCell ⟨p, 6 + k * 5 + 2, none⟩ (slV r.2.2.1)).setCell ⟨p, 6 + k * 5 + 3, none⟩ (slV r.2.2.2.1)).setCell ⟨p, 6 + k * 5 + 4, none⟩ (.bool r.2.2.2.2)) p b m ts (up rs k r) := by
  unfold PlC at h ⊢
  rw [heap_set0 _ (heap_set0 _ (heap_set0 _ (heap_set0 _ (heap_set0 _ h))))]
  rcases four hk with rfl | rfl | rfl | rfl <;> rfl
end
end S
end Go.Proofs.Ytlfodhejpbjfcaa
namespace Go.Proofs.Ytlfodhejpbjfcaa
open Go.RowKit
namespace S
attribute [local go_sem] Oper.semAt_some
theorem str_eq (d : Nat) (s : ByteArray) (w : World) : (Op.equalIn (d + 1) 9 (.string s) (.string s)).run Try.prog w = .ok true w := by
  have h : (s == s) = true := by first | exact beq_self_eq_true s | exact decide_eq_true rfl | (obtain ⟨a⟩ := s; show (a == a) = true; simp) | (simp only [BEq.beq]; simp)
  simp [Op.equalIn, run_underlying (P := Try.prog) Try.underlying9, h]
theorem id_eq (d : Nat) (x : Int) (w : World) : (Op.equalIn (d + 1) 47 (.int .i64 x) (.int .i64 x)).run Try.prog w = .ok true w := by
  simp [Op.equalIn, run_underlying (P := Try.prog) Try.underlying47]
theorem named_eq (s : ByteArray) (x : Int) (w : World) : (Op.equal 49 (.agg #[.string s, .int .i64 x]) (.agg #[.string s, .int .i64 x])).run Try.prog w = .ok true w := by
  have h : ∀ d w, (Op.equalIn (d + 2) 49 (.agg #[.string s, .int .i64 x]) (.agg #[.string s, .int .i64 x])).run Try.prog w = .ok true w := fun d w => by
    have p0 : ∀ w : World, (part 9 #[.string s, .int .i64 x] 0).run Try.prog w = .ok (.string s) w := fun _ => by kernel_rfl
    have p1 : ∀ w : World, (part 47 #[.string s, .int .i64 x] 1).run Try.prog w = .ok (.int .i64 x) w := fun _ => by kernel_rfl
    rw [Op.equalIn]
    simp [run_underlying (P := Try.prog) Try.underlying49, str_eq, id_eq, Sem.run_bind, p0, p1]
  simp [Op.equal, Op.maxDepth, h 9998]
set_option maxRecDepth 100000 in
set_option maxHeartbeats 4000000 in
theorem list_same {B B' : Nat} {W : World} {v v' : Value} {l : Nm} (h : Prs B W v l) (h' : Prs B' W v' l) (hl : l.length ≤ 1000000) :
    Calls Try.prog 27 #[v, v'] W fun e w' => e = .returned (.bool true) ∧ Below W.heap.size W w' := by
  have HF : ∀ f, Fence.wide.fn f := fun _ => trivial
  obtain ⟨a0, c0, rfl⟩ := h.len
  obtain ⟨a1, c1, rfl⟩ := h'.len
  have HP := Lib.hid h; have HP' := Lib.hid h'
  have hgd : Try.prog.eqGuardType Try.prog.depth 49 = false := by kernel_rfl
  have hbn : ((l.length : Int) != (l.length : Int)) = false := by simp
  clear h h'
  go_enter Try.func27, Try.ntmps27
  go_wp2_with fail
  go_loopw [13] (fun c wr => ∃ j : Nat, j ≤ l.length ∧ c = .int .i64 j ∧ Below W.heap.size W wr) (fun c _ => l.length - (intOf c).toNat)
  case atStart => exact ⟨0, by omega, rfl, Below.refl _ _⟩
  case round =>
    obtain ⟨j, hj, rfl, hB⟩ := hrel
    have HB := Lib.hid hB; clear hB
    by_cases hlt : j < l.length
    · have hlt2 : (j : Int) < (l.length : Int) := by omega
      obtain ⟨g, cap, e1, h1, h2, hc⟩ := HP.out.at hlt
      obtain ⟨g', cap', e1', h1', h2', hc'⟩ := HP'.out.at hlt
      simp only [Value.slice.injEq] at e1 e1'
      obtain ⟨rfl, -, rfl⟩ := e1
      obtain ⟨rfl, -, rfl⟩ := e1'
      have k0 : ∀ w, Below wr.heap.size wr w → w.cell? ⟨g, j * 2, none⟩ = some (.string l[j].1) := fun w hw => (hc w (Below.step HB.out hw) j hlt).1
      have k1 : ∀ w, Below wr.heap.size wr w → w.cell? ⟨g, j * 2 + 1, none⟩ = some (.int .i64 l[j].2) := fun w hw => (hc w (Below.step HB.out hw) j hlt).2
      have m0 : ∀ w, Below wr.heap.size wr w → w.cell? ⟨g', j * 2, none⟩ = some (.string l[j].1) := fun w hw => (hc' w (Below.step HB.out hw) j hlt).1
      have m1 : ∀ w, Below wr.heap.size wr w → w.cell? ⟨g', j * 2 + 1, none⟩ = some (.int .i64 l[j].2) := fun w hw => (hc' w (Below.step HB.out hw) j hlt).2
      clear hc hc'
      have hnq := named_eq l[j].1 l[j].2
      generalize l[j].1 = s at *
      generalize l[j].2 = x at *
      have B0 : Below wr.heap.size wr wr.drew := (Below.refl _ _).drew
      go_wp2_with fail
      refine wp_region_anyH (Below wr.heap.size wr) (by kernel_rfl) ?_
      refine AnyH.take (i := 0) (d := some 16) (v := ?_) (by kernel_rfl) rfl rfl HF (fun _ _ _ h => h) (.inl ⟨by rfl, ?_⟩) (by first | assumption | rfl) ?_
      rotate_left
      · intro w hS; try subst hS
        go_simp; try with_reducible rfl
      try simp only [Act.put, List.setIfInBounds_toArray, List.set_cons_zero, List.set_cons_succ]
      refine AnyH.take (i := 1) (d := some 17) (v := ?_) (by kernel_rfl) rfl rfl HF (fun _ _ _ h => h) (.inl ⟨by rfl, ?_⟩) (by first | assumption | rfl) ?_
      rotate_left
      · intro w hS; try subst hS
        go_simp; try with_reducible rfl
      try simp only [Act.put, List.setIfInBounds_toArray, List.set_cons_zero, List.set_cons_succ]
      refine AnyH.take (i := 2) (d := some 18) (v := ?_) (by kernel_rfl) rfl rfl HF (fun _ _ _ h => h) (.inl ⟨by rfl, ?_⟩) (by first | assumption | rfl) ?_
      rotate_left
      · intro w hS; try subst hS
        go_simp; try with_reducible rfl
      try simp only [Act.put, List.setIfInBounds_toArray, List.set_cons_zero, List.set_cons_succ]
      refine AnyH.take (i := 3) (d := some 19) (v := ?_) (by kernel_rfl) rfl rfl HF (fun _ _ _ h => h) (.inl ⟨by rfl, ?_⟩) (by first | assumption | rfl) ?_
      rotate_left
      · intro w hS; try subst hS
        go_simp; try with_reducible rfl
      try simp only [Act.put, List.setIfInBounds_toArray, List.set_cons_zero, List.set_cons_succ]
      refine AnyH.take (i := 4) (d := some 20) (v := ?_) (by kernel_rfl) rfl rfl HF (fun _ _ _ h => h) (.inl ⟨by rfl, ?_⟩) (by first | assumption | rfl) ?_
      rotate_left
      · intro w hS; try subst hS
        go_simp; try with_reducible rfl
      try simp only [Act.put, List.setIfInBounds_toArray, List.set_cons_zero, List.set_cons_succ]
      refine AnyH.take (i := 5) (d := some 21) (v := ?_) (by kernel_rfl) rfl rfl HF (fun _ _ _ h => h) (.inl ⟨by rfl, ?_⟩) (by first | assumption | rfl) ?_
      rotate_left
      · intro w hS; try subst hS
        go_simp; try with_reducible rfl
      try simp only [Act.put, List.setIfInBounds_toArray, List.set_cons_zero, List.set_cons_succ]
      refine AnyH.take (i := 6) (d := some 22) (v := ?_) (by kernel_rfl) rfl rfl HF (fun _ _ _ h => h) (.inl ⟨by rfl, ?_⟩) (by first | assumption | rfl) ?_
      rotate_left
      · intro w hS; try subst hS
        go_simp; try with_reducible rfl
      try simp only [Act.put, List.setIfInBounds_toArray, List.set_cons_zero, List.set_cons_succ]
      refine AnyH.take (i := 7) (d := some 23) (v := ?_) (by kernel_rfl) rfl rfl HF (fun _ _ _ h => h) (.inl ⟨by rfl, ?_⟩) (by first | assumption | rfl) ?_
      rotate_left
      · intro w hS; try subst hS
        go_simp; try with_reducible rfl
      try simp only [Act.put, List.setIfInBounds_toArray, List.set_cons_zero, List.set_cons_succ]
      refine AnyH.take (i := 8) (d := some 24) (v := ?_) (by kernel_rfl) rfl rfl HF (fun _ _ _ h => h) (.inl ⟨by rfl, ?_⟩) (by first | assumption | rfl) ?_
      rotate_left
      · intro w hS; try subst hS
        go_simp; try with_reducible rfl
      try simp only [Act.put, List.setIfInBounds_toArray, List.set_cons_zero, List.set_cons_succ]
      refine AnyH.done (by kernel_rfl) ?_
      have HBW := Lib.hid (Below.step HB.out B0)
      clear k0 k1 m0 m1 hnq B0
      go_wp2_with fail
      go_roundw
      case rel => exact ⟨j + 1, by omega, by go_num, HBW.out⟩
      case measure => simp [intOf]; omega
    · have hjl : l.length = j := by omega
      have hlt2 : ¬ (j : Int) < (l.length : Int) := by omega
      go_wp2_with fail
      go_ret
      exact ⟨rfl, HB.out⟩
end S
end Go.Proofs.Ytlfodhejpbjfcaa
