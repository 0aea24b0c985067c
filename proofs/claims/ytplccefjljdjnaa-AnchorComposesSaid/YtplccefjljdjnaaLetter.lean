/- The moves: letter. -/
import Derived.Test.YtplccefjljdjnaaPla
import Derived.Test.YtplccefjljdjnaaSearch
import Derived.Test.YtplccefjljdjnaaPatch3
import Derived.Test.YtplccefjljdjnaaCom
set_option linter.unusedVariables false
set_option linter.unusedSimpArgs false
namespace Go.Proofs.Ytplccefjljdjnaa
open Go.RowKit Go.Lib
namespace M
attribute [local go_sem] Oper.semAt_some
def encMv (m : Mv) : List Value := [.int .i64 m.frm, .int .i64 m.to, .int .i64 m.nf, .int .i64 m.nt]
theorem encMv_len (m : Mv) : (encMv m).length = 4 := rfl
theorem encMv_one (m : Mv) : ∀ u ∈ encMv m, u.oneCell' = true := by simp [encMv, Value.oneCell']
abbrev Mvs (B : Nat) (W : World) (v : Value) (L : List Mv) : Prop := SlA B W 109 4 encMv v L
theorem elemMv : Elem Try.prog 94 109 4 32 := elem_of Try.underlying94 (z := .agg #[.int .i64 0, .int .i64 0, .int .i64 0, .int .i64 0]) (by kernel_rfl) rfl (by decide) (by decide)
theorem Mvs.at {B : Nat} {W : World} {v : Value} {L : List Mv} (h : Mvs B W v L) {i : Nat} (hi : i < L.length) :
    ∃ g cap, v = .slice (some ⟨g, 0, none⟩) L.length cap ∧ L.length ≤ cap ∧ cap ≤ maxLen ∧ ∀ (W' : World), Below W.heap.size W W' → ∀ i (hi : i < L.length), W'.cell? ⟨g, i * 4, none⟩ = some (.int .i64 L[i].frm) ∧ W'.cell? ⟨g, i * 4 + 1, none⟩ = some (.int .i64 L[i].to) ∧ W'.cell? ⟨g, i * 4 + 2, none⟩ = some (.int .i64 L[i].nf) ∧ W'.cell? ⟨g, i * 4 + 3, none⟩ = some (.int .i64 L[i].nt) := by
  rcases h.shape with ⟨-, rfl⟩ | ⟨g, cap, rfl, h1, h2⟩
  · simp at hi
  · refine ⟨g, cap, rfl, h1, h2, fun W' hb i hi => ?_⟩
    have h' := h.below hb
    have c := fun (j : Nat) (hj : j < 4) => SlA.cell encMv_len h' hi (j := j) hj
    exact ⟨c 0 (by omega), c 1 (by omega), c 2 (by omega), c 3 (by omega)⟩
def MvC (W : World) (g : Nat) (m : Mv) : Prop := W.heap[g]? = some (.cells #[.int .i64 m.frm, .int .i64 m.to, .int .i64 m.nf, .int .i64 m.nt] 109 (0, 0))
theorem MvC.cells {W : World} {g : Nat} {m : Mv} (h : MvC W g m) : W.cell? ⟨g, 0, none⟩ = some (.int .i64 m.frm) ∧ W.cell? ⟨g, 1, none⟩ = some (.int .i64 m.to) ∧ W.cell? ⟨g, 2, none⟩ = some (.int .i64 m.nf) ∧ W.cell? ⟨g, 3, none⟩ = some (.int .i64 m.nt) := by
  unfold MvC at h
  simp [World.cell?, h]
theorem MvC.free {W : World} {g : Nat} {m : Mv} (h : MvC W g m) (i : Nat) : W.frozen? ⟨g, i, none⟩ = false := by
  unfold MvC at h
  simp [World.frozen?, h]
/-- A box into which a move is laid. -/
theorem newMv (w : World) (m : Mv) : ∃ wz w2, w.alloc (.cells #[.int .i64 0, .int .i64 0, .int .i64 0, .int .i64 0] 109) = wz ∧
    (((wz.setCell ⟨w.heap.size, 0, none⟩ (.int .i64 m.frm)).setCell ⟨w.heap.size, 1, none⟩ (.int .i64 m.to)).setCell ⟨w.heap.size, 2, none⟩ (.int .i64 m.nf)).setCell ⟨w.heap.size, 3, none⟩ (.int .i64 m.nt) = w2 ∧ MvC w2 w.heap.size m ∧ Below w.heap.size w w2 ∧
    (wz.cell? ⟨w.heap.size, 0, none⟩ = some (.int .i64 0) ∧ wz.cell? ⟨w.heap.size, 1, none⟩ = some (.int .i64 0) ∧ wz.cell? ⟨w.heap.size, 2, none⟩ = some (.int .i64 0) ∧ wz.cell? ⟨w.heap.size, 3, none⟩ = some (.int .i64 0)) ∧ (wz.frozen? ⟨w.heap.size, 0, none⟩ = false ∧ wz.frozen? ⟨w.heap.size, 1, none⟩ = false ∧ wz.frozen? ⟨w.heap.size, 2, none⟩ = false ∧ wz.frozen? ⟨w.heap.size, 3, none⟩ = false) := by
  have k0 : MvC (w.alloc (.cells #[.int .i64 0, .int .i64 0, .int .i64 0, .int .i64 0] 109)) w.heap.size ⟨0, 0, 0, 0⟩ := heap_new' _ _
  have b0 : Below w.heap.size w (w.alloc (.cells #[.int .i64 0, .int .i64 0, .int .i64 0, .int .i64 0] 109)) := (Below.refl _ _).alloc (Nat.le_refl _) _
  exact ⟨_, _, rfl, rfl, heap_set0 _ (heap_set0 _ (heap_set0 _ (heap_set0 _ k0))), (((b0.setCell (p := ⟨w.heap.size, 0, none⟩) (Nat.le_refl _) _).setCell (p := ⟨w.heap.size, 1, none⟩) (Nat.le_refl _) _).setCell (p := ⟨w.heap.size, 2, none⟩) (Nat.le_refl _) _).setCell (p := ⟨w.heap.size, 3, none⟩) (Nat.le_refl _) _, k0.cells, k0.free 0, k0.free 1, k0.free 2, k0.free 3⟩
/-- The moves in a box. -/
def MsC (W : World) (g : Nat) (v : Value) (n : Int) : Prop := W.heap[g]? = some (.cells #[v, .int .i64 n] 96 (0, 0))
theorem MsC.cells {W : World} {g : Nat} {v : Value} {n : Int} (h : MsC W g v n) : W.cell? ⟨g, 0, none⟩ = some v ∧ W.cell? ⟨g, 1, none⟩ = some (.int .i64 n) ∧ W.frozen? ⟨g, 0, none⟩ = false ∧ W.frozen? ⟨g, 1, none⟩ = false := by
  unfold MsC at h
  simp [World.cell?, World.frozen?, h]
def ItC (W : World) (g : Nat) (x : Int) : Prop := W.heap[g]? = some (.cells #[.int .i64 x] 3 (0, 0))
theorem ItC.cell {W : World} {g : Nat} {x : Int} (h : ItC W g x) : W.cell? ⟨g, 0, none⟩ = some (.int .i64 x) ∧ W.frozen? ⟨g, 0, none⟩ = false := by
  unfold ItC at h
  simp [World.cell?, World.frozen?, h]
set_option maxRecDepth 100000 in
set_option maxHeartbeats 2000000 in
theorem letter1_any {b0 g g2 : Nat} {W : World} {v : Value} {n x : Int} {M : List Mv} (h1 : MsC W g v n) (h2 : ItC W g2 x) (hM : Mvs b0 W v M) {i : Nat} (hi : i < M.length) :
    Calls Try.prog 84 #[.int .i64 i, .pointer (some ⟨g, 0, none⟩), .pointer (some ⟨g2, 0, none⟩)] W fun e w' => e = .returned (.bool (decide (M[i].frm > x))) ∧ Below W.heap.size W w' := by
  have HF : ∀ f, Fence.wide.fn f := fun _ => trivial
  obtain ⟨gm, cap, rfl, hl1, hl2, hc⟩ := hM.at hi
  have m0 : ∀ w, Below W.heap.size W w → w.cell? ⟨g, 0, none⟩ = some (.slice (some ⟨gm, 0, none⟩) M.length cap) := fun w hw => (MsC.cells (below_block hw h1)).1
  have m1 : ∀ w, Below W.heap.size W w → w.cell? ⟨g2, 0, none⟩ = some (.int .i64 x) := fun w hw => (ItC.cell (below_block hw h2)).1
  have m2 : ∀ w, Below W.heap.size W w → w.cell? ⟨gm, i * 4 + 0, none⟩ = some (.int .i64 M[i].frm) := fun w hw => by
    obtain ⟨a, b, c, d⟩ := hc w hw i hi
    first | exact a | exact c
  try simp only [Nat.add_zero] at m2
  have hi1 : (i : Int) < (M.length : Int) := by omega
  have hi0 : (0 : Int) ≤ (i : Int) := by omega
  generalize M[i].frm = y at *
  clear h1 h2 hM hc
  go_enter Try.func84, Try.ntmps84
  go_wp2_with fail
  refine wp_region_anyH (Below W.heap.size W) (by kernel_rfl) ?_
  have S0 : Below W.heap.size W W.drew := (Below.refl _ _).drew
  refine AnyH.take (i := 0) (d := some 5) (v := ?_) (by kernel_rfl) rfl rfl HF (fun _ _ _ h => h) (.inl ⟨by rfl, ?_⟩) (by first | assumption | rfl) ?_
  rotate_left
  · intro w hS; try subst hS
    go_simp; try with_reducible rfl
  try simp only [Act.put, List.setIfInBounds_toArray, List.set_cons_zero, List.set_cons_succ]
  refine AnyH.take (i := 1) (d := some 6) (v := ?_) (by kernel_rfl) rfl rfl HF (fun _ _ _ h => h) (.inl ⟨by rfl, ?_⟩) (by first | assumption | rfl) ?_
  rotate_left
  · intro w hS; try subst hS
    go_simp; try with_reducible rfl
  try simp only [Act.put, List.setIfInBounds_toArray, List.set_cons_zero, List.set_cons_succ]
  refine AnyH.take (i := 2) (d := some 7) (v := ?_) (by kernel_rfl) rfl rfl HF (fun _ _ _ h => h) (.inl ⟨by rfl, ?_⟩) (by first | assumption | rfl) ?_
  rotate_left
  · intro w hS; try subst hS
    go_simp; try with_reducible rfl
  try simp only [Act.put, List.setIfInBounds_toArray, List.set_cons_zero, List.set_cons_succ]
  refine AnyH.take (i := 3) (d := some 8) (v := ?_) (by kernel_rfl) rfl rfl HF (fun _ _ _ h => h) (.inl ⟨by rfl, ?_⟩) (by first | assumption | rfl) ?_
  rotate_left
  · intro w hS; try subst hS
    go_simp; try with_reducible rfl
  try simp only [Act.put, List.setIfInBounds_toArray, List.set_cons_zero, List.set_cons_succ]
  refine AnyH.take (i := 4) (d := some 9) (v := ?_) (by kernel_rfl) rfl rfl HF (fun _ _ _ h => h) (.inl ⟨by rfl, ?_⟩) (by first | assumption | rfl) ?_
  rotate_left
  · intro w hS; try subst hS
    go_simp; try with_reducible rfl
  try simp only [Act.put, List.setIfInBounds_toArray, List.set_cons_zero, List.set_cons_succ]
  refine AnyH.take (i := 5) (d := some 10) (v := ?_) (by kernel_rfl) rfl rfl HF (fun _ _ _ h => h) (.inl ⟨by rfl, ?_⟩) (by first | assumption | rfl) ?_
  rotate_left
  · intro w hS; try subst hS
    go_simp; try with_reducible rfl
  try simp only [Act.put, List.setIfInBounds_toArray, List.set_cons_zero, List.set_cons_succ]
  refine AnyH.take (i := 6) (d := some 11) (v := ?_) (by kernel_rfl) rfl rfl HF (fun _ _ _ h => h) (.inl ⟨by rfl, ?_⟩) (by first | assumption | rfl) ?_
  rotate_left
  · intro w hS; try subst hS
    go_simp; try with_reducible rfl
  try simp only [Act.put, List.setIfInBounds_toArray, List.set_cons_zero, List.set_cons_succ]
  refine AnyH.take (i := 7) (d := some 12) (v := ?_) (by kernel_rfl) rfl rfl HF (fun _ _ _ h => h) (.inl ⟨by rfl, ?_⟩) (by first | assumption | rfl) ?_
  rotate_left
  · intro w hS; try subst hS
    go_simp; try with_reducible rfl
  try simp only [Act.put, List.setIfInBounds_toArray, List.set_cons_zero, List.set_cons_succ]
  refine AnyH.take (i := 8) (d := some 4) (v := ?_) (by kernel_rfl) rfl rfl HF (fun _ _ _ h => h) (.inl ⟨by rfl, ?_⟩) (by first | assumption | rfl) ?_
  rotate_left
  · intro w hS; try subst hS
    go_simp; try with_reducible rfl
  try simp only [Act.put, List.setIfInBounds_toArray, List.set_cons_zero, List.set_cons_succ]
  refine AnyH.done (by kernel_rfl) ?_
  clear m0 m1 m2
  go_wp2_with fail
  go_ret
  exact ⟨rfl, S0⟩
set_option maxRecDepth 100000 in
set_option maxHeartbeats 2000000 in
theorem back1_any {b0 g g2 : Nat} {W : World} {v : Value} {n x : Int} {M : List Mv} (h1 : MsC W g v n) (h2 : ItC W g2 x) (hM : Mvs b0 W v M) {i : Nat} (hi : i < M.length) :
    Calls Try.prog 49 #[.int .i64 i, .pointer (some ⟨g, 0, none⟩), .pointer (some ⟨g2, 0, none⟩)] W fun e w' => e = .returned (.bool (decide (M[i].nf > x))) ∧ Below W.heap.size W w' := by
  have HF : ∀ f, Fence.wide.fn f := fun _ => trivial
  obtain ⟨gm, cap, rfl, hl1, hl2, hc⟩ := hM.at hi
  have m0 : ∀ w, Below W.heap.size W w → w.cell? ⟨g, 0, none⟩ = some (.slice (some ⟨gm, 0, none⟩) M.length cap) := fun w hw => (MsC.cells (below_block hw h1)).1
  have m1 : ∀ w, Below W.heap.size W w → w.cell? ⟨g2, 0, none⟩ = some (.int .i64 x) := fun w hw => (ItC.cell (below_block hw h2)).1
  have m2 : ∀ w, Below W.heap.size W w → w.cell? ⟨gm, i * 4 + 2, none⟩ = some (.int .i64 M[i].nf) := fun w hw => by
    obtain ⟨a, b, c, d⟩ := hc w hw i hi
    first | exact a | exact c
  try simp only [Nat.add_zero] at m2
  have hi1 : (i : Int) < (M.length : Int) := by omega
  have hi0 : (0 : Int) ≤ (i : Int) := by omega
  generalize M[i].nf = y at *
  clear h1 h2 hM hc
  go_enter Try.func49, Try.ntmps49
  go_wp2_with fail
  refine wp_region_anyH (Below W.heap.size W) (by kernel_rfl) ?_
  have S0 : Below W.heap.size W W.drew := (Below.refl _ _).drew
  refine AnyH.take (i := 0) (d := some 5) (v := ?_) (by kernel_rfl) rfl rfl HF (fun _ _ _ h => h) (.inl ⟨by rfl, ?_⟩) (by first | assumption | rfl) ?_
  rotate_left
  · intro w hS; try subst hS
    go_simp; try with_reducible rfl
  try simp only [Act.put, List.setIfInBounds_toArray, List.set_cons_zero, List.set_cons_succ]
  refine AnyH.take (i := 1) (d := some 6) (v := ?_) (by kernel_rfl) rfl rfl HF (fun _ _ _ h => h) (.inl ⟨by rfl, ?_⟩) (by first | assumption | rfl) ?_
  rotate_left
  · intro w hS; try subst hS
    go_simp; try with_reducible rfl
  try simp only [Act.put, List.setIfInBounds_toArray, List.set_cons_zero, List.set_cons_succ]
  refine AnyH.take (i := 2) (d := some 7) (v := ?_) (by kernel_rfl) rfl rfl HF (fun _ _ _ h => h) (.inl ⟨by rfl, ?_⟩) (by first | assumption | rfl) ?_
  rotate_left
  · intro w hS; try subst hS
    go_simp; try with_reducible rfl
  try simp only [Act.put, List.setIfInBounds_toArray, List.set_cons_zero, List.set_cons_succ]
  refine AnyH.take (i := 3) (d := some 8) (v := ?_) (by kernel_rfl) rfl rfl HF (fun _ _ _ h => h) (.inl ⟨by rfl, ?_⟩) (by first | assumption | rfl) ?_
  rotate_left
  · intro w hS; try subst hS
    go_simp; try with_reducible rfl
  try simp only [Act.put, List.setIfInBounds_toArray, List.set_cons_zero, List.set_cons_succ]
  refine AnyH.take (i := 4) (d := some 9) (v := ?_) (by kernel_rfl) rfl rfl HF (fun _ _ _ h => h) (.inl ⟨by rfl, ?_⟩) (by first | assumption | rfl) ?_
  rotate_left
  · intro w hS; try subst hS
    go_simp; try with_reducible rfl
  try simp only [Act.put, List.setIfInBounds_toArray, List.set_cons_zero, List.set_cons_succ]
  refine AnyH.take (i := 5) (d := some 10) (v := ?_) (by kernel_rfl) rfl rfl HF (fun _ _ _ h => h) (.inl ⟨by rfl, ?_⟩) (by first | assumption | rfl) ?_
  rotate_left
  · intro w hS; try subst hS
    go_simp; try with_reducible rfl
  try simp only [Act.put, List.setIfInBounds_toArray, List.set_cons_zero, List.set_cons_succ]
  refine AnyH.take (i := 6) (d := some 11) (v := ?_) (by kernel_rfl) rfl rfl HF (fun _ _ _ h => h) (.inl ⟨by rfl, ?_⟩) (by first | assumption | rfl) ?_
  rotate_left
  · intro w hS; try subst hS
    go_simp; try with_reducible rfl
  try simp only [Act.put, List.setIfInBounds_toArray, List.set_cons_zero, List.set_cons_succ]
  refine AnyH.take (i := 7) (d := some 12) (v := ?_) (by kernel_rfl) rfl rfl HF (fun _ _ _ h => h) (.inl ⟨by rfl, ?_⟩) (by first | assumption | rfl) ?_
  rotate_left
  · intro w hS; try subst hS
    go_simp; try with_reducible rfl
  try simp only [Act.put, List.setIfInBounds_toArray, List.set_cons_zero, List.set_cons_succ]
  refine AnyH.take (i := 8) (d := some 4) (v := ?_) (by kernel_rfl) rfl rfl HF (fun _ _ _ h => h) (.inl ⟨by rfl, ?_⟩) (by first | assumption | rfl) ?_
  rotate_left
  · intro w hS; try subst hS
    go_simp; try with_reducible rfl
  try simp only [Act.put, List.setIfInBounds_toArray, List.set_cons_zero, List.set_cons_succ]
  refine AnyH.done (by kernel_rfl) ?_
  clear m0 m1 m2
  go_wp2_with fail
  go_ret
  exact ⟨rfl, S0⟩
/-- Whether a move begins behind a letter. -/
def prF (M : List Mv) (x : Int) (i : Nat) : Bool := match M[i]? with | some m => decide (m.frm > x) | none => true
set_option maxRecDepth 100000 in
set_option maxHeartbeats 4000000 in
theorem letter_any' {b0 : Nat} {W : World} {v : Value} {n x : Int} {M : List Mv} (hM : Mvs b0 W v M) (hS : M.Pairwise (fun a b => a.to < b.frm ∧ a.frm ≤ b.frm)) (hl : M.length ≤ 1000000) (hx : 0 ≤ x ∧ x ≤ 1152921504606846976) (hB : ∀ m ∈ M, (-1152921504606846976 ≤ m.to ∧ m.to ≤ 1152921504606846976) ∧ (-2305843009213693952 ≤ m.nt ∧ m.nt ≤ 2305843009213693952)) :
    Calls Try.prog 68 #[.agg #[v, .int .i64 n], .int .i64 x] W fun e w' => e = .returned (.tuple #[.int .i64 (letG 0 M x).1, .int .i64 (letG 0 M x).2.1, .bool (letG 0 M x).2.2]) ∧ Below W.heap.size W w' := by
  have HF : ∀ f, Fence.wide.fn f := fun _ => trivial
  have hmf : ∀ (fn : Fn) (first cap : Array Value) (w : World), (Instr.makeFunc fn first cap).run Try.prog w = .ok (.func fn first cap) w := fun _ _ _ _ => rfl
  obtain ⟨va, vc, rfl⟩ := hM.len
  obtain ⟨W1, hW1⟩ : ∃ w, (W.alloc (.cells #[.slice va M.length vc, .int .i64 n] 96)).alloc (.cells #[.int .i64 x] 3) = w := ⟨_, rfl⟩
  have k1 : MsC W1 W.heap.size (.slice va M.length vc) n := by rw [← hW1]; exact below_block ((Below.refl _ _).alloc (Nat.le_refl _) _) (heap_new' W _)
  have k2 : ItC W1 (W.heap.size + 1) x := by
    rw [← hW1]
    have := heap_new' (W.alloc (.cells #[.slice va M.length vc, .int .i64 n] 96)) (.cells #[.int .i64 x] 3)
    rw [World.size_alloc] at this
    exact this
  have b1 : Below W.heap.size W W1 := by rw [← hW1]; exact ((Below.refl _ W).alloc (Nat.le_refl _) _).alloc (by simp) _
  obtain ⟨c0, c1, -, -⟩ := k1.cells
  obtain ⟨d0, -⟩ := k2.cell
  have HM := Lib.hid (hM.below b1); have K1 := Lib.hid k1; have K2 := Lib.hid k2; have B1 := Lib.hid b1; have HL := Lib.hid hl
  have HPM : Hid (∀ i j, i ≤ j → prF M x i = true → prF M x j = true) := Lib.hid (fun i j hij hp => by
    unfold prF at hp ⊢
    cases hj : M[j]? with
    | none => rfl
    | some mj =>
      have hjl := (List.getElem?_eq_some_iff.1 hj).1
      rw [List.getElem?_eq_getElem (show i < M.length by omega)] at hp
      simp only [decide_eq_true_eq] at hp ⊢
      rcases Nat.lt_or_ge i j with h | h
      · have h1 := (List.pairwise_iff_getElem.1 hS i j (by omega) hjl h).2
        rw [(List.getElem?_eq_some_iff.1 hj).2] at h1
        omega
      · obtain rfl : i = j := by omega
        rw [(List.getElem?_eq_some_iff.1 hj).2] at hp
        exact hp)
  have HSR : Hid (Calls Try.prog 48 #[.int .i64 M.length, .func (.func 84) #[] #[.pointer (some ⟨W.heap.size, 0, none⟩), .pointer (some ⟨W.heap.size + 1, 0, none⟩)]] W1 fun e w' => ∃ k : Nat, e = .returned (.int .i64 k) ∧ k ≤ M.length ∧ (∀ i, i < k → prF M x i = false) ∧ (∀ i, k ≤ i → i < M.length → prF M x i = true) ∧ Below W1.heap.size W1 w') := Lib.hid (by
    refine search_any 84 (fun _ _ => by kernel_rfl) _ _ (fun w => MsC w W.heap.size (.slice va M.length vc) n ∧ ItC w (W.heap.size + 1) x ∧ Mvs b0 w (.slice va M.length vc) M) hl (prF M x) HPM.out ?_ ?_ ⟨k1, k2, HM.out⟩
    · rintro w w' ⟨a, b, c⟩ hb
      exact ⟨below_block hb a, below_block hb b, c.below hb⟩
    · rintro w i ⟨a, b, c⟩ hi
      have := letter1_any a b c hi
      rwa [show decide (M[i].frm > x) = prF M x i by unfold prF; rw [List.getElem?_eq_getElem hi]] at this)
  have HBB := Lib.hid hB
  obtain ⟨res, hres⟩ : ∃ r, letG 0 M x = r := ⟨_, rfl⟩
  have HRS := Lib.hid hres
  rw [hres]
  clear hM hS k1 k2 b1 hB hres
  go_enter Try.func68, Try.ntmps68
  go_wp2_with fail
  refine HSR.out.mono ?_
  rintro e w2 ⟨k, rfl, hk, hlo, hhi, b2⟩
  have K1' := Lib.hid (show MsC w2 W.heap.size (.slice va M.length vc) n from below_block b2 K1.out)
  have K2' := Lib.hid (show ItC w2 (W.heap.size + 1) x from below_block b2 K2.out)
  have HM2 := Lib.hid (HM.out.below b2)
  have B2' := Lib.hid (Below.after B1.out b2)
  have HTW : Hid (M.takeWhile (fun m => decide (m.frm ≤ x)) = M.take k) := Lib.hid (takeWhile_take hk (fun i hi hik => by
    have := hlo i hik
    unfold prF at this
    rw [List.getElem?_eq_getElem hi] at this
    simp only [decide_eq_false_iff_not] at this
    simp only [decide_eq_true_eq]; omega) (fun i hi hik => by
    have := hhi i hik hi
    unfold prF at this
    rw [List.getElem?_eq_getElem hi] at this
    simp only [decide_eq_true_eq] at this
    simp only [decide_eq_false_iff_not]; omega))
  obtain ⟨z0, z1, -, -⟩ := K1'.out.cells
  obtain ⟨y0, yf⟩ := K2'.out.cell
  clear hlo hhi b2 hW1 c0 c1 d0
  have m1 : ∀ w, Below w2.heap.size w2 w → w.cell? ⟨W.heap.size + 1, 0, none⟩ = some (.int .i64 x) := fun w hw => (ItC.cell (below_block hw K2'.out)).1
  rcases Nat.eq_zero_or_pos k with rfl | hk0
  · have HRES : Hid (res = (x, x, true)) := Lib.hid (by rw [← HRS.out]; unfold letG; rw [HTW.out, List.take_zero]; simp)
    go_wp2_with fail
    clear y0 yf z0 z1
    refine wp_region_anyH (Below w2.heap.size w2) (by kernel_rfl) ?_
    have S0 : Below w2.heap.size w2 w2.drew := (Below.refl _ _).drew
    refine AnyH.take (i := 0) (d := some 16) (v := ?_) (by kernel_rfl) rfl rfl HF (fun _ _ _ h => h) (.inl ⟨by rfl, ?_⟩) (by first | assumption | rfl) ?_
    rotate_left
    · intro w hS; try subst hS
      go_simp; try with_reducible rfl
    try simp only [Act.put, List.setIfInBounds_toArray, List.set_cons_zero, List.set_cons_succ]
    refine AnyH.take (i := 1) (d := some 17) (v := ?_) (by kernel_rfl) rfl rfl HF (fun _ _ _ h => h) (.inl ⟨by rfl, ?_⟩) (by first | assumption | rfl) ?_
    rotate_left
    · intro w hS; try subst hS
      go_simp; try with_reducible rfl
    try simp only [Act.put, List.setIfInBounds_toArray, List.set_cons_zero, List.set_cons_succ]
    refine AnyH.take (i := 2) (d := some 4) (v := ?_) (by kernel_rfl) rfl rfl HF (fun _ _ _ h => h) (.inl ⟨by rfl, ?_⟩) (by first | assumption | rfl) ?_
    rotate_left
    · intro w hS; try subst hS
      go_simp; try with_reducible rfl
    try simp only [Act.put, List.setIfInBounds_toArray, List.set_cons_zero, List.set_cons_succ]
    refine AnyH.take (i := 3) (d := some 5) (v := ?_) (by kernel_rfl) rfl rfl HF (fun _ _ _ h => h) (.inl ⟨by rfl, ?_⟩) (by first | assumption | rfl) ?_
    rotate_left
    · intro w hS; try subst hS
      go_simp; try with_reducible rfl
    try simp only [Act.put, List.setIfInBounds_toArray, List.set_cons_zero, List.set_cons_succ]
    refine AnyH.take (i := 4) (d := some 6) (v := ?_) (by kernel_rfl) rfl rfl HF (fun _ _ _ h => h) (.inl ⟨by rfl, ?_⟩) (by first | assumption | rfl) ?_
    rotate_left
    · intro w hS; try subst hS
      go_simp; try with_reducible rfl
    try simp only [Act.put, List.setIfInBounds_toArray, List.set_cons_zero, List.set_cons_succ]
    refine AnyH.done (by kernel_rfl) ?_
    clear m1
    go_wp2_with fail
    go_ret3
    exact ⟨by rw [HRES.out]; rfl, Below.after B2'.out S0⟩
  · have hk1 : k - 1 < M.length := by omega
    obtain ⟨gm, cap, hv, -, -, hc⟩ := Mvs.at HM2.out hk1
    simp only [Value.slice.injEq] at hv
    obtain ⟨rfl, -, rfl⟩ := hv
    obtain ⟨q0, q1, q2, q3⟩ := hc w2 (Below.refl _ _) (k - 1) hk1
    have HRES : Hid (res = if x < M[k - 1].to then (M[k - 1].nf, M[k - 1].nt, false) else (x + (M[k - 1].nt - M[k - 1].to), x + (M[k - 1].nt - M[k - 1].to), true)) := Lib.hid (by
      rw [← HRS.out]
      unfold letG
      have : (M.take k).getLast? = some M[k - 1] := by
        rw [List.getLast?_eq_getElem?, List.length_take, Nat.min_eq_left hk, List.getElem?_take, if_pos (by omega), List.getElem?_eq_getElem hk1]
      rw [HTW.out, this])
    obtain ⟨⟨t1, t2⟩, t3, t4⟩ := HBB.out _ (List.getElem_mem hk1)
    have hkw : IntKind.i64.wrap ((k : Int) - 1) = ((k - 1 : Nat) : Int) := by rw [IntKind.wrap_i64]; have := HL.out; omega
    obtain ⟨j, hj⟩ : ∃ j, k - 1 = j := ⟨_, rfl⟩
    simp only [hj] at hkw q0 q1 q2 q3 HRES t1 t2 t3 t4
    have hjl : (j : Int) < (M.length : Int) := by omega
    have hj0 : (0 : Int) ≤ (j : Int) := by omega
    have hkz : ((k : Int) == 0) = false := by simp; omega
    generalize M[j] = m at *
    have w1 : IntKind.i64.wrap (m.nt - m.to) = m.nt - m.to := by rw [IntKind.wrap_i64]; omega
    have w2' : IntKind.i64.wrap (x + (m.nt - m.to)) = x + (m.nt - m.to) := by rw [IntKind.wrap_i64]; omega
    obtain ⟨wz, w3, hz, hs1, km, bm, ⟨p0, p1, p2, p3⟩, f0, f1, f2, f3⟩ := newMv w2 m
    obtain ⟨gb, hgb⟩ : ∃ g, w2.heap.size = g := ⟨_, rfl⟩
    rw [hgb] at hs1 p0 p1 p2 p3 f0 f1 f2 f3 km
    obtain ⟨o0, o1, o2, o3⟩ := km.cells
    have K3 := Lib.hid (show ItC w3 (W.heap.size + 1) x from below_block bm K2'.out)
    obtain ⟨i0, if0⟩ := K3.out.cell
    have B3 := Lib.hid (Below.after B2'.out bm); have KM := Lib.hid km
    clear hc km bm t1 t2 t3 t4 m1 hk1 hk hj hk0
    by_cases hlt : x < m.to
    · have HRE2 : Hid (res = (m.nf, m.nt, false)) := Lib.hid (by rw [HRES.out, if_pos hlt])
      go_wp2_with fail
      clear hz hs1 p0 p1 p2 p3 f0 f1 f2 f3 q0 q1 q2 q3 y0 yf z0 z1 hgb i0 if0 o0 o1 o2 o3
      have m2 : ∀ w, Below w3.heap.size w3 w → w.cell? ⟨gb, 2, none⟩ = some (.int .i64 m.nf) := fun w hw => (MvC.cells (below_block hw KM.out)).2.2.1
      have m3 : ∀ w, Below w3.heap.size w3 w → w.cell? ⟨gb, 3, none⟩ = some (.int .i64 m.nt) := fun w hw => (MvC.cells (below_block hw KM.out)).2.2.2
      refine wp_region_anyH (Below w3.heap.size w3) (by kernel_rfl) ?_
      have S0 : Below w3.heap.size w3 w3.drew := (Below.refl _ _).drew
      refine AnyH.take (i := 0) (d := some 28) (v := ?_) (by kernel_rfl) rfl rfl HF (fun _ _ _ h => h) (.inl ⟨by rfl, ?_⟩) (by first | assumption | rfl) ?_
      rotate_left
      · intro w hS; try subst hS
        go_simp; try with_reducible rfl
      try simp only [Act.put, List.setIfInBounds_toArray, List.set_cons_zero, List.set_cons_succ]
      refine AnyH.take (i := 1) (d := some 29) (v := ?_) (by kernel_rfl) rfl rfl HF (fun _ _ _ h => h) (.inl ⟨by rfl, ?_⟩) (by first | assumption | rfl) ?_
      rotate_left
      · intro w hS; try subst hS
        go_simp; try with_reducible rfl
      try simp only [Act.put, List.setIfInBounds_toArray, List.set_cons_zero, List.set_cons_succ]
      refine AnyH.take (i := 2) (d := some 30) (v := ?_) (by kernel_rfl) rfl rfl HF (fun _ _ _ h => h) (.inl ⟨by rfl, ?_⟩) (by first | assumption | rfl) ?_
      rotate_left
      · intro w hS; try subst hS
        go_simp; try with_reducible rfl
      try simp only [Act.put, List.setIfInBounds_toArray, List.set_cons_zero, List.set_cons_succ]
      refine AnyH.take (i := 3) (d := some 31) (v := ?_) (by kernel_rfl) rfl rfl HF (fun _ _ _ h => h) (.inl ⟨by rfl, ?_⟩) (by first | assumption | rfl) ?_
      rotate_left
      · intro w hS; try subst hS
        go_simp; try with_reducible rfl
      try simp only [Act.put, List.setIfInBounds_toArray, List.set_cons_zero, List.set_cons_succ]
      refine AnyH.take (i := 4) (d := some 4) (v := ?_) (by kernel_rfl) rfl rfl HF (fun _ _ _ h => h) (.inl ⟨by rfl, ?_⟩) (by first | assumption | rfl) ?_
      rotate_left
      · intro w hS; try subst hS
        go_simp; try with_reducible rfl
      try simp only [Act.put, List.setIfInBounds_toArray, List.set_cons_zero, List.set_cons_succ]
      refine AnyH.take (i := 5) (d := some 5) (v := ?_) (by kernel_rfl) rfl rfl HF (fun _ _ _ h => h) (.inl ⟨by rfl, ?_⟩) (by first | assumption | rfl) ?_
      rotate_left
      · intro w hS; try subst hS
        go_simp; try with_reducible rfl
      try simp only [Act.put, List.setIfInBounds_toArray, List.set_cons_zero, List.set_cons_succ]
      refine AnyH.take (i := 6) (d := some 6) (v := ?_) (by kernel_rfl) rfl rfl HF (fun _ _ _ h => h) (.inl ⟨by rfl, ?_⟩) (by first | assumption | rfl) ?_
      rotate_left
      · intro w hS; try subst hS
        go_simp; try with_reducible rfl
      try simp only [Act.put, List.setIfInBounds_toArray, List.set_cons_zero, List.set_cons_succ]
      refine AnyH.done (by kernel_rfl) ?_
      clear m2 m3
      go_wp2_with fail
      go_ret3
      exact ⟨by rw [HRE2.out]; rfl, Below.after B3.out S0⟩
    · have HRE2 : Hid (res = (x + (m.nt - m.to), x + (m.nt - m.to), true)) := Lib.hid (by rw [HRES.out, if_neg hlt])
      obtain ⟨w4, hw4⟩ : ∃ w, w3.setCell ⟨W.heap.size + 1, 0, none⟩ (.int .i64 (x + (m.nt - m.to))) = w := ⟨_, rfl⟩
      have k4 : ItC w4 (W.heap.size + 1) (x + (m.nt - m.to)) := by
        rw [← hw4]
        have h := K3.out
        unfold ItC at h ⊢
        exact heap_set0 _ h
      have HB4 : Hid (Below W.heap.size W w4) := Lib.hid (by rw [← hw4]; exact B3.out.setCell (p := ⟨W.heap.size + 1, 0, none⟩) (by simp) _)
      have K4 := Lib.hid k4
      clear k4
      go_wp2_with fail
      clear hz hs1 p0 p1 p2 p3 f0 f1 f2 f3 q0 q1 q2 q3 y0 yf z0 z1 hgb i0 if0 o0 o1 o2 o3 hw4
      have m2 : ∀ w, Below w4.heap.size w4 w → w.cell? ⟨W.heap.size + 1, 0, none⟩ = some (.int .i64 (x + (m.nt - m.to))) := fun w hw => (ItC.cell (below_block hw K4.out)).1
      refine wp_region_anyH (Below w4.heap.size w4) (by kernel_rfl) ?_
      have S0 : Below w4.heap.size w4 w4.drew := (Below.refl _ _).drew
      refine AnyH.take (i := 0) (d := some 39) (v := ?_) (by kernel_rfl) rfl rfl HF (fun _ _ _ h => h) (.inl ⟨by rfl, ?_⟩) (by first | assumption | rfl) ?_
      rotate_left
      · intro w hS; try subst hS
        go_simp; try with_reducible rfl
      try simp only [Act.put, List.setIfInBounds_toArray, List.set_cons_zero, List.set_cons_succ]
      refine AnyH.take (i := 1) (d := some 40) (v := ?_) (by kernel_rfl) rfl rfl HF (fun _ _ _ h => h) (.inl ⟨by rfl, ?_⟩) (by first | assumption | rfl) ?_
      rotate_left
      · intro w hS; try subst hS
        go_simp; try with_reducible rfl
      try simp only [Act.put, List.setIfInBounds_toArray, List.set_cons_zero, List.set_cons_succ]
      refine AnyH.take (i := 2) (d := some 4) (v := ?_) (by kernel_rfl) rfl rfl HF (fun _ _ _ h => h) (.inl ⟨by rfl, ?_⟩) (by first | assumption | rfl) ?_
      rotate_left
      · intro w hS; try subst hS
        go_simp; try with_reducible rfl
      try simp only [Act.put, List.setIfInBounds_toArray, List.set_cons_zero, List.set_cons_succ]
      refine AnyH.take (i := 3) (d := some 5) (v := ?_) (by kernel_rfl) rfl rfl HF (fun _ _ _ h => h) (.inl ⟨by rfl, ?_⟩) (by first | assumption | rfl) ?_
      rotate_left
      · intro w hS; try subst hS
        go_simp; try with_reducible rfl
      try simp only [Act.put, List.setIfInBounds_toArray, List.set_cons_zero, List.set_cons_succ]
      refine AnyH.take (i := 4) (d := some 6) (v := ?_) (by kernel_rfl) rfl rfl HF (fun _ _ _ h => h) (.inl ⟨by rfl, ?_⟩) (by first | assumption | rfl) ?_
      rotate_left
      · intro w hS; try subst hS
        go_simp; try with_reducible rfl
      try simp only [Act.put, List.setIfInBounds_toArray, List.set_cons_zero, List.set_cons_succ]
      refine AnyH.done (by kernel_rfl) ?_
      clear m2
      go_wp2_with fail
      go_ret3
      exact ⟨by rw [HRE2.out]; rfl, Below.after HB4.out S0⟩
end M
end Go.Proofs.Ytplccefjljdjnaa
