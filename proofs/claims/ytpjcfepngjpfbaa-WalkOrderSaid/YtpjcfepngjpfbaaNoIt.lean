/- walk: iterators that yield nothing. -/
import Derived.Test.YtpjcfepngjpfbaaLts
import Derived.Test.YtpjcfepngjpfbaaAcc
import Derived.Test.YtpjcfepngjpfbaaMds
set_option linter.unusedVariables false
set_option linter.unusedSimpArgs false
namespace Go.Proofs.Ytpjcfepngjpfbaa
open Go.RowKit Go.Lib
namespace M
attribute [local go_sem] Oper.semAt_some
/-- A function that yields nothing. -/
def NoSeq (v : Value) : Prop := ∃ gf, v = .func (.func gf) #[] #[] ∧ Enters Try.prog gf ∧ ∀ (n l : Nat) (W : World), CallsIn Fence.wide n Try.prog gf #[.func (.yield l) #[] #[]] W fun e W' => (∃ v, e = .returned v) ∧ W' = W
set_option maxRecDepth 100000 in
theorem noL : NoSeq (.func (.func 44) #[] #[]) := by
  refine ⟨44, rfl, enters_of Try.func44 (by kernel_rfl) rfl, fun n l W => ?_⟩
  refine callsIn_of_wp Try.func44 rfl trivial ?_ rfl
  simp only [Try.ntmps44, List.size_toArray, List.length_cons, List.length_nil, Nat.reduceAdd, Nat.reduceSub, Array.replicate_succ, Array.replicate_zero, List.push_toArray, List.append_toArray, List.nil_append, List.cons_append]
  gi_wp2_with fail
  go_end0
  exact ⟨⟨_, rfl⟩, rfl⟩
set_option maxRecDepth 100000 in
theorem noB : NoSeq (.func (.func 60) #[] #[]) := by
  refine ⟨60, rfl, enters_of Try.func60 (by kernel_rfl) rfl, fun n l W => ?_⟩
  refine callsIn_of_wp Try.func60 rfl trivial ?_ rfl
  simp only [Try.ntmps60, List.size_toArray, List.length_cons, List.length_nil, Nat.reduceAdd, Nat.reduceSub, Array.replicate_succ, Array.replicate_zero, List.push_toArray, List.append_toArray, List.nil_append, List.cons_append]
  gi_wp2_with fail
  go_end0
  exact ⟨⟨_, rfl⟩, rfl⟩
set_option maxRecDepth 100000 in
theorem noP1 : NoSeq (.func (.func 49) #[] #[]) := by
  refine ⟨49, rfl, enters_of Try.func49 (by kernel_rfl) rfl, fun n l W => ?_⟩
  refine callsIn_of_wp Try.func49 rfl trivial ?_ rfl
  simp only [Try.ntmps49, List.size_toArray, List.length_cons, List.length_nil, Nat.reduceAdd, Nat.reduceSub, Array.replicate_succ, Array.replicate_zero, List.push_toArray, List.append_toArray, List.nil_append, List.cons_append]
  gi_wp2_with fail
  go_end0
  exact ⟨⟨_, rfl⟩, rfl⟩
set_option maxRecDepth 100000 in
theorem noP2 : NoSeq (.func (.func 51) #[] #[]) := by
  refine ⟨51, rfl, enters_of Try.func51 (by kernel_rfl) rfl, fun n l W => ?_⟩
  refine callsIn_of_wp Try.func51 rfl trivial ?_ rfl
  simp only [Try.ntmps51, List.size_toArray, List.length_cons, List.length_nil, Nat.reduceAdd, Nat.reduceSub, Array.replicate_succ, Array.replicate_zero, List.push_toArray, List.append_toArray, List.nil_append, List.cons_append]
  gi_wp2_with fail
  go_end0
  exact ⟨⟨_, rfl⟩, rfl⟩
set_option maxRecDepth 100000 in
theorem noR : NoSeq (.func (.func 54) #[] #[]) := by
  refine ⟨54, rfl, enters_of Try.func54 (by kernel_rfl) rfl, fun n l W => ?_⟩
  refine callsIn_of_wp Try.func54 rfl trivial ?_ rfl
  simp only [Try.ntmps54, List.size_toArray, List.length_cons, List.length_nil, Nat.reduceAdd, Nat.reduceSub, Array.replicate_succ, Array.replicate_zero, List.push_toArray, List.append_toArray, List.nil_append, List.cons_append]
  gi_wp2_with fail
  go_end0
  exact ⟨⟨_, rfl⟩, rfl⟩
set_option maxRecDepth 100000 in
set_option maxHeartbeats 1000000 in
theorem known_bad5 {sv : Value} {i : Int} {W : World} (hw : Calls Try.prog 39 #[sv, .int .i64 i] W fun e w' => e = .returned (.tuple #[zeroW, err 5]) ∧ Below W.heap.size W w') :
    Calls Try.prog 43 #[sv, .int .i64 i] W fun e w' => e = .returned (.tuple #[.int .i64 0, .bool false]) ∧ Below W.heap.size W w' := by
  have HF : ∀ f, Fence.wide.fn f := fun _ => trivial
  have HW := Lib.hid hw
  unfold zeroW err at HW
  clear hw
  go_enter Try.func43, Try.ntmps43
  go_wp2_with fail
  refine HW.out.mono ?_; rintro e w1 ⟨rfl, b1⟩
  obtain ⟨wz, w2, hz, hs1, bz, b2, ⟨p0, p1, p2, p3, p4, p5⟩, ⟨q0, q1, q2, q3, q4, q5⟩, x0, x1, x2, x3, x4, x5⟩ := newZw w1
  obtain ⟨gc, hgc⟩ : ∃ g, w1.heap.size = g := ⟨_, rfl⟩
  have HB2 := Lib.hid (Below.after b1 b2)
  rw [hgc] at hs1 p0 p1 p2 p3 p4 p5 q0 q1 q2 q3 q4 q5 x0 x1 x2 x3 x4 x5
  clear b1 bz b2
  go_wp2_with fail
  clear hz hs1 p0 p1 p2 p3 p4 p5 q0 q1 q2 q3 q4 q5 hgc x1 x2 x3 x4 x5
  have m0 : ∀ w, Below w2.heap.size w2 w → w.cell? ⟨gc, 0, none⟩ = some (.int .i64 0) := fun w hw => cell_on3 x0 hw
  refine wp_region_anyH (Below w2.heap.size w2) (by kernel_rfl) ?_
  have S0 : Below w2.heap.size w2 w2.drew := (Below.refl _ _).drew
  refine AnyH.take (i := 0) (d := some 14) (v := ?_) (by kernel_rfl) rfl rfl HF (fun _ _ _ h => h) (.inl ⟨by rfl, ?_⟩) (by first | assumption | rfl) ?_
  rotate_left
  · intro w hS; try subst hS
    go_simp; try with_reducible rfl
  try simp only [Act.put, List.setIfInBounds_toArray, List.set_cons_zero, List.set_cons_succ]
  refine AnyH.take (i := 1) (d := some 15) (v := ?_) (by kernel_rfl) rfl rfl HF (fun _ _ _ h => h) (.inl ⟨by rfl, ?_⟩) (by first | assumption | rfl) ?_
  rotate_left
  · intro w hS; try subst hS
    go_simp; try with_reducible rfl
  try simp only [Act.put, List.setIfInBounds_toArray, List.set_cons_zero, List.set_cons_succ]
  refine AnyH.take (i := 2) (d := some 16) (v := ?_) (by kernel_rfl) rfl rfl HF (fun _ _ _ h => h) (.inl ⟨by rfl, ?_⟩) (by first | assumption | rfl) ?_
  rotate_left
  · intro w hS; try subst hS
    go_simp; try with_reducible rfl
  try simp only [Act.put, List.setIfInBounds_toArray, List.set_cons_zero, List.set_cons_succ]
  refine AnyH.take (i := 3) (d := some 17) (v := ?_) (by kernel_rfl) rfl rfl HF (fun _ _ _ h => h) (.inl ⟨by rfl, ?_⟩) (by first | assumption | rfl) ?_
  rotate_left
  · intro w hS; try subst hS
    go_simp; try with_reducible rfl
  try simp only [Act.put, List.setIfInBounds_toArray, List.set_cons_zero, List.set_cons_succ]
  refine AnyH.take (i := 4) (d := some 4) (v := ?_) (by kernel_rfl) rfl rfl HF (fun _ _ _ h => h) (.inl ⟨by rfl, ?_⟩) (by first | assumption | rfl) ?_
  rotate_left
  · intro w hS; try subst hS
    go_simp; try with_reducible rfl
  try simp only [Act.put, List.setIfInBounds_toArray, List.set_cons_zero, List.set_cons_succ]
  refine AnyH.take (i := 5) (d := some 5) (v := ?_) (by kernel_rfl) rfl rfl HF (fun _ _ _ h => h) (.inl ⟨by rfl, ?_⟩) (by first | assumption | rfl) ?_
  rotate_left
  · intro w hS; try subst hS
    go_simp; try with_reducible rfl
  try simp only [Act.put, List.setIfInBounds_toArray, List.set_cons_zero, List.set_cons_succ]
  refine AnyH.done (by kernel_rfl) ?_
  clear m0 x0
  go_wp2_with fail
  go_ret2
  exact ⟨rfl, Below.after HB2.out S0⟩
set_option maxRecDepth 100000 in
set_option maxHeartbeats 1000000 in
theorem known_bad1 {sv : Value} {i : Int} {W : World} (hw : Calls Try.prog 39 #[sv, .int .i64 i] W fun e w' => e = .returned (.tuple #[zeroW, err 1]) ∧ Below W.heap.size W w') :
    Calls Try.prog 43 #[sv, .int .i64 i] W fun e w' => e = .returned (.tuple #[.int .i64 0, .bool false]) ∧ Below W.heap.size W w' := by
  have HF : ∀ f, Fence.wide.fn f := fun _ => trivial
  have HW := Lib.hid hw
  unfold zeroW err at HW
  clear hw
  go_enter Try.func43, Try.ntmps43
  go_wp2_with fail
  refine HW.out.mono ?_; rintro e w1 ⟨rfl, b1⟩
  obtain ⟨wz, w2, hz, hs1, bz, b2, ⟨p0, p1, p2, p3, p4, p5⟩, ⟨q0, q1, q2, q3, q4, q5⟩, x0, x1, x2, x3, x4, x5⟩ := newZw w1
  obtain ⟨gc, hgc⟩ : ∃ g, w1.heap.size = g := ⟨_, rfl⟩
  have HB2 := Lib.hid (Below.after b1 b2)
  rw [hgc] at hs1 p0 p1 p2 p3 p4 p5 q0 q1 q2 q3 q4 q5 x0 x1 x2 x3 x4 x5
  clear b1 bz b2
  go_wp2_with fail
  clear hz hs1 p0 p1 p2 p3 p4 p5 q0 q1 q2 q3 q4 q5 hgc x1 x2 x3 x4 x5
  have m0 : ∀ w, Below w2.heap.size w2 w → w.cell? ⟨gc, 0, none⟩ = some (.int .i64 0) := fun w hw => cell_on3 x0 hw
  refine wp_region_anyH (Below w2.heap.size w2) (by kernel_rfl) ?_
  have S0 : Below w2.heap.size w2 w2.drew := (Below.refl _ _).drew
  refine AnyH.take (i := 0) (d := some 14) (v := ?_) (by kernel_rfl) rfl rfl HF (fun _ _ _ h => h) (.inl ⟨by rfl, ?_⟩) (by first | assumption | rfl) ?_
  rotate_left
  · intro w hS; try subst hS
    go_simp; try with_reducible rfl
  try simp only [Act.put, List.setIfInBounds_toArray, List.set_cons_zero, List.set_cons_succ]
  refine AnyH.take (i := 1) (d := some 15) (v := ?_) (by kernel_rfl) rfl rfl HF (fun _ _ _ h => h) (.inl ⟨by rfl, ?_⟩) (by first | assumption | rfl) ?_
  rotate_left
  · intro w hS; try subst hS
    go_simp; try with_reducible rfl
  try simp only [Act.put, List.setIfInBounds_toArray, List.set_cons_zero, List.set_cons_succ]
  refine AnyH.take (i := 2) (d := some 16) (v := ?_) (by kernel_rfl) rfl rfl HF (fun _ _ _ h => h) (.inl ⟨by rfl, ?_⟩) (by first | assumption | rfl) ?_
  rotate_left
  · intro w hS; try subst hS
    go_simp; try with_reducible rfl
  try simp only [Act.put, List.setIfInBounds_toArray, List.set_cons_zero, List.set_cons_succ]
  refine AnyH.take (i := 3) (d := some 17) (v := ?_) (by kernel_rfl) rfl rfl HF (fun _ _ _ h => h) (.inl ⟨by rfl, ?_⟩) (by first | assumption | rfl) ?_
  rotate_left
  · intro w hS; try subst hS
    go_simp; try with_reducible rfl
  try simp only [Act.put, List.setIfInBounds_toArray, List.set_cons_zero, List.set_cons_succ]
  refine AnyH.take (i := 4) (d := some 4) (v := ?_) (by kernel_rfl) rfl rfl HF (fun _ _ _ h => h) (.inl ⟨by rfl, ?_⟩) (by first | assumption | rfl) ?_
  rotate_left
  · intro w hS; try subst hS
    go_simp; try with_reducible rfl
  try simp only [Act.put, List.setIfInBounds_toArray, List.set_cons_zero, List.set_cons_succ]
  refine AnyH.take (i := 5) (d := some 5) (v := ?_) (by kernel_rfl) rfl rfl HF (fun _ _ _ h => h) (.inl ⟨by rfl, ?_⟩) (by first | assumption | rfl) ?_
  rotate_left
  · intro w hS; try subst hS
    go_simp; try with_reducible rfl
  try simp only [Act.put, List.setIfInBounds_toArray, List.set_cons_zero, List.set_cons_succ]
  refine AnyH.done (by kernel_rfl) ?_
  clear m0 x0
  go_wp2_with fail
  go_ret2
  exact ⟨rfl, Below.after HB2.out S0⟩
theorem known_nil (W : World) (i : Int) : Calls Try.prog 43 #[.pointer none, .int .i64 i] W fun e w' => e = .returned (.tuple #[.int .i64 0, .bool false]) ∧ Below W.heap.size W w' := known_bad5 (weight_none W i)
theorem known_miss {n0 B most : Nat} {W : World} {E : List En} (h : StAt n0 W B most E) {i : Int} (hi : ¬ (0 ≤ i ∧ i ≤ E.length)) : Calls Try.prog 43 #[.pointer (some ⟨B, 0, none⟩), .int .i64 i] W fun e w' => e = .returned (.tuple #[.int .i64 0, .bool false]) ∧ Below W.heap.size W w' := known_bad1 (weight_miss h hi)
/-- The four boxes of an iterator's arguments, whatever the store. -/
theorem newPv (W : World) (p : Option Addr) (i f n : Int) : ∃ w1 w2 w3 w4, W.alloc (.cells #[.pointer p] 23) = w1 ∧ w1.alloc (.cells #[.int .i64 i] 31) = w2 ∧ w2.alloc (.cells #[.int .i64 f] 3) = w3 ∧ w3.alloc (.cells #[.int .i64 n] 3) = w4 ∧ w1.heap.size = W.heap.size + 1 ∧ w2.heap.size = W.heap.size + 2 ∧ w3.heap.size = W.heap.size + 3 ∧
    (∀ w, Below w2.heap.size w2 w → w.cell? ⟨W.heap.size, 0, none⟩ = some (.pointer p) ∧ w.cell? ⟨W.heap.size + 1, 0, none⟩ = some (.int .i64 i)) ∧ (∀ w, Below w3.heap.size w3 w → w.cell? ⟨W.heap.size + 2, 0, none⟩ = some (.int .i64 f)) ∧ (∀ w, Below w4.heap.size w4 w → w.cell? ⟨W.heap.size + 3, 0, none⟩ = some (.int .i64 n)) ∧ Below W.heap.size W w2 ∧ Below w2.heap.size w2 w3 ∧ Below w3.heap.size w3 w4 := by
  obtain ⟨w1, h1⟩ : ∃ w, W.alloc (.cells #[.pointer p] 23) = w := ⟨_, rfl⟩
  obtain ⟨w2, h2⟩ : ∃ w, w1.alloc (.cells #[.int .i64 i] 31) = w := ⟨_, rfl⟩
  obtain ⟨w3, h3⟩ : ∃ w, w2.alloc (.cells #[.int .i64 f] 3) = w := ⟨_, rfl⟩
  obtain ⟨w4, h4⟩ : ∃ w, w3.alloc (.cells #[.int .i64 n] 3) = w := ⟨_, rfl⟩
  have b1 : Below W.heap.size W w1 := by rw [← h1]; exact (Below.refl _ _).alloc (Nat.le_refl _) _
  have b2 : Below w1.heap.size w1 w2 := by rw [← h2]; exact (Below.refl _ _).alloc (Nat.le_refl _) _
  have b3 : Below w2.heap.size w2 w3 := by rw [← h3]; exact (Below.refl _ _).alloc (Nat.le_refl _) _
  have b4 : Below w3.heap.size w3 w4 := by rw [← h4]; exact (Below.refl _ _).alloc (Nat.le_refl _) _
  have s1 : w1.heap.size = W.heap.size + 1 := by rw [← h1]; simp
  have s2 : w2.heap.size = W.heap.size + 2 := by rw [← h2]; simp [s1]
  have s3 : w3.heap.size = W.heap.size + 3 := by rw [← h3]; simp [s2]
  have k1 : w1.heap[W.heap.size]? = some (.cells #[.pointer p] 23 (0, 0)) := by rw [← h1]; exact heap_new' _ _
  have k2 : w2.heap[W.heap.size + 1]? = some (.cells #[.int .i64 i] 31 (0, 0)) := by rw [← h2, ← s1]; exact heap_new' _ _
  have k3 : w3.heap[W.heap.size + 2]? = some (.cells #[.int .i64 f] 3 (0, 0)) := by rw [← h3, ← s2]; exact heap_new' _ _
  have k4 : w4.heap[W.heap.size + 3]? = some (.cells #[.int .i64 n] 3 (0, 0)) := by rw [← h4, ← s3]; exact heap_new' _ _
  refine ⟨w1, w2, w3, w4, h1, h2, h3, h4, s1, s2, s3, fun w hw => ⟨?_, ?_⟩, fun w hw => ?_, fun w hw => ?_, Below.after b1 b2, b3, b4⟩
  · have := below_block hw (below_block b2 k1); simp [World.cell?, this]
  · have := below_block hw k2; simp [World.cell?, this]
  · have := below_block hw k3; simp [World.cell?, this]
  · have := below_block hw k4; simp [World.cell?, this]
section
variable {W : World} {p : Option Addr} {id : Int}
set_option maxRecDepth 100000 in
set_option maxHeartbeats 2000000 in
theorem lettersV_bad (hk : ∀ w, Below W.heap.size W w → Calls Try.prog 43 #[.pointer p, .int .i64 id] w fun e w' => e = .returned (.tuple #[.int .i64 0, .bool false]) ∧ Below w.heap.size w w') (frm : Int) :
    Calls Try.prog 16 #[.pointer p, .int .i64 id, .int .i64 frm] W fun e w' => ∃ v, e = .returned v ∧ NoSeq v ∧ Below W.heap.size W w' := by
  obtain ⟨w1, w2, w3, w4, h1, h2, h3, -, s1, s2, -, hc, hd, -, b2, b3, -⟩ := newPv W p id frm 0
  have HK := Lib.hid (hk _ (Below.after b2 b3))
  obtain ⟨c0, c1⟩ := hc _ b3
  have HB := Lib.hid (Below.after b2 b3)
  clear hk hc hd b2 b3
  go_enter Try.func16, Try.ntmps16
  go_wp2_with fail
  refine HK.out.mono ?_; rintro e w5 ⟨rfl, b5⟩
  have HB4 := Lib.hid (Below.after HB.out b5)
  clear b5 h1 h2 h3 c0 c1
  go_wp2_with fail
  go_ret
  exact ⟨_, rfl, noL, HB4.out⟩
set_option maxRecDepth 100000 in
set_option maxHeartbeats 2000000 in
theorem backV_bad (hk : ∀ w, Below W.heap.size W w → Calls Try.prog 43 #[.pointer p, .int .i64 id] w fun e w' => e = .returned (.tuple #[.int .i64 0, .bool false]) ∧ Below w.heap.size w w') (frm : Int) :
    Calls Try.prog 26 #[.pointer p, .int .i64 id, .int .i64 frm] W fun e w' => ∃ v, e = .returned v ∧ NoSeq v ∧ Below W.heap.size W w' := by
  obtain ⟨w1, w2, w3, w4, h1, h2, h3, -, s1, s2, -, hc, hd, -, b2, b3, -⟩ := newPv W p id frm 0
  have HK := Lib.hid (hk _ (Below.after b2 b3))
  obtain ⟨c0, c1⟩ := hc _ b3
  have HB := Lib.hid (Below.after b2 b3)
  clear hk hc hd b2 b3
  go_enter Try.func26, Try.ntmps26
  go_wp2_with fail
  refine HK.out.mono ?_; rintro e w5 ⟨rfl, b5⟩
  have HB4 := Lib.hid (Below.after HB.out b5)
  clear b5 h1 h2 h3 c0 c1
  go_wp2_with fail
  go_ret
  exact ⟨_, rfl, noB, HB4.out⟩
set_option maxRecDepth 100000 in
set_option maxHeartbeats 2000000 in
theorem piecesV_bad (hk : ∀ w, Below W.heap.size W w → Calls Try.prog 43 #[.pointer p, .int .i64 id] w fun e w' => e = .returned (.tuple #[.int .i64 0, .bool false]) ∧ Below w.heap.size w w') (frm n : Int) :
    Calls Try.prog 20 #[.pointer p, .int .i64 id, .int .i64 frm, .int .i64 n] W fun e w' => ∃ v, e = .returned v ∧ NoSeq v ∧ Below W.heap.size W w' := by
  obtain ⟨w1, w2, w3, w4, h1, h2, h3, h4, s1, s2, s3, hc, hd, he, b2, b3, b4⟩ := newPv W p id frm n
  have HK := Lib.hid (hk _ (Below.after b2 (Below.after b3 b4)))
  obtain ⟨c0, c1⟩ := hc _ (Below.after b3 b4)
  have HB := Lib.hid (Below.after b2 (Below.after b3 b4))
  clear hk hc hd he b2 b3 b4
  go_enter Try.func20, Try.ntmps20
  go_wp2_with fail
  refine HK.out.mono ?_; rintro e w5 ⟨rfl, b5⟩
  have HB4 := Lib.hid (Below.after HB.out b5)
  clear b5 h1 h2 h3 h4 c0 c1
  go_wp2_with fail
  go_ret
  exact ⟨_, rfl, noP1, HB4.out⟩
set_option maxRecDepth 100000 in
set_option maxHeartbeats 2000000 in
theorem rulesV_bad (hk : ∀ w, Below W.heap.size W w → Calls Try.prog 43 #[.pointer p, .int .i64 id] w fun e w' => e = .returned (.tuple #[.int .i64 0, .bool false]) ∧ Below w.heap.size w w') :
    Calls Try.prog 22 #[.pointer p, .int .i64 id] W fun e w' => ∃ v, e = .returned v ∧ NoSeq v ∧ Below W.heap.size W w' := by
  obtain ⟨w1, w2, w3, w4, h1, h2, -, -, s1, -, -, hc, -, -, b2, -, -⟩ := newPv W p id 0 0
  have HK := Lib.hid (hk _ b2)
  obtain ⟨c0, c1⟩ := hc _ (Below.refl _ _)
  have HB := Lib.hid b2
  clear hk hc b2
  go_enter Try.func22, Try.ntmps22
  go_wp2_with fail
  refine HK.out.mono ?_; rintro e w5 ⟨rfl, b5⟩
  have HB4 := Lib.hid (Below.after HB.out b5)
  clear b5 h1 h2 c0 c1
  go_wp2_with fail
  go_ret
  exact ⟨_, rfl, noR, HB4.out⟩
end
set_option maxRecDepth 100000 in
theorem range_no (W : World) {f : Int} {l : Nat} (hl : l ≤ 1152921504606846976) (h : f < 0 ∨ (l : Int) < f) : Calls Try.prog 48 #[.int .i64 f, .int .i64 1, .int .i64 l] W fun e w' => (∃ c, e = .returned (.iface 120 (.int .i64 c))) ∧ w' = W := by
  have HV := Lib.hid (valid_yes W hl)
  rcases h with h1 | h1
  · go_enter Try.func48, Try.ntmps48
    go_wp2_with fail
    refine HV.out.mono ?_; rintro e w ⟨rfl, h⟩; rw [h]; clear h w
    go_wp2_with fail
    go_ret
    exact ⟨⟨_, rfl⟩, rfl⟩
  · have h2 : ¬ f < 0 := by omega
    go_enter Try.func48, Try.ntmps48
    go_wp2_with fail
    refine HV.out.mono ?_; rintro e w ⟨rfl, h⟩; rw [h]; clear h w
    go_wp2_with fail
    go_ret
    exact ⟨⟨_, rfl⟩, rfl⟩
section
variable {n0 B most : Nat} {W : World} {E : List En}
set_option maxRecDepth 100000 in
set_option maxHeartbeats 2000000 in
/-- Pieces outside the text. -/
theorem pieces_off (hs : StAt n0 W B most E) (hwf : Wf E) (hE : E.length ≤ 1048576) {id : Nat} {frm : Int} (hid : id ≤ E.length) (hfr : frm < 0 ∨ ((txt E id).length : Int) < frm) :
    Calls Try.prog 20 #[.pointer (some ⟨B, 0, none⟩), .int .i64 id, .int .i64 frm, .int .i64 1] W fun e w' => ∃ v, e = .returned v ∧ NoSeq v ∧ Below W.heap.size W w' := by
  obtain ⟨w1, w2, w3, w4, h1, h2, h3, h4, s1, s2, s3, hc, hd, he, b2, b3, b4⟩ := newPv W (some ⟨B, 0, none⟩) id frm 1
  have hl := (hwf.len hid).2
  have HB := Lib.hid (Below.after b2 (Below.after b3 b4))
  have HK := Lib.hid (known1_any (hs.below HB.out) hid hE)
  have hwl : (entAt E id).w.len = (txt E id).length := by rw [(hwf.len hid).1]; rfl
  rw [hwl] at HK
  obtain ⟨l, hln⟩ : ∃ n, (txt E id).length = n := ⟨_, rfl⟩
  rw [hln] at HK hfr hl
  have HR := Lib.hid (fun w => range_no w hl hfr)
  obtain ⟨c0, c1⟩ := hc _ (Below.after b3 b4)
  have HC2 := Lib.hid (fun w hw => hd w (Below.after b4 hw)); have HC3 := Lib.hid he
  clear hs hwf hl hwl hln hfr hc hd he b2 b3 b4
  go_enter Try.func20, Try.ntmps20
  go_wp2_with fail
  refine HK.out.mono ?_; rintro e w5 ⟨rfl, b5⟩
  have HB5 := Lib.hid (Below.after HB.out b5)
  have d2 := HC2.out _ b5
  have d3 := HC3.out _ b5
  clear b5 h1 h2 h3 h4 c0 c1
  go_wp2_with fail
  refine (HR.out w5).mono ?_; rintro e w ⟨⟨c, rfl⟩, h⟩; rw [h]; clear h w
  go_wp2_with fail
  go_ret
  exact ⟨_, rfl, noP1, HB5.out⟩
set_option maxRecDepth 100000 in
set_option maxHeartbeats 2000000 in
/-- Pieces of what is not balanced. -/
theorem pieces_odd (hs : StAt n0 W B most E) (hwf : Wf E) (hE : E.length ≤ 1048576) {id frm n : Nat} (hid : id ≤ E.length) (hev : (entAt E id).even = false) (hfr : frm + n ≤ (txt E id).length) :
    Calls Try.prog 20 #[.pointer (some ⟨B, 0, none⟩), .int .i64 id, .int .i64 frm, .int .i64 n] W fun e w' => ∃ v, e = .returned v ∧ NoSeq v ∧ Below W.heap.size W w' := by
  obtain ⟨w1, w2, w3, w4, h1, h2, h3, h4, s1, s2, s3, k1, b4⟩ := newPc W B id frm n
  have hl := (hwf.len hid).2
  have HK := Lib.hid (known1_any (hs.below b4) hid hE)
  have hwl : (entAt E id).w.len = (txt E id).length := by rw [(hwf.len hid).1]; rfl
  rw [hwl] at HK
  have HBL : Hid (∀ w, Below W.heap.size W w → Calls Try.prog 50 #[.pointer (some ⟨B, 0, none⟩), .int .i64 id] w fun e w' => e = .returned (.tuple #[.bool false, .nilIface]) ∧ Below w.heap.size w w') := Lib.hid (fun w hw => by have := balanced_any (hs.below hw) hid hE; rwa [hev] at this)
  obtain ⟨l, hln⟩ : ∃ n, (txt E id).length = n := ⟨_, rfl⟩
  rw [hln] at HK hfr hl
  have HR : Hid (∀ w, Calls Try.prog 48 #[.int .i64 frm, .int .i64 n, .int .i64 l] w fun e w' => e = .returned .nilIface ∧ w' = w) := Lib.hid (fun w => range_yes w hl hfr)
  obtain ⟨c0, c1, c2⟩ := k1.lt.cells
  have HLC := Lib.hid k1; have HB := Lib.hid b4
  clear hs hwf k1 b4 hl hwl hln hfr hev
  go_enter Try.func20, Try.ntmps20
  go_wp2_with fail
  refine HK.out.mono ?_; rintro e w5 ⟨rfl, b5⟩
  have HL5 := Lib.hid (HLC.out.below b5); have HB5 := Lib.hid (Below.after HB.out b5)
  obtain ⟨d0, d1, d2⟩ := HL5.out.lt.cells
  have d3 := HL5.out.cell
  clear b5 h1 h2 h3 h4 c0 c1 c2
  go_wp2_with fail
  refine (HR.out w5).mono ?_; rintro e w ⟨rfl, h⟩; rw [h]; clear h w
  go_wp2_with fail
  refine (HBL.out w5 HB5.out).mono ?_; rintro e w6 ⟨rfl, b6⟩
  have HB6 := Lib.hid (Below.after HB5.out b6)
  clear b6
  go_wp2_with fail
  go_ret
  exact ⟨_, rfl, noP2, HB6.out⟩
end
end M
end Go.Proofs.Ytpjcfepngjpfbaa
