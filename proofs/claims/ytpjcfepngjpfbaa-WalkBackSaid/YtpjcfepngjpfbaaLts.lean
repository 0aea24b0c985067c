/- walk.Letters, walk.Back: what they return.
walk.Pieces, walk.Rules: what they return.
What walk.Letters returns, as an iterator: whatever the offset. -/
import Derived.Test.YtpjcfepngjpfbaaLetIt
import Derived.Test.YtpjcfepngjpfbaaAw
import Derived.Test.YtpjcfepngjpfbaaLtk
import Derived.Shelf.Abstract
set_option linter.unusedVariables false
set_option linter.unusedSimpArgs false
namespace Go.Proofs.Ytpjcfepngjpfbaa
open Go.RowKit Go.Lib
namespace M
attribute [local go_sem] Oper.semAt_some
theorem newLt (W : World) (B id : Nat) (f : Int) : ∃ w1 w2 w3, W.alloc (.cells #[.pointer (some ⟨B, 0, none⟩)] 23) = w1 ∧ w1.alloc (.cells #[.int .i64 id] 31) = w2 ∧ w2.alloc (.cells #[.int .i64 f] 3) = w3 ∧ w1.heap.size = W.heap.size + 1 ∧ w2.heap.size = W.heap.size + 2 ∧
    (w3.heap[W.heap.size]? = some (.cells #[.pointer (some ⟨B, 0, none⟩)] 23 (0, 0)) ∧ w3.heap[W.heap.size + 1]? = some (.cells #[.int .i64 id] 31 (0, 0)) ∧ w3.heap[W.heap.size + 2]? = some (.cells #[.int .i64 f] 3 (0, 0))) ∧ Below W.heap.size W w3 := by
  obtain ⟨w1, h1⟩ : ∃ w, W.alloc (.cells #[.pointer (some ⟨B, 0, none⟩)] 23) = w := ⟨_, rfl⟩
  obtain ⟨w2, h2⟩ : ∃ w, w1.alloc (.cells #[.int .i64 id] 31) = w := ⟨_, rfl⟩
  obtain ⟨w3, h3⟩ : ∃ w, w2.alloc (.cells #[.int .i64 f] 3) = w := ⟨_, rfl⟩
  have b1 : Below W.heap.size W w1 := by rw [← h1]; exact (Below.refl _ _).alloc (Nat.le_refl _) _
  have b2 : Below w1.heap.size w1 w2 := by rw [← h2]; exact (Below.refl _ _).alloc (Nat.le_refl _) _
  have b3 : Below w2.heap.size w2 w3 := by rw [← h3]; exact (Below.refl _ _).alloc (Nat.le_refl _) _
  have s1 : w1.heap.size = W.heap.size + 1 := by rw [← h1]; simp
  have s2 : w2.heap.size = W.heap.size + 2 := by rw [← h2]; simp [s1]
  have k1 : w1.heap[W.heap.size]? = some (.cells #[.pointer (some ⟨B, 0, none⟩)] 23 (0, 0)) := by rw [← h1]; exact heap_new' _ _
  have k2 : w2.heap[W.heap.size + 1]? = some (.cells #[.int .i64 id] 31 (0, 0)) := by rw [← h2, ← s1]; exact heap_new' _ _
  have k3 : w3.heap[W.heap.size + 2]? = some (.cells #[.int .i64 f] 3 (0, 0)) := by rw [← h3, ← s2]; exact heap_new' _ _
  exact ⟨w1, w2, w3, h1, h2, h3, s1, s2, ⟨below_block b3 (below_block b2 k1), below_block b3 k2, k3⟩, Below.after (Below.after b1 b2) b3⟩
section
variable {n0 B most : Nat} {W : World} {E : List En}
set_option maxRecDepth 100000 in
set_option maxHeartbeats 2000000 in
theorem letters_some (hs : StAt n0 W B most E) (hwf : Wf E) (hE : E.length ≤ 1048576) {id frm : Nat} (hid : id ≤ E.length) (hfr : frm < (txt E id).length) :
    Calls Try.prog 16 #[.pointer (some ⟨B, 0, none⟩), .int .i64 id, .int .i64 frm] W fun e w' => e = .returned (.func (.func 45) #[] #[.pointer (some ⟨W.heap.size, 0, none⟩), .pointer (some ⟨W.heap.size + 1, 0, none⟩), .pointer (some ⟨W.heap.size + 2, 0, none⟩)]) ∧ LtC w' W.heap.size B id frm ∧ Below W.heap.size W w' := by
  obtain ⟨w1, w2, w3, h1, h2, h3, s1, s2, ⟨k1, k2, k3⟩, b3⟩ := newLt W B id frm
  have hlc : LtC w3 W.heap.size B id frm := ⟨k1, k2, k3⟩
  have hl := (hwf.len hid).2
  have HK := Lib.hid (known1_any (hs.below b3) hid hE)
  obtain ⟨c0, c1, c2⟩ := hlc.cells
  have HLC := Lib.hid hlc; have HB := Lib.hid b3
  have hwl : (entAt E id).w.len = (txt E id).length := by rw [(hwf.len hid).1]; rfl
  rw [hwl] at HK
  obtain ⟨n, hn⟩ : ∃ n, (txt E id).length = n := ⟨_, rfl⟩
  rw [hn] at HK hfr
  have e1 : ¬ (frm : Int) < 0 := by omega
  have e2 : ¬ (frm : Int) ≥ (n : Int) := by omega
  have e3 : ¬ (n : Int) ≤ (frm : Int) := by omega
  have e4 : ¬ n ≤ frm := by omega
  clear hs hwf hlc k1 k2 k3 b3 hl hwl hn hfr
  go_enter Try.func16, Try.ntmps16
  go_wp2_with fail
  refine HK.out.mono ?_; rintro e w4 ⟨rfl, b4⟩
  have HL4 := Lib.hid (HLC.out.below b4); have HB4 := Lib.hid (Below.after HB.out b4)
  obtain ⟨d0, d1, d2⟩ := HL4.out.cells
  clear b4 h1 h2 h3 c0 c1 c2
  go_wp2_with fail
  go_ret
  exact ⟨rfl, HL4.out, HB4.out⟩
set_option maxRecDepth 100000 in
set_option maxHeartbeats 2000000 in
theorem back_some (hs : StAt n0 W B most E) (hwf : Wf E) (hE : E.length ≤ 1048576) {id frm : Nat} (hid : id ≤ E.length) (hf0 : 0 < frm) (hfr : frm ≤ (txt E id).length) :
    Calls Try.prog 26 #[.pointer (some ⟨B, 0, none⟩), .int .i64 id, .int .i64 frm] W fun e w' => e = .returned (.func (.func 61) #[] #[.pointer (some ⟨W.heap.size, 0, none⟩), .pointer (some ⟨W.heap.size + 1, 0, none⟩), .pointer (some ⟨W.heap.size + 2, 0, none⟩)]) ∧ LtC w' W.heap.size B id frm ∧ Below W.heap.size W w' := by
  obtain ⟨w1, w2, w3, h1, h2, h3, s1, s2, ⟨k1, k2, k3⟩, b3⟩ := newLt W B id frm
  have hlc : LtC w3 W.heap.size B id frm := ⟨k1, k2, k3⟩
  have hl := (hwf.len hid).2
  have HK := Lib.hid (known1_any (hs.below b3) hid hE)
  obtain ⟨c0, c1, c2⟩ := hlc.cells
  have HLC := Lib.hid hlc; have HB := Lib.hid b3
  have hwl : (entAt E id).w.len = (txt E id).length := by rw [(hwf.len hid).1]; rfl
  rw [hwl] at HK
  obtain ⟨n, hn⟩ : ∃ n, (txt E id).length = n := ⟨_, rfl⟩
  rw [hn] at HK hfr
  have e1 : ¬ (frm : Int) ≤ 0 := by omega
  have e2 : ¬ (frm : Int) > (n : Int) := by omega
  have e3 : ¬ (n : Int) < (frm : Int) := by omega
  have e4 : ¬ n < frm := by omega
  have e5 : ¬ frm = 0 := by omega
  clear hs hwf hlc k1 k2 k3 b3 hl hwl hn hfr hf0
  go_enter Try.func26, Try.ntmps26
  go_wp2_with fail
  refine HK.out.mono ?_; rintro e w4 ⟨rfl, b4⟩
  have HL4 := Lib.hid (HLC.out.below b4); have HB4 := Lib.hid (Below.after HB.out b4)
  obtain ⟨d0, d1, d2⟩ := HL4.out.cells
  clear b4 h1 h2 h3 c0 c1 c2
  go_wp2_with fail
  go_ret
  exact ⟨rfl, HL4.out, HB4.out⟩
set_option maxRecDepth 100000 in
set_option maxHeartbeats 2000000 in
theorem letters_out {W : World} {id : Nat} {n : Int} {ok : Bool} (hk : ∀ w, Below W.heap.size W w → Calls Try.prog 43 #[.pointer (some ⟨B, 0, none⟩), .int .i64 id] w fun e w' => e = .returned (.tuple #[.int .i64 n, .bool ok]) ∧ Below w.heap.size w w') {frm : Int} (hbad : ok = false ∨ (ok = true ∧ frm < 0) ∨ (ok = true ∧ ¬ frm < 0 ∧ frm ≥ n)) :
    Calls Try.prog 16 #[.pointer (some ⟨B, 0, none⟩), .int .i64 id, .int .i64 frm] W fun e w' => e = .returned (.func (.func 44) #[] #[]) ∧ Below W.heap.size W w' := by
  obtain ⟨w1, w2, w3, h1, h2, h3, s1, s2, ⟨k1, k2, k3⟩, b3⟩ := newLt W B id frm
  have HK := Lib.hid (hk _ b3)
  have HC := Lib.hid k3; have HB := Lib.hid b3
  have HC1 := Lib.hid k1; have HC2 := Lib.hid k2
  have c0 : w3.cell? ⟨W.heap.size, 0, none⟩ = some (.pointer (some ⟨B, 0, none⟩)) := by simp [World.cell?, k1]
  have c1 : w3.cell? ⟨W.heap.size + 1, 0, none⟩ = some (.int .i64 id) := by simp [World.cell?, k2]
  clear hk k1 k2 k3 b3
  rcases hbad with rfl | ⟨rfl, e1⟩ | ⟨rfl, e1, e2⟩
  · go_enter Try.func16, Try.ntmps16
    go_wp2_with fail
    refine HK.out.mono ?_; rintro e w4 ⟨rfl, b4⟩
    have HB4 := Lib.hid (Below.after HB.out b4)
    clear b4 h1 h2 h3 c0 c1
    go_wp2_with fail
    go_ret
    exact ⟨rfl, HB4.out⟩
  · go_enter Try.func16, Try.ntmps16
    go_wp2_with fail
    refine HK.out.mono ?_; rintro e w4 ⟨rfl, b4⟩
    have HB4 := Lib.hid (Below.after HB.out b4)
    have d2 : w4.cell? ⟨W.heap.size + 2, 0, none⟩ = some (.int .i64 frm) := by have := below_block b4 HC.out; simp [World.cell?, this]
    clear b4 h1 h2 h3 c0 c1
    go_wp2_with fail
    go_ret
    exact ⟨rfl, HB4.out⟩
  · have e3 : (n : Int) ≤ frm := by omega
    have e4 : ¬ frm < n := by omega
    go_enter Try.func16, Try.ntmps16
    go_wp2_with fail
    refine HK.out.mono ?_; rintro e w4 ⟨rfl, b4⟩
    have HB4 := Lib.hid (Below.after HB.out b4)
    have d2 : w4.cell? ⟨W.heap.size + 2, 0, none⟩ = some (.int .i64 frm) := by have := below_block b4 HC.out; simp [World.cell?, this]
    clear b4 h1 h2 h3 c0 c1
    go_wp2_with fail
    go_ret
    exact ⟨rfl, HB4.out⟩
set_option maxRecDepth 100000 in
set_option maxHeartbeats 2000000 in
theorem back_out {W : World} {id : Nat} {n : Int} {ok : Bool} (hk : ∀ w, Below W.heap.size W w → Calls Try.prog 43 #[.pointer (some ⟨B, 0, none⟩), .int .i64 id] w fun e w' => e = .returned (.tuple #[.int .i64 n, .bool ok]) ∧ Below w.heap.size w w') {frm : Int} (hbad : ok = false ∨ (ok = true ∧ frm ≤ 0) ∨ (ok = true ∧ ¬ frm ≤ 0 ∧ frm > n)) :
    Calls Try.prog 26 #[.pointer (some ⟨B, 0, none⟩), .int .i64 id, .int .i64 frm] W fun e w' => e = .returned (.func (.func 60) #[] #[]) ∧ Below W.heap.size W w' := by
  obtain ⟨w1, w2, w3, h1, h2, h3, s1, s2, ⟨k1, k2, k3⟩, b3⟩ := newLt W B id frm
  have HK := Lib.hid (hk _ b3)
  have HC := Lib.hid k3; have HB := Lib.hid b3
  have HC1 := Lib.hid k1; have HC2 := Lib.hid k2
  have c0 : w3.cell? ⟨W.heap.size, 0, none⟩ = some (.pointer (some ⟨B, 0, none⟩)) := by simp [World.cell?, k1]
  have c1 : w3.cell? ⟨W.heap.size + 1, 0, none⟩ = some (.int .i64 id) := by simp [World.cell?, k2]
  clear hk k1 k2 k3 b3
  rcases hbad with rfl | ⟨rfl, e1⟩ | ⟨rfl, e1, e2⟩
  · go_enter Try.func26, Try.ntmps26
    go_wp2_with fail
    refine HK.out.mono ?_; rintro e w4 ⟨rfl, b4⟩
    have HB4 := Lib.hid (Below.after HB.out b4)
    clear b4 h1 h2 h3 c0 c1
    go_wp2_with fail
    go_ret
    exact ⟨rfl, HB4.out⟩
  · go_enter Try.func26, Try.ntmps26
    go_wp2_with fail
    refine HK.out.mono ?_; rintro e w4 ⟨rfl, b4⟩
    have HB4 := Lib.hid (Below.after HB.out b4)
    have d2 : w4.cell? ⟨W.heap.size + 2, 0, none⟩ = some (.int .i64 frm) := by have := below_block b4 HC.out; simp [World.cell?, this]
    clear b4 h1 h2 h3 c0 c1
    go_wp2_with fail
    go_ret
    exact ⟨rfl, HB4.out⟩
  · have e3 : n < frm := by omega
    have e4 : ¬ frm ≤ n := by omega
    go_enter Try.func26, Try.ntmps26
    go_wp2_with fail
    refine HK.out.mono ?_; rintro e w4 ⟨rfl, b4⟩
    have HB4 := Lib.hid (Below.after HB.out b4)
    have d2 : w4.cell? ⟨W.heap.size + 2, 0, none⟩ = some (.int .i64 frm) := by have := below_block b4 HC.out; simp [World.cell?, this]
    clear b4 h1 h2 h3 c0 c1
    go_wp2_with fail
    go_ret
    exact ⟨rfl, HB4.out⟩
end
end M
end Go.Proofs.Ytpjcfepngjpfbaa
namespace Go.Proofs.Ytpjcfepngjpfbaa
open Go.RowKit Go.Lib
namespace M
attribute [local go_sem] Oper.semAt_some
/-- What the iterator over pieces has captured. -/
structure PcC (W : World) (g B : Nat) (id frm n : Nat) : Prop where
  lt : LtC W g B id frm
  num : W.heap[g + 3]? = some (.cells #[.int .i64 n] 3 (0, 0))
theorem PcC.below {A C : World} {g B id frm n : Nat} (h : PcC A g B id frm n) (hb : Below A.heap.size A C) : PcC C g B id frm n := ⟨h.lt.below hb, below_block hb h.num⟩
theorem PcC.cell {W : World} {g B id frm n : Nat} (h : PcC W g B id frm n) : W.cell? ⟨g + 3, 0, none⟩ = some (.int .i64 n) := by
  have := h.num; simp [World.cell?, this]
/-- What the iterator over rules has captured. -/
structure RlC (W : World) (g B : Nat) (id : Nat) : Prop where
  st : CpB W g B
  id : W.heap[g + 1]? = some (.cells #[.int .i64 id] 31 (0, 0))
theorem RlC.below {A C : World} {g B id : Nat} (h : RlC A g B id) (hb : Below A.heap.size A C) : RlC C g B id := ⟨below_block hb h.st, below_block hb h.id⟩
theorem RlC.cells {W : World} {g B id : Nat} (h : RlC W g B id) : W.cell? ⟨g, 0, none⟩ = some (.pointer (some ⟨B, 0, none⟩)) ∧ W.cell? ⟨g + 1, 0, none⟩ = some (.int .i64 id) := by
  refine ⟨h.st.cell, ?_⟩
  have := h.id; simp [World.cell?, this]
theorem newRl (W : World) (B id : Nat) : ∃ w1 w2, W.alloc (.cells #[.pointer (some ⟨B, 0, none⟩)] 23) = w1 ∧ w1.alloc (.cells #[.int .i64 id] 31) = w2 ∧ w1.heap.size = W.heap.size + 1 ∧ RlC w2 W.heap.size B id ∧ Below W.heap.size W w2 := by
  obtain ⟨w1, h1⟩ : ∃ w, W.alloc (.cells #[.pointer (some ⟨B, 0, none⟩)] 23) = w := ⟨_, rfl⟩
  obtain ⟨w2, h2⟩ : ∃ w, w1.alloc (.cells #[.int .i64 id] 31) = w := ⟨_, rfl⟩
  have b1 : Below W.heap.size W w1 := by rw [← h1]; exact (Below.refl _ _).alloc (Nat.le_refl _) _
  have b2 : Below w1.heap.size w1 w2 := by rw [← h2]; exact (Below.refl _ _).alloc (Nat.le_refl _) _
  have s1 : w1.heap.size = W.heap.size + 1 := by rw [← h1]; simp
  have k1 : w1.heap[W.heap.size]? = some (.cells #[.pointer (some ⟨B, 0, none⟩)] 23 (0, 0)) := by rw [← h1]; exact heap_new' _ _
  have k2 : w2.heap[W.heap.size + 1]? = some (.cells #[.int .i64 id] 31 (0, 0)) := by rw [← h2, ← s1]; exact heap_new' _ _
  exact ⟨w1, w2, h1, h2, s1, ⟨below_block b2 k1, k2⟩, Below.after b1 b2⟩
theorem newPc (W : World) (B id f n : Nat) : ∃ w1 w2 w3 w4, W.alloc (.cells #[.pointer (some ⟨B, 0, none⟩)] 23) = w1 ∧ w1.alloc (.cells #[.int .i64 id] 31) = w2 ∧ w2.alloc (.cells #[.int .i64 f] 3) = w3 ∧ w3.alloc (.cells #[.int .i64 n] 3) = w4 ∧ w1.heap.size = W.heap.size + 1 ∧ w2.heap.size = W.heap.size + 2 ∧ w3.heap.size = W.heap.size + 3 ∧
    PcC w4 W.heap.size B id f n ∧ Below W.heap.size W w4 := by
  obtain ⟨w1, w2, w3, h1, h2, h3, s1, s2, ⟨k1, k2, k3⟩, b3⟩ := newLt W B id f
  obtain ⟨w4, h4⟩ : ∃ w, w3.alloc (.cells #[.int .i64 n] 3) = w := ⟨_, rfl⟩
  have b4 : Below w3.heap.size w3 w4 := by rw [← h4]; exact (Below.refl _ _).alloc (Nat.le_refl _) _
  have s3 : w3.heap.size = W.heap.size + 3 := by rw [← h3]; simp [s2]
  have k4 : w4.heap[W.heap.size + 3]? = some (.cells #[.int .i64 n] 3 (0, 0)) := by rw [← h4, ← s3]; exact heap_new' _ _
  exact ⟨w1, w2, w3, w4, h1, h2, h3, h4, s1, s2, s3, ⟨⟨below_block b4 k1, below_block b4 k2, below_block b4 k3⟩, k4⟩, Below.after b3 b4⟩
section
variable {n0 B most : Nat} {W : World} {E : List En}
set_option maxRecDepth 100000 in
set_option maxHeartbeats 2000000 in
theorem rules_some (hs : StAt n0 W B most E) (hE : E.length ≤ 1048576) {id : Nat} (h0 : 0 < id) (hid : id ≤ E.length) :
    Calls Try.prog 22 #[.pointer (some ⟨B, 0, none⟩), .int .i64 id] W fun e w' => e = .returned (.func (.func 55) #[] #[.pointer (some ⟨W.heap.size + 1, 0, none⟩), .pointer (some ⟨W.heap.size, 0, none⟩)]) ∧ RlC w' W.heap.size B id ∧ Below W.heap.size W w' := by
  obtain ⟨w1, w2, h1, h2, s1, k1, b2⟩ := newRl W B id
  have HK := Lib.hid (known1_any (hs.below b2) hid hE)
  obtain ⟨c0, c1⟩ := k1.cells
  have HLC := Lib.hid k1; have HB := Lib.hid b2
  have e1 : ((id : Int) == 0) = false := by simp; omega
  have e2 : ¬ id = 0 := by omega
  clear hs k1 b2 h0
  go_enter Try.func22, Try.ntmps22
  go_wp2_with fail
  refine HK.out.mono ?_; rintro e w4 ⟨rfl, b4⟩
  have HL4 := Lib.hid (HLC.out.below b4); have HB4 := Lib.hid (Below.after HB.out b4)
  obtain ⟨d0, d1⟩ := HL4.out.cells
  clear b4 h1 h2 c0 c1
  go_wp2_with fail
  go_ret
  exact ⟨rfl, HL4.out, HB4.out⟩
set_option maxRecDepth 100000 in
set_option maxHeartbeats 2000000 in
theorem pieces_some (hs : StAt n0 W B most E) (hwf : Wf E) (hE : E.length ≤ 1048576) {id frm n : Nat} (hid : id ≤ E.length) (hev : (entAt E id).even = true) (hfr : frm + n ≤ (txt E id).length) :
    Calls Try.prog 20 #[.pointer (some ⟨B, 0, none⟩), .int .i64 id, .int .i64 frm, .int .i64 n] W fun e w' => e = .returned (.func (.func 52) #[] #[.pointer (some ⟨W.heap.size, 0, none⟩), .pointer (some ⟨W.heap.size + 1, 0, none⟩), .pointer (some ⟨W.heap.size + 2, 0, none⟩), .pointer (some ⟨W.heap.size + 3, 0, none⟩)]) ∧ PcC w' W.heap.size B id frm n ∧ Below W.heap.size W w' := by
  obtain ⟨w1, w2, w3, w4, h1, h2, h3, h4, s1, s2, s3, k1, b4⟩ := newPc W B id frm n
  have hl := (hwf.len hid).2
  have HK := Lib.hid (known1_any (hs.below b4) hid hE)
  have hwl : (entAt E id).w.len = (txt E id).length := by rw [(hwf.len hid).1]; rfl
  rw [hwl] at HK
  have HBL : Hid (∀ w, Below W.heap.size W w → Calls Try.prog 50 #[.pointer (some ⟨B, 0, none⟩), .int .i64 id] w fun e w' => e = .returned (.tuple #[.bool true, .nilIface]) ∧ Below w.heap.size w w') := Lib.hid (fun w hw => by have := balanced_any (hs.below hw) hid hE; rwa [hev] at this)
  obtain ⟨l, hln⟩ : ∃ n, (txt E id).length = n := ⟨_, rfl⟩
  rw [hln] at HK hfr hl
  have HR : Hid (∀ w, Calls Try.prog 48 #[.int .i64 frm, .int .i64 n, .int .i64 l] w fun e w' => e = .returned .nilIface ∧ w' = w) := Lib.hid (fun w => range_yes w hl hfr)
  obtain ⟨c0, c1, c2⟩ := k1.lt.cells
  have HLC := Lib.hid k1; have HB := Lib.hid b4
  clear hs hwf k1 b4 hl hwl hln hfr hev
  go_enter Try.func20, Try.ntmps20
  go_wp2_with fail
  refine HK.out.mono ?_; rintro e w5 ⟨rfl, b5⟩
  have HL5 := Lib.hid (HLC.out.below b5); have HB5 := Lib.hid (Below.after HB.out b5)
  obtain ⟨d0, d1, d2⟩ := HL5.out.lt.cells
  have d3 := HL5.out.cell
  clear b5 h1 h2 h3 h4 c0 c1 c2
  go_wp2_with fail
  refine (HR.out w5).mono ?_; rintro e w ⟨rfl, h⟩; rw [h]; clear h w
  go_wp2_with fail
  refine (HBL.out w5 HB5.out).mono ?_; rintro e w6 ⟨rfl, b6⟩
  have HL6 := Lib.hid (HL5.out.below b6); have HB6 := Lib.hid (Below.after HB5.out b6)
  clear b6
  go_wp2_with fail
  go_ret
  exact ⟨rfl, HL6.out, HB6.out⟩
end
end M
end Go.Proofs.Ytpjcfepngjpfbaa
namespace Go.Proofs.Ytpjcfepngjpfbaa
open Go.RowKit Go.Lib
theorem KpI.of_others {ts : List TypeId} {M : Nat} {A B : World} (h : ∀ t ∈ ts, KeepT t A B) (k : KeepsOthers A B) : KpI ts M A B := ⟨h, fun _ _ _ _ e => k.same _ _ e rfl⟩
namespace M
attribute [local go_sem] Oper.semAt_some
abbrev encL (x : Nat × Nat) : Array Value := #[.int .i64 x.1, .int .u8 x.2]
/-- An iterator over letters. -/
def SeqL (w : World) (v : Value) (ys : List (Nat × Nat)) : Prop := ∃ gf lb, v = .func (.func gf) #[] lb ∧ Enters Try.prog gf ∧ ∀ n, SeqStopsT Fence.wide n Try.prog gf lb encL (KpI LtK w.heap.size) CpT (fun xs => xs = ys) (fun pre => pre <+: ys) (fun pre x => pre ++ [x] <+: ys) w
/-- An iterator that yields nothing. -/
theorem stops_nil {α : Type} (n : Nat) {gf : FuncId} {encs : α → Array Value} {Kp : World → World → Prop} {ts : List TypeId} {Nx : List α → α → Prop} {w : World} (h : ∀ (l : Nat) (W : World), CallsIn Fence.wide n Try.prog gf #[.func (.yield l) #[] #[]] W fun e W' => (∃ v, e = .returned v) ∧ W' = W) :
    SeqStopsT Fence.wide n Try.prog gf #[] encs Kp ts (fun xs => xs = []) (fun pre => pre <+: []) Nx w := by
  intro l J Jx W hW hJ hJx hY hj0
  refine (h l W).mono ?_
  rintro e W' ⟨h1, rfl⟩
  exact ⟨h1, .inl ⟨[], rfl, hj0⟩⟩
set_option maxRecDepth 100000 in
theorem seqL_nil (w : World) : SeqL w (.func (.func 44) #[] #[]) [] := by
  refine ⟨44, #[], rfl, enters_of Try.func44 (by kernel_rfl) rfl, fun n => stops_nil n fun l W => ?_⟩
  refine callsIn_of_wp Try.func44 rfl trivial ?_ rfl
  simp only [Try.ntmps44, List.size_toArray, List.length_cons, List.length_nil, Nat.reduceAdd, Nat.reduceSub, Array.replicate_succ, Array.replicate_zero, List.push_toArray, List.append_toArray, List.nil_append, List.cons_append]
  gi_wp2_with fail
  go_end0
  exact ⟨⟨_, rfl⟩, rfl⟩
set_option maxRecDepth 100000 in
theorem letters_seq {n0 B most : Nat} {W : World} {E : List En} (hs : StAt n0 W B most E) (hwf : Wf E) (hE : E.length ≤ 1048576) {id frm : Nat} (hid : id ≤ E.length) (hfr : frm ≤ (txt E id).length) :
    Calls Try.prog 16 #[.pointer (some ⟨B, 0, none⟩), .int .i64 id, .int .i64 frm] W fun e w' => ∃ v, e = .returned v ∧ SeqL w' v (lzs ((txt E id).drop frm) frm) ∧ Below W.heap.size W w' := by
  by_cases h : frm < (txt E id).length
  · refine (letters_some hs hwf hE hid h).mono ?_
    rintro e w' ⟨rfl, hl, hb⟩
    refine ⟨_, rfl, ⟨_, _, rfl, enters_of Try.func45 (by kernel_rfl) rfl, fun n => ?_⟩, hb⟩
    have h0 : 0 < id := Nat.pos_of_ne_zero (fun e => by subst e; rw [txt_zero] at h; simp at h)
    have := letters_stops n (M := w'.heap.size) hl (hs.below hb) hwf hE h0 hid h (Nat.le_refl _)
    exact this
  · have he : (txt E id).drop frm = [] := List.drop_of_length_le (by omega)
    rw [he]
    have hw : (entAt E id).w.len = (txt E id).length := by rw [(hwf.len hid).1]; rfl
    refine (letters_out (W := W) (B := B) (id := id) (fun w hw => known1_any (hs.below hw) hid hE) (frm := frm) (.inr (.inr ⟨rfl, by omega, by rw [hw]; omega⟩))).mono ?_
    rintro e w' ⟨rfl, hb⟩
    exact ⟨_, rfl, seqL_nil _, hb⟩
end M
end Go.Proofs.Ytpjcfepngjpfbaa
