/- The box: its block, the committed version. -/
import Derived.Test.YtlfodhejpbjfcaaLocks
import Derived.Test.YtlfodhejpbjfcaaDropsd
import Derived.Test.YtlfodhejpbjfcaaGoMaps
import Derived.Test.YtlfodhejpbjfcaaBut
import Derived.Outline
namespace Go.Proofs.Ytlfodhejpbjfcaa
open Go.RowKit Go.MuLone
namespace S
attribute [local go_sem] Oper.semAt_some

theorem valid_any (W : World) (s : ByteArray) (hs : s.size ≤ 9223372036854775807) :
    Calls Try.prog 55 #[.string s] W fun e w' => e = .returned (.bool (decide (1 ≤ s.size ∧ s.size ≤ 32))) ∧ w' = W := by
  by_cases h1 : 1 ≤ s.size
  · have h1i : (1 : Int) ≤ (s.size : Int) := by omega
    by_cases h2 : s.size ≤ 32
    · have h2i : (s.size : Int) ≤ 32 := by omega
      go_enter Try.func55, Try.ntmps55
      go_wp2_with fail
      go_ret
      exact ⟨congrArg (fun b => Ending.returned (Value.bool b)) (by simp [h1, h2]), rfl⟩
    · have h2i : ¬ (s.size : Int) ≤ 32 := by omega
      go_enter Try.func55, Try.ntmps55
      go_wp2_with fail
      go_ret
      exact ⟨congrArg (fun b => Ending.returned (Value.bool b)) (by simp [h2]; try omega), rfl⟩
  · have h1i : ¬ (1 : Int) ≤ (s.size : Int) := by omega
    go_enter Try.func55, Try.ntmps55
    go_wp2_with fail
    go_ret
    exact ⟨congrArg (fun b => Ending.returned (Value.bool b)) (by simp [h1]; try omega), rfl⟩

/-- The box's block; l: the lock's state. -/
def BoxC (W : World) (b : Nat) (l n : Int) (q : Option Addr) (m : Nat) : Prop := W.heap[b]? = some (.cells #[.int .i32 l, .int .u32 0, .int .i64 n, .pointer q, .map (some m)] 158 (0, 0))
section
variable {W : World} {b m : Nat} {l n : Int} {q : Option Addr}
theorem BoxC.cells (h : BoxC W b l n q m) : W.cell? ⟨b, 0, none⟩ = some (.int .i32 l) ∧ W.cell? ⟨b, 2, none⟩ = some (.int .i64 n) ∧ W.cell? ⟨b, 3, none⟩ = some (.pointer q) ∧ W.cell? ⟨b, 4, none⟩ = some (.map (some m)) ∧ W.frozen? ⟨b, 0, none⟩ = false ∧ W.frozen? ⟨b, 2, none⟩ = false ∧ W.frozen? ⟨b, 3, none⟩ = false ∧ W.frozen? ⟨b, 4, none⟩ = false := by
  unfold BoxC at h
  simp [World.cell?, World.frozen?, h]
theorem heap_set0 {W : World} {g : Nat} {cs : Array Value} {t : TypeId} {i : Nat} (v : Value) (h : W.heap[g]? = some (.cells cs t (0, 0))) : (W.setCell ⟨g, i, none⟩ v).heap[g]? = some (.cells (cs.setIfInBounds i v) t (0, 0)) := by
  obtain ⟨hlt, hk⟩ := Array.getElem?_eq_some_iff.1 h
  show (W.heap.modify g _)[g]? = _
  rw [Array.getElem?_eq_getElem (by rw [Array.size_modify]; exact hlt), Array.getElem_modify_self, hk]
  rfl
theorem BoxC.lock (h : BoxC W b l n q m) (l' : Int) : BoxC (W.setCell ⟨b, 0, none⟩ (.int .i32 l')) b l' n q m := by
  unfold BoxC at h ⊢
  rw [heap_set0 _ h]; rfl
theorem BoxC.other (h : BoxC W b l n q m) {a : Addr} (v : Value) (ha : b ≠ a.block) : BoxC (W.setCell a v) b l n q m := by
  unfold BoxC at h ⊢
  rw [Below.heap_setCell _ _ _ _ ha]; exact h
end
/-- A version in a box of its own. -/
def VerC (W : World) (g : Nat) (n : Int) (q : Option Addr) : Prop := W.heap[g]? = some (.cells #[.int .i64 n, .pointer q] 112 (0, 0))
section
variable {W : World} {g : Nat} {n : Int} {q : Option Addr}
theorem VerC.cells (h : VerC W g n q) : W.cell? ⟨g, 0, none⟩ = some (.int .i64 n) ∧ W.cell? ⟨g, 1, none⟩ = some (.pointer q) ∧ W.frozen? ⟨g, 0, none⟩ = false ∧ W.frozen? ⟨g, 1, none⟩ = false := by
  unfold VerC at h
  simp [World.cell?, World.frozen?, h]
theorem VerC.put (h : VerC W g n q) (n' : Int) (q' : Option Addr) : VerC ((W.setCell ⟨g, 0, none⟩ (.int .i64 n')).setCell ⟨g, 1, none⟩ (.pointer q')) g n' q' := by
  unfold VerC at h ⊢
  rw [heap_set0 _ (heap_set0 _ h)]; rfl
theorem VerC.other (h : VerC W g n q) {a : Addr} (v : Value) (ha : g ≠ a.block) : VerC (W.setCell a v) g n q := by
  unfold VerC at h ⊢
  rw [Below.heap_setCell _ _ _ _ ha]; exact h
end

set_option maxRecDepth 100000 in
set_option maxHeartbeats 1000000 in
theorem committed_any {W : World} {b m : Nat} {n : Int} {q : Option Addr} (h : BoxC W b 0 n q m) :
    Calls Try.prog 40 #[.pointer (some ⟨b, 0, none⟩)] W fun e w' => e = .returned (.agg #[.int .i64 n, .pointer q]) ∧ Below W.heap.size W w' := by
  have hbl : b < W.heap.size := (Array.getElem?_eq_some_iff.1 h).1
  obtain ⟨W0, hW0⟩ : ∃ W0, W.alloc (.cells #[.int .i64 0, .pointer none] 112) = W0 := ⟨_, rfl⟩
  have hb0 : Below W.heap.size W W0 := by rw [← hW0]; exact (Below.refl _ W).alloc (Nat.le_refl _) _
  have h0 : BoxC W0 b 0 n q m := box_below hb0 h
  have v0 : VerC W0 W.heap.size 0 none := by rw [← hW0]; exact heap_new _ _
  obtain ⟨c0, -, -, -, f0, -⟩ := h0.cells
  have H1 := Lib.hid (h0.lock 1); have V1 := Lib.hid (v0.other (a := ⟨b, 0, none⟩) (.int .i32 1) (by simp; omega)); have B1 := Lib.hid ((BC.of (C := b) hb0).set (p := ⟨b, 0, none⟩) (.inr rfl) (.int .i32 1))
  have HH := Lib.hid h
  clear h h0 v0 hb0
  go_enter_defers Try.func40, Try.ntmps40
  go_wp2_with fail
  refine (lock_free muLib ⟨b, 0, none⟩ _ c0 f0).mono ?_; rintro e w1 ⟨rfl, rfl⟩
  clear c0 f0 hW0
  obtain ⟨W1, hW1⟩ : ∃ W1, W0.setCell ⟨b, 0, none⟩ (.int .i32 1) = W1 := ⟨_, rfl⟩
  rw [hW1] at H1 V1 B1 ⊢
  clear hW1
  obtain ⟨-, c2, c3, -⟩ := H1.out.cells
  obtain ⟨v0, v1, g0, g1⟩ := V1.out.cells
  have V2 := Lib.hid (V1.out.put n q); have H2 := Lib.hid ((H1.out.other (a := ⟨W.heap.size, 0, none⟩) (.int .i64 n) (by simp; omega)).other (a := ⟨W.heap.size, 1, none⟩) (.pointer q) (by simp; omega)); have B2 := Lib.hid ((B1.out.set (p := ⟨W.heap.size, 0, none⟩) (.inl (by simp)) (.int .i64 n)).set (p := ⟨W.heap.size, 1, none⟩) (.inl (by simp)) (.pointer q))
  go_wp2_with fail
  obtain ⟨d0, -, -, -, e0, -⟩ := H2.out.cells
  refine leaves_cons (f := 60) (args := #[.pointer (some ⟨b, 0, none⟩)]) (by simp) (by simp [go_sem]) ?_
  refine (unlock_deferred muLib ⟨b, 0, none⟩ _ _ d0 e0).mono ?_
  rintro e u' w'' ⟨rfl, rfl, rfl⟩
  have H3 := H2.out.lock 0
  obtain ⟨t0, t1, -, -⟩ := (V2.out.other (a := ⟨b, 0, none⟩) (.int .i32 0) (by simp; omega)).cells
  have hB := (B2.out.set (p := ⟨b, 0, none⟩) (.inr rfl) (.int .i32 0)).close (H3.trans HH.out.symm)
  simp only [Leaves, settle, results, Try.results40]
  simp [go_sem, t0, t1]
  exact hB

/-- A transaction's block. -/
def TxnC (W : World) (t b : Nat) (n : Int) (q : Option Addr) (r c : Nat) (done : Bool) : Prop := W.heap[t]? = some (.cells #[.pointer (some ⟨b, 0, none⟩), .int .i64 n, .pointer q, .map (some r), .map (some c), .bool done] 120 (0, 0))
section
variable {W : World} {t b r c : Nat} {n : Int} {q : Option Addr} {done : Bool}
theorem TxnC.cells (h : TxnC W t b n q r c done) : W.cell? ⟨t, 0, none⟩ = some (.pointer (some ⟨b, 0, none⟩)) ∧ W.cell? ⟨t, 1, none⟩ = some (.int .i64 n) ∧ W.cell? ⟨t, 2, none⟩ = some (.pointer q) ∧ W.cell? ⟨t, 3, none⟩ = some (.map (some r)) ∧ W.cell? ⟨t, 4, none⟩ = some (.map (some c)) ∧ W.cell? ⟨t, 5, none⟩ = some (.bool done) ∧ W.frozen? ⟨t, 5, none⟩ = false := by
  unfold TxnC at h
  simp [World.cell?, World.frozen?, h]
theorem TxnC.finish (h : TxnC W t b n q r c done) (d : Bool) : TxnC (W.setCell ⟨t, 5, none⟩ (.bool d)) t b n q r c d := by
  unfold TxnC at h ⊢
  rw [heap_set0 _ h]; rfl
end
def evc (x : Int × Bool) : Value := .agg #[.int .i64 x.1, .bool x.2]

set_option maxRecDepth 100000 in
set_option maxHeartbeats 1000000 in
theorem begin_any {W : World} (b : Nat) (n : Int) (q : Option Addr) :
    Calls Try.prog 42 #[.pointer (some ⟨b, 0, none⟩), .agg #[.int .i64 n, .pointer q]] W fun e w' => ∃ t r c, e = .returned (.pointer (some ⟨t, 0, none⟩)) ∧ W.heap.size ≤ t ∧ W.heap.size ≤ r ∧ W.heap.size ≤ c ∧ r ≠ c ∧ TxnC w' t b n q r c false ∧ MapAt Value.bool w' r [] ∧ MapAt evc w' c [] ∧ Below W.heap.size W w' := by
  have hmm := @run_makeMap Try.prog
  go_enter Try.func42, Try.ntmps42
  go_wp2_with fail
  go_ret
  refine ⟨W.heap.size + 1 + 1 + 1, W.heap.size + 1, W.heap.size + 1 + 1, rfl, by omega, by omega, by omega, by omega, ?_, ?_, ?_, ?_⟩
  · have := heap_new (((W.alloc (.cells #[.int .i64 n, .pointer q] 112)).alloc (.map #[] 0)).alloc (.map #[] 0)) (.cells #[.pointer (some ⟨b, 0, none⟩), .int .i64 n, .pointer q, .map (some (W.heap.size + 1)), .map (some (W.heap.size + 1 + 1)), .bool false] 120)
    simp only [World.size_alloc] at this
    exact this
  · have h := MapAt.made Value.bool (W.alloc (.cells #[.int .i64 n, .pointer q] 112))
    rw [World.size_alloc] at h
    exact (h.below ((Below.refl _ _).alloc (Nat.le_refl _) _)).below ((Below.refl _ _).alloc (Nat.le_refl _) _)
  · have h := MapAt.made evc ((W.alloc (.cells #[.int .i64 n, .pointer q] 112)).alloc (.map #[] 0))
    rw [World.size_alloc, World.size_alloc] at h
    exact h.below ((Below.refl _ _).alloc (Nat.le_refl _) _)
  · exact ((((Below.refl _ W).alloc (Nat.le_refl _) _).alloc (by simp) _).alloc (by simp; omega) _).alloc (by simp; omega) _

set_option maxRecDepth 100000 in
set_option maxHeartbeats 1000000 in
theorem Begin_any {W : World} {b m : Nat} {n : Int} {q : Option Addr} (h : BoxC W b 0 n q m) :
    Calls Try.prog 16 #[.pointer (some ⟨b, 0, none⟩)] W fun e w' => ∃ t r c, e = .returned (.pointer (some ⟨t, 0, none⟩)) ∧ W.heap.size ≤ t ∧ W.heap.size ≤ r ∧ W.heap.size ≤ c ∧ r ≠ c ∧ TxnC w' t b n q r c false ∧ MapAt Value.bool w' r [] ∧ MapAt evc w' c [] ∧ Below W.heap.size W w' := by
  have H := Lib.hid h; clear h
  go_enter Try.func16, Try.ntmps16
  go_wp2_with fail
  refine (committed_any H.out).mono ?_; rintro e w1 ⟨rfl, b1⟩
  have B1 := Lib.hid b1; clear b1
  go_wp2_with fail
  refine (begin_any b n q).mono ?_; rintro e w2 ⟨t, r, c, rfl, h1, h2, h3, h4, h5, h6, h7, b2⟩
  have HH := Lib.hid (And.intro h1 (And.intro h2 (And.intro h3 (And.intro h4 (And.intro h5 (And.intro h6 (And.intro h7 b2)))))))
  clear h1 h2 h3 h4 h5 h6 h7 b2
  go_wp2_with fail
  go_ret
  obtain ⟨h1, h2, h3, h4, h5, h6, h7, b2⟩ := HH.out
  have hz := B1.out.size
  exact ⟨t, r, c, rfl, by omega, by omega, by omega, h4, h5, h6, h7, Below.step B1.out b2⟩
set_option maxRecDepth 100000 in
theorem Version_any {W : World} {b m : Nat} {n : Int} {q : Option Addr} (h : BoxC W b 0 n q m) :
    Calls Try.prog 15 #[.pointer (some ⟨b, 0, none⟩)] W fun e w' => e = .returned (.int .i64 n) ∧ Below W.heap.size W w' := by
  have hfl : ∀ w : World, (Instr.field 112 (.agg #[.int .i64 n, .pointer q]) 0).run Try.prog w = .ok (.int .i64 n) w := fun _ => by kernel_rfl
  have H := Lib.hid h; clear h
  go_enter Try.func15, Try.ntmps15
  go_wp2_with fail
  refine (committed_any H.out).mono ?_; rintro e w1 ⟨rfl, b1⟩
  have B1 := Lib.hid b1; clear b1
  go_wp2_with fail
  go_ret
  exact ⟨rfl, B1.out⟩
set_option maxRecDepth 100000 in
theorem TxnVersion_any {W : World} {t b r c : Nat} {n : Int} {q : Option Addr} {d : Bool} (h : TxnC W t b n q r c d) :
    Calls Try.prog 21 #[.pointer (some ⟨t, 0, none⟩)] W fun e w' => e = .returned (.int .i64 n) ∧ w' = W := by
  obtain ⟨-, c1, -⟩ := h.cells
  clear h
  go_enter Try.func21, Try.ntmps21
  go_wp2_with fail
  go_ret
  exact ⟨rfl, rfl⟩
set_option maxRecDepth 100000 in
/-- Where nothing is: nil. -/
theorem nil_box (W : World) : Calls Try.prog 16 #[.pointer none] W fun e w' => e = .returned (.pointer none) ∧ w' = W := by
  go_enter Try.func16, Try.ntmps16
  go_wp2_with fail
  go_ret
  exact ⟨rfl, rfl⟩
set_option maxRecDepth 100000 in
theorem nil_version (W : World) : Calls Try.prog 15 #[.pointer none] W fun e w' => e = .returned (.int .i64 0) ∧ w' = W := by
  go_enter Try.func15, Try.ntmps15
  go_wp2_with fail
  go_ret
  exact ⟨rfl, rfl⟩
set_option maxRecDepth 100000 in
theorem nil_txnVersion (W : World) : Calls Try.prog 21 #[.pointer none] W fun e w' => e = .returned (.int .i64 0) ∧ w' = W := by
  go_enter Try.func21, Try.ntmps21
  go_wp2_with fail
  go_ret
  exact ⟨rfl, rfl⟩
end S
end Go.Proofs.Ytlfodhejpbjfcaa
