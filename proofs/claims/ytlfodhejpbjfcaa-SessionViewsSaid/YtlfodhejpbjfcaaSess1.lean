/- A transaction: check, see, Get, Put, Drop. -/
import Derived.Below
import Derived.WalkKit
import Derived.Lib.Hide
import Derived.Test.YtlfodhejpbjfcaaProg
import Derived.Conc.RwLib
import Derived.Conc.MuData
import Derived.Conc.MuLone
import Derived.KernelRfl
import Derived.Test.YtlfodhejpbjfcaaDropsd
import Derived.Test.YtlfodhejpbjfcaaGoMaps
import Derived.Outline
namespace Go.Proofs.Ytlfodhejpbjfcaa
open Go.RowKit
/-- Nothing that lay has turned but block C. -/
structure BC (C : Nat) (A B : World) : Prop where
  os : B.os = A.os
  tape : B.tape = A.tape
  output : B.output = A.output
  size : A.heap.size ≤ B.heap.size
  block : ∀ k, k < A.heap.size → k ≠ C → B.heap[k]? = A.heap[k]?
theorem BC.of {C : Nat} {A B : World} (h : Below A.heap.size A B) : BC C A B := ⟨h.os, h.tape, h.output, h.size, fun k hk _ => h.block k hk⟩
theorem BC.refl (C : Nat) (A : World) : BC C A A := .of (Below.refl _ _)
theorem BC.trans {C : Nat} {A B D : World} (h : BC C A B) (k : BC C B D) : BC C A D :=
  ⟨k.os.trans h.os, k.tape.trans h.tape, k.output.trans h.output, Nat.le_trans h.size k.size, fun i hi hc => (k.block i (Nat.lt_of_lt_of_le hi h.size) hc).trans (h.block i hi hc)⟩
theorem BC.set {C : Nat} {A B : World} (h : BC C A B) {p : Addr} (hp : A.heap.size ≤ p.block ∨ p.block = C) (u : Value) : BC C A (B.setCell p u) :=
  ⟨h.os, h.tape, h.output, Nat.le_trans h.size (by simp [World.setCell]), fun k hk hc => (Below.heap_setCell _ _ _ _ (by omega)).trans (h.block k hk hc)⟩
theorem BC.obj {C : Nat} {A B : World} (h : BC C A B) {k : Nat} (hc : k ≠ C) {o : Obj} (ho : A.heap[k]? = some o) : B.heap[k]? = some o := (h.block k (Array.getElem?_eq_some_iff.1 ho).1 hc).trans ho
/-- Where that block holds again what it held, nothing has turned. -/
theorem BC.close {C : Nat} {A B : World} (h : BC C A B) (hc : B.heap[C]? = A.heap[C]?) : Below A.heap.size A B :=
  ⟨h.os, h.tape, h.output, h.size, fun k hk => by
    by_cases e : k = C
    · subst e; exact hc
    · exact h.block k hk e⟩
theorem BC.grown {C : Nat} {A B : World} (h : A.grownBy B (some C)) : BC C A B := ⟨h.os, h.tape, h.output, h.size, fun k hk hne => h.block k hk (fun e => hne (Option.some.inj e))⟩
end Go.Proofs.Ytlfodhejpbjfcaa
namespace Go.Proofs.Ytlfodhejpbjfcaa
abbrev muLink : Go.Conc.Locks.MuLink := { lock := 59, unlock := 60, ilock := 86, iunlock := 87, lockSlow := 97, unlockSlow := 99, disable := 65, enable := 66, acquire := 78, relMerge := 64, cas32 := 96, add32 := 98, tMutex := 156, tIMutex := 154, tPMutex := 187, tPIMutex := 197, tPI32 := 199, tUP := 167, tNoCopy := 136, tU32 := 142 }
theorem muLib : Go.Conc.Locks.MuLib Try.prog muLink :=
  ⟨Try.func59, Try.func60, Try.func86, Try.func87, Try.func65, Try.func66, Try.func78, Try.func64, Try.func96, Try.func98, Try.underlying154, Try.runUnderlying154, Try.sizeOf154, Try.isAgg154, Try.zeroValue154, Try.underlying156, Try.runUnderlying156, Try.sizeOf156, Try.isAgg156, Try.zeroValue156, Try.underlying187, Try.runUnderlying187, Try.sizeOf187, Try.isAgg187, Try.zeroValue187, Try.underlying197, Try.runUnderlying197, Try.sizeOf197, Try.isAgg197, Try.zeroValue197, Try.underlying199, Try.runUnderlying199, Try.sizeOf199, Try.isAgg199, Try.zeroValue199, Try.underlying167, Try.runUnderlying167, Try.sizeOf167, Try.isAgg167, Try.zeroValue167, Try.underlying136, Try.runUnderlying136, Try.sizeOf136, Try.isAgg136, Try.zeroValue136, Try.underlying21, Try.runUnderlying21, Try.sizeOf21, Try.isAgg21, Try.zeroValue21, (by kernel_rfl)⟩
end Go.Proofs.Ytlfodhejpbjfcaa
namespace Go.Proofs.Ytlfodhejpbjfcaa
open Go.RowKit Go.MuLone
namespace S
attribute [local go_sem] Oper.semAt_some

theorem valid_any (W : World) (s : ByteArray) (hs : s.size ≤ 9223372036854775807) :
    Calls Try.prog 55 #[.string s] W fun e w' => e = .returned (.bool (decide (1 ≤ s.size ∧ s.size ≤ 32))) ∧ w' = W := by
  by_cases h1 : 1 ≤ s.size
  · have h1i : (1 : Int) ≤ (s.size : Int) := by omega
    by_cases h2 : s.size ≤ 32
    · have h2i : (s.size : Int) ≤ 32 := by omega
      go_enter Try.func55, Try.ntmps55
      go_wp2_with fail
      go_ret
      exact ⟨congrArg (fun b => Ending.returned (Value.bool b)) (by simp [h1, h2]), rfl⟩
    · have h2i : ¬ (s.size : Int) ≤ 32 := by omega
      go_enter Try.func55, Try.ntmps55
      go_wp2_with fail
      go_ret
      exact ⟨congrArg (fun b => Ending.returned (Value.bool b)) (by simp [h2]; try omega), rfl⟩
  · have h1i : ¬ (1 : Int) ≤ (s.size : Int) := by omega
    go_enter Try.func55, Try.ntmps55
    go_wp2_with fail
    go_ret
    exact ⟨congrArg (fun b => Ending.returned (Value.bool b)) (by simp [h1]; try omega), rfl⟩

/-- The box's block; l: the lock's state. -/
def BoxC (W : World) (b : Nat) (l n : Int) (q : Option Addr) (m : Nat) : Prop := W.heap[b]? = some (.cells #[.int .i32 l, .int .u32 0, .int .i64 n, .pointer q, .map (some m)] 158 (0, 0))
section
variable {W : World} {b m : Nat} {l n : Int} {q : Option Addr}
theorem BoxC.cells (h : BoxC W b l n q m) : W.cell? ⟨b, 0, none⟩ = some (.int .i32 l) ∧ W.cell? ⟨b, 2, none⟩ = some (.int .i64 n) ∧ W.cell? ⟨b, 3, none⟩ = some (.pointer q) ∧ W.cell? ⟨b, 4, none⟩ = some (.map (some m)) ∧ W.frozen? ⟨b, 0, none⟩ = false ∧ W.frozen? ⟨b, 2, none⟩ = false ∧ W.frozen? ⟨b, 3, none⟩ = false ∧ W.frozen? ⟨b, 4, none⟩ = false := by
  unfold BoxC at h
  simp [World.cell?, World.frozen?, h]
theorem heap_set0 {W : World} {g : Nat} {cs : Array Value} {t : TypeId} {i : Nat} (v : Value) (h : W.heap[g]? = some (.cells cs t (0, 0))) : (W.setCell ⟨g, i, none⟩ v).heap[g]? = some (.cells (cs.setIfInBounds i v) t (0, 0)) := by
  obtain ⟨hlt, hk⟩ := Array.getElem?_eq_some_iff.1 h
  show (W.heap.modify g _)[g]? = _
  rw [Array.getElem?_eq_getElem (by rw [Array.size_modify]; exact hlt), Array.getElem_modify_self, hk]
  rfl
theorem BoxC.lock (h : BoxC W b l n q m) (l' : Int) : BoxC (W.setCell ⟨b, 0, none⟩ (.int .i32 l')) b l' n q m := by
  unfold BoxC at h ⊢
  rw [heap_set0 _ h]; rfl
theorem BoxC.other (h : BoxC W b l n q m) {a : Addr} (v : Value) (ha : b ≠ a.block) : BoxC (W.setCell a v) b l n q m := by
  unfold BoxC at h ⊢
  rw [Below.heap_setCell _ _ _ _ ha]; exact h
end
/-- A version in a box of its own. -/
def VerC (W : World) (g : Nat) (n : Int) (q : Option Addr) : Prop := W.heap[g]? = some (.cells #[.int .i64 n, .pointer q] 112 (0, 0))
section
variable {W : World} {g : Nat} {n : Int} {q : Option Addr}
theorem VerC.cells (h : VerC W g n q) : W.cell? ⟨g, 0, none⟩ = some (.int .i64 n) ∧ W.cell? ⟨g, 1, none⟩ = some (.pointer q) ∧ W.frozen? ⟨g, 0, none⟩ = false ∧ W.frozen? ⟨g, 1, none⟩ = false := by
  unfold VerC at h
  simp [World.cell?, World.frozen?, h]
theorem VerC.put (h : VerC W g n q) (n' : Int) (q' : Option Addr) : VerC ((W.setCell ⟨g, 0, none⟩ (.int .i64 n')).setCell ⟨g, 1, none⟩ (.pointer q')) g n' q' := by
  unfold VerC at h ⊢
  rw [heap_set0 _ (heap_set0 _ h)]; rfl
theorem VerC.other (h : VerC W g n q) {a : Addr} (v : Value) (ha : g ≠ a.block) : VerC (W.setCell a v) g n q := by
  unfold VerC at h ⊢
  rw [Below.heap_setCell _ _ _ _ ha]; exact h
end

set_option maxRecDepth 100000 in
set_option maxHeartbeats 1000000 in
theorem committed_any {W : World} {b m : Nat} {n : Int} {q : Option Addr} (h : BoxC W b 0 n q m) :
    Calls Try.prog 40 #[.pointer (some ⟨b, 0, none⟩)] W fun e w' => e = .returned (.agg #[.int .i64 n, .pointer q]) ∧ Below W.heap.size W w' := by
  have hbl : b < W.heap.size := (Array.getElem?_eq_some_iff.1 h).1
  obtain ⟨W0, hW0⟩ : ∃ W0, W.alloc (.cells #[.int .i64 0, .pointer none] 112) = W0 := ⟨_, rfl⟩
  have hb0 : Below W.heap.size W W0 := by rw [← hW0]; exact (Below.refl _ W).alloc (Nat.le_refl _) _
  have h0 : BoxC W0 b 0 n q m := box_below hb0 h
  have v0 : VerC W0 W.heap.size 0 none := by rw [← hW0]; exact heap_new _ _
  obtain ⟨c0, -, -, -, f0, -⟩ := h0.cells
  have H1 := Lib.hid (h0.lock 1); have V1 := Lib.hid (v0.other (a := ⟨b, 0, none⟩) (.int .i32 1) (by simp; omega)); have B1 := Lib.hid ((BC.of (C := b) hb0).set (p := ⟨b, 0, none⟩) (.inr rfl) (.int .i32 1))
  have HH := Lib.hid h
  clear h h0 v0 hb0
  go_enter_defers Try.func40, Try.ntmps40
  go_wp2_with fail
  refine (lock_free muLib ⟨b, 0, none⟩ _ c0 f0).mono ?_; rintro e w1 ⟨rfl, rfl⟩
  clear c0 f0 hW0
  obtain ⟨W1, hW1⟩ : ∃ W1, W0.setCell ⟨b, 0, none⟩ (.int .i32 1) = W1 := ⟨_, rfl⟩
  rw [hW1] at H1 V1 B1 ⊢
  clear hW1
  obtain ⟨-, c2, c3, -⟩ := H1.out.cells
  obtain ⟨v0, v1, g0, g1⟩ := V1.out.cells
  have V2 := Lib.hid (V1.out.put n q); have H2 := Lib.hid ((H1.out.other (a := ⟨W.heap.size, 0, none⟩) (.int .i64 n) (by simp; omega)).other (a := ⟨W.heap.size, 1, none⟩) (.pointer q) (by simp; omega)); have B2 := Lib.hid ((B1.out.set (p := ⟨W.heap.size, 0, none⟩) (.inl (by simp)) (.int .i64 n)).set (p := ⟨W.heap.size, 1, none⟩) (.inl (by simp)) (.pointer q))
  go_wp2_with fail
  obtain ⟨d0, -, -, -, e0, -⟩ := H2.out.cells
  refine leaves_cons (f := 60) (args := #[.pointer (some ⟨b, 0, none⟩)]) (by simp) (by simp [go_sem]) ?_
  refine (unlock_deferred muLib ⟨b, 0, none⟩ _ _ d0 e0).mono ?_
  rintro e u' w'' ⟨rfl, rfl, rfl⟩
  have H3 := H2.out.lock 0
  obtain ⟨t0, t1, -, -⟩ := (V2.out.other (a := ⟨b, 0, none⟩) (.int .i32 0) (by simp; omega)).cells
  have hB := (B2.out.set (p := ⟨b, 0, none⟩) (.inr rfl) (.int .i32 0)).close (H3.trans HH.out.symm)
  simp only [Leaves, settle, results, Try.results40]
  simp [go_sem, t0, t1]
  exact hB

/-- A transaction's block. -/
def TxnC (W : World) (t b : Nat) (n : Int) (q : Option Addr) (r c : Nat) (done : Bool) : Prop := W.heap[t]? = some (.cells #[.pointer (some ⟨b, 0, none⟩), .int .i64 n, .pointer q, .map (some r), .map (some c), .bool done] 120 (0, 0))
section
variable {W : World} {t b r c : Nat} {n : Int} {q : Option Addr} {done : Bool}
theorem TxnC.cells (h : TxnC W t b n q r c done) : W.cell? ⟨t, 0, none⟩ = some (.pointer (some ⟨b, 0, none⟩)) ∧ W.cell? ⟨t, 1, none⟩ = some (.int .i64 n) ∧ W.cell? ⟨t, 2, none⟩ = some (.pointer q) ∧ W.cell? ⟨t, 3, none⟩ = some (.map (some r)) ∧ W.cell? ⟨t, 4, none⟩ = some (.map (some c)) ∧ W.cell? ⟨t, 5, none⟩ = some (.bool done) ∧ W.frozen? ⟨t, 5, none⟩ = false := by
  unfold TxnC at h
  simp [World.cell?, World.frozen?, h]
theorem TxnC.finish (h : TxnC W t b n q r c done) (d : Bool) : TxnC (W.setCell ⟨t, 5, none⟩ (.bool d)) t b n q r c d := by
  unfold TxnC at h ⊢
  rw [heap_set0 _ h]; rfl
end
def evc (x : Int × Bool) : Value := .agg #[.int .i64 x.1, .bool x.2]

set_option maxRecDepth 100000 in
set_option maxHeartbeats 1000000 in
theorem begin_any {W : World} (b : Nat) (n : Int) (q : Option Addr) :
    Calls Try.prog 42 #[.pointer (some ⟨b, 0, none⟩), .agg #[.int .i64 n, .pointer q]] W fun e w' => ∃ t r c, e = .returned (.pointer (some ⟨t, 0, none⟩)) ∧ W.heap.size ≤ t ∧ W.heap.size ≤ r ∧ W.heap.size ≤ c ∧ r ≠ c ∧ TxnC w' t b n q r c false ∧ MapAt Value.bool w' r [] ∧ MapAt evc w' c [] ∧ Below W.heap.size W w' := by
  have hmm := @run_makeMap Try.prog
  go_enter Try.func42, Try.ntmps42
  go_wp2_with fail
  go_ret
  refine ⟨W.heap.size + 1 + 1 + 1, W.heap.size + 1, W.heap.size + 1 + 1, rfl, by omega, by omega, by omega, by omega, ?_, ?_, ?_, ?_⟩
  · have := heap_new (((W.alloc (.cells #[.int .i64 n, .pointer q] 112)).alloc (.map #[] 0)).alloc (.map #[] 0)) (.cells #[.pointer (some ⟨b, 0, none⟩), .int .i64 n, .pointer q, .map (some (W.heap.size + 1)), .map (some (W.heap.size + 1 + 1)), .bool false] 120)
    simp only [World.size_alloc] at this
    exact this
  · have h := MapAt.made Value.bool (W.alloc (.cells #[.int .i64 n, .pointer q] 112))
    rw [World.size_alloc] at h
    exact (h.below ((Below.refl _ _).alloc (Nat.le_refl _) _)).below ((Below.refl _ _).alloc (Nat.le_refl _) _)
  · have h := MapAt.made evc ((W.alloc (.cells #[.int .i64 n, .pointer q] 112)).alloc (.map #[] 0))
    rw [World.size_alloc, World.size_alloc] at h
    exact h.below ((Below.refl _ _).alloc (Nat.le_refl _) _)
  · exact ((((Below.refl _ W).alloc (Nat.le_refl _) _).alloc (by simp) _).alloc (by simp; omega) _).alloc (by simp; omega) _

set_option maxRecDepth 100000 in
set_option maxHeartbeats 1000000 in
theorem Begin_any {W : World} {b m : Nat} {n : Int} {q : Option Addr} (h : BoxC W b 0 n q m) :
    Calls Try.prog 16 #[.pointer (some ⟨b, 0, none⟩)] W fun e w' => ∃ t r c, e = .returned (.pointer (some ⟨t, 0, none⟩)) ∧ W.heap.size ≤ t ∧ W.heap.size ≤ r ∧ W.heap.size ≤ c ∧ r ≠ c ∧ TxnC w' t b n q r c false ∧ MapAt Value.bool w' r [] ∧ MapAt evc w' c [] ∧ Below W.heap.size W w' := by
  have H := Lib.hid h; clear h
  go_enter Try.func16, Try.ntmps16
  go_wp2_with fail
  refine (committed_any H.out).mono ?_; rintro e w1 ⟨rfl, b1⟩
  have B1 := Lib.hid b1; clear b1
  go_wp2_with fail
  refine (begin_any b n q).mono ?_; rintro e w2 ⟨t, r, c, rfl, h1, h2, h3, h4, h5, h6, h7, b2⟩
  have HH := Lib.hid (And.intro h1 (And.intro h2 (And.intro h3 (And.intro h4 (And.intro h5 (And.intro h6 (And.intro h7 b2)))))))
  clear h1 h2 h3 h4 h5 h6 h7 b2
  go_wp2_with fail
  go_ret
  obtain ⟨h1, h2, h3, h4, h5, h6, h7, b2⟩ := HH.out
  have hz := B1.out.size
  exact ⟨t, r, c, rfl, by omega, by omega, by omega, h4, h5, h6, h7, Below.step B1.out b2⟩
set_option maxRecDepth 100000 in
theorem Version_any {W : World} {b m : Nat} {n : Int} {q : Option Addr} (h : BoxC W b 0 n q m) :
    Calls Try.prog 15 #[.pointer (some ⟨b, 0, none⟩)] W fun e w' => e = .returned (.int .i64 n) ∧ Below W.heap.size W w' := by
  have hfl : ∀ w : World, (Instr.field 112 (.agg #[.int .i64 n, .pointer q]) 0).run Try.prog w = .ok (.int .i64 n) w := fun _ => by kernel_rfl
  have H := Lib.hid h; clear h
  go_enter Try.func15, Try.ntmps15
  go_wp2_with fail
  refine (committed_any H.out).mono ?_; rintro e w1 ⟨rfl, b1⟩
  have B1 := Lib.hid b1; clear b1
  go_wp2_with fail
  go_ret
  exact ⟨rfl, B1.out⟩
set_option maxRecDepth 100000 in
theorem TxnVersion_any {W : World} {t b r c : Nat} {n : Int} {q : Option Addr} {d : Bool} (h : TxnC W t b n q r c d) :
    Calls Try.prog 21 #[.pointer (some ⟨t, 0, none⟩)] W fun e w' => e = .returned (.int .i64 n) ∧ w' = W := by
  obtain ⟨-, c1, -⟩ := h.cells
  clear h
  go_enter Try.func21, Try.ntmps21
  go_wp2_with fail
  go_ret
  exact ⟨rfl, rfl⟩
set_option maxRecDepth 100000 in
/-- Where nothing is: nil. -/
theorem nil_box (W : World) : Calls Try.prog 16 #[.pointer none] W fun e w' => e = .returned (.pointer none) ∧ w' = W := by
  go_enter Try.func16, Try.ntmps16
  go_wp2_with fail
  go_ret
  exact ⟨rfl, rfl⟩
set_option maxRecDepth 100000 in
theorem nil_version (W : World) : Calls Try.prog 15 #[.pointer none] W fun e w' => e = .returned (.int .i64 0) ∧ w' = W := by
  go_enter Try.func15, Try.ntmps15
  go_wp2_with fail
  go_ret
  exact ⟨rfl, rfl⟩
set_option maxRecDepth 100000 in
theorem nil_txnVersion (W : World) : Calls Try.prog 21 #[.pointer none] W fun e w' => e = .returned (.int .i64 0) ∧ w' = W := by
  go_enter Try.func21, Try.ntmps21
  go_wp2_with fail
  go_ret
  exact ⟨rfl, rfl⟩
end S
end Go.Proofs.Ytlfodhejpbjfcaa
namespace Go.Proofs.Ytlfodhejpbjfcaa
open Go.RowKit
namespace S
attribute [local go_sem] Oper.semAt_some

/-- An error of package api. -/
def err (c : Int) : Value := .iface 60 (.int .i64 c)
def okName (s : ByteArray) : Prop := 1 ≤ s.size ∧ s.size ≤ 32
instance (s : ByteArray) : Decidable (okName s) := by unfold okName; exact inferInstance
/-- What check answers. -/
def chk (done : Bool) (s : ByteArray) : Int := if done then 7 else if okName s then 0 else 13
def errV (c : Int) : Value := if c = 0 then .nilIface else err c

set_option maxRecDepth 100000 in
set_option maxHeartbeats 1000000 in
theorem check_any {W : World} {t b r c : Nat} {n : Int} {q : Option Addr} {d : Bool} (h : TxnC W t b n q r c d) (s : ByteArray) (hs : s.size ≤ 9223372036854775807) :
    Calls Try.prog 43 #[.pointer (some ⟨t, 0, none⟩), .string s] W fun e w' => e = .returned (errV (chk d s)) ∧ w' = W := by
  obtain ⟨c0, -, -, -, -, c5, -⟩ := h.cells
  clear h
  cases d with
  | true =>
    go_enter Try.func43, Try.ntmps43
    go_wp2_with fail
    go_ret
    exact ⟨rfl, rfl⟩
  | false =>
    go_enter Try.func43, Try.ntmps43
    go_wp2_with fail
    refine (valid_any W s hs).mono ?_; rintro e w1 ⟨rfl, rfl⟩
    by_cases hk : 1 ≤ s.size ∧ s.size ≤ 32
    · have hd : decide (1 ≤ s.size ∧ s.size ≤ 32) = true := decide_eq_true hk
      rw [hd]
      go_wp2_with fail
      go_ret
      refine ⟨?_, rfl⟩
      have : chk false s = 0 := by simp [chk, okName, hk]
      rw [this]; rfl
    · have hd : decide (1 ≤ s.size ∧ s.size ≤ 32) = false := decide_eq_false hk
      rw [hd]
      go_wp2_with fail
      go_ret
      refine ⟨?_, rfl⟩
      have : chk false s = 13 := by simp [chk, okName, hk]
      rw [this]; rfl
set_option maxRecDepth 100000 in
theorem nil_check (W : World) (s : ByteArray) :
    Calls Try.prog 43 #[.pointer none, .string s] W fun e w' => e = .returned (err 5) ∧ w' = W := by
  go_enter Try.func43, Try.ntmps43
  go_wp2_with fail
  go_ret
  exact ⟨rfl, rfl⟩
set_option maxRecDepth 100000 in
theorem nil_get (W : World) (s : ByteArray) :
    Calls Try.prog 17 #[.pointer none, .string s] W fun e w' => e = .returned (.tuple #[.int .i64 0, err 5]) ∧ w' = W := by
  go_enter Try.func17, Try.ntmps17
  go_wp2_with fail
  refine (nil_check W s).mono ?_; rintro e w1 ⟨rfl, rfl⟩
  unfold err
  go_wp2_with fail
  go_ret2
  exact ⟨rfl, rfl⟩
set_option maxRecDepth 100000 in
theorem nil_put (W : World) (s : ByteArray) (x : Int) :
    Calls Try.prog 24 #[.pointer none, .string s, .int .i64 x] W fun e w' => e = .returned (err 5) ∧ w' = W := by
  go_enter Try.func24, Try.ntmps24
  go_wp2_with fail
  refine (nil_check W s).mono ?_; rintro e w1 ⟨rfl, rfl⟩
  unfold err
  go_wp2_with fail
  go_ret
  exact ⟨rfl, rfl⟩
set_option maxRecDepth 100000 in
theorem nil_drop (W : World) (s : ByteArray) :
    Calls Try.prog 25 #[.pointer none, .string s] W fun e w' => e = .returned (err 5) ∧ w' = W := by
  go_enter Try.func25, Try.ntmps25
  go_wp2_with fail
  refine (nil_check W s).mono ?_; rintro e w1 ⟨rfl, rfl⟩
  unfold err
  go_wp2_with fail
  go_ret
  exact ⟨rfl, rfl⟩
end S
end Go.Proofs.Ytlfodhejpbjfcaa
