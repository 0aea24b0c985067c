/- The numbers under which this dump holds the mutex's functions and types, and that it holds them.
The box: its block, the committed version.
A transaction: check, see, Get, Put, Drop.
A transaction: see, Get, Put, Drop.
A transaction: Put, Drop.
Commit where nothing is to be made visible. -/
import Derived.Test.YtlfodhejpbjfcaaProg
import Derived.Conc.RwLib
import Derived.Conc.MuData
import Derived.Conc.MuLone
import Derived.KernelRfl
import Derived.Test.YtlfodhejpbjfcaaDropsd
import Derived.Test.YtlfodhejpbjfcaaCom
import Derived.Outline
set_option linter.unusedVariables false
set_option linter.unusedSimpArgs false
namespace Go.Proofs.Ytlfodhejpbjfcaa
abbrev muLink : Go.Conc.Locks.MuLink := { lock := 59, unlock := 60, ilock := 86, iunlock := 87, lockSlow := 97, unlockSlow := 99, disable := 65, enable := 66, acquire := 78, relMerge := 64, cas32 := 96, add32 := 98, tMutex := 156, tIMutex := 154, tPMutex := 187, tPIMutex := 197, tPI32 := 199, tUP := 167, tNoCopy := 136, tU32 := 142 }
theorem muLib : Go.Conc.Locks.MuLib Try.prog muLink :=
  ⟨Try.func59, Try.func60, Try.func86, Try.func87, Try.func65, Try.func66, Try.func78, Try.func64, Try.func96, Try.func98, Try.underlying154, Try.runUnderlying154, Try.sizeOf154, Try.isAgg154, Try.zeroValue154, Try.underlying156, Try.runUnderlying156, Try.sizeOf156, Try.isAgg156, Try.zeroValue156, Try.underlying187, Try.runUnderlying187, Try.sizeOf187, Try.isAgg187, Try.zeroValue187, Try.underlying197, Try.runUnderlying197, Try.sizeOf197, Try.isAgg197, Try.zeroValue197, Try.underlying199, Try.runUnderlying199, Try.sizeOf199, Try.isAgg199, Try.zeroValue199, Try.underlying167, Try.runUnderlying167, Try.sizeOf167, Try.isAgg167, Try.zeroValue167, Try.underlying136, Try.runUnderlying136, Try.sizeOf136, Try.isAgg136, Try.zeroValue136, Try.underlying21, Try.runUnderlying21, Try.sizeOf21, Try.isAgg21, Try.zeroValue21, (by kernel_rfl)⟩
end Go.Proofs.Ytlfodhejpbjfcaa
namespace Go.Proofs.Ytlfodhejpbjfcaa
open Go.RowKit Go.MuLone
namespace S
attribute [local go_sem] Oper.semAt_some

theorem valid_any (W : World) (s : ByteArray) (hs : s.size ≤ 9223372036854775807) :
    Calls Try.prog 55 #[.string s] W fun e w' => e = .returned (.bool (decide (1 ≤ s.size ∧ s.size ≤ 32))) ∧ w' = W := by
  by_cases h1 : 1 ≤ s.size
  · have h1i : (1 : Int) ≤ (s.size : Int) := by omega
    by_cases h2 : s.size ≤ 32
    · have h2i : (s.size : Int) ≤ 32 := by omega
      go_enter Try.func55, Try.ntmps55
      go_wp2_with fail
      go_ret
      exact ⟨congrArg (fun b => Ending.returned (Value.bool b)) (by simp [h1, h2]), rfl⟩
    · have h2i : ¬ (s.size : Int) ≤ 32 := by omega
      go_enter Try.func55, Try.ntmps55
      go_wp2_with fail
      go_ret
      exact ⟨congrArg (fun b => Ending.returned (Value.bool b)) (by simp [h2]; try omega), rfl⟩
  · have h1i : ¬ (1 : Int) ≤ (s.size : Int) := by omega
    go_enter Try.func55, Try.ntmps55
    go_wp2_with fail
    go_ret
    exact ⟨congrArg (fun b => Ending.returned (Value.bool b)) (by simp [h1]; try omega), rfl⟩

/-- The box's block; l: the lock's state. -/
def BoxC (W : World) (b : Nat) (l n : Int) (q : Option Addr) (m : Nat) : Prop := W.heap[b]? = some (.cells #[.int .i32 l, .int .u32 0, .int .i64 n, .pointer q, .map (some m)] 158 (0, 0))
section
variable {W : World} {b m : Nat} {l n : Int} {q : Option Addr}
theorem BoxC.cells (h : BoxC W b l n q m) : W.cell? ⟨b, 0, none⟩ = some (.int .i32 l) ∧ W.cell? ⟨b, 2, none⟩ = some (.int .i64 n) ∧ W.cell? ⟨b, 3, none⟩ = some (.pointer q) ∧ W.cell? ⟨b, 4, none⟩ = some (.map (some m)) ∧ W.frozen? ⟨b, 0, none⟩ = false ∧ W.frozen? ⟨b, 2, none⟩ = false ∧ W.frozen? ⟨b, 3, none⟩ = false ∧ W.frozen? ⟨b, 4, none⟩ = false := by
  unfold BoxC at h
  simp [World.cell?, World.frozen?, h]
theorem heap_set0 {W : World} {g : Nat} {cs : Array Value} {t : TypeId} {i : Nat} (v : Value) (h : W.heap[g]? = some (.cells cs t (0, 0))) : (W.setCell ⟨g, i, none⟩ v).heap[g]? = some (.cells (cs.setIfInBounds i v) t (0, 0)) := by
  obtain ⟨hlt, hk⟩ := Array.getElem?_eq_some_iff.1 h
  show (W.heap.modify g _)[g]? = _
  rw [Array.getElem?_eq_getElem (by rw [Array.size_modify]; exact hlt), Array.getElem_modify_self, hk]
  rfl
theorem BoxC.lock (h : BoxC W b l n q m) (l' : Int) : BoxC (W.setCell ⟨b, 0, none⟩ (.int .i32 l')) b l' n q m := by
  unfold BoxC at h ⊢
  rw [heap_set0 _ h]; rfl
theorem BoxC.other (h : BoxC W b l n q m) {a : Addr} (v : Value) (ha : b ≠ a.block) : BoxC (W.setCell a v) b l n q m := by
  unfold BoxC at h ⊢
  rw [Below.heap_setCell _ _ _ _ ha]; exact h
end
/-- A version in a box of its own. -/
def VerC (W : World) (g : Nat) (n : Int) (q : Option Addr) : Prop := W.heap[g]? = some (.cells #[.int .i64 n, .pointer q] 112 (0, 0))
section
variable {W : World} {g : Nat} {n : Int} {q : Option Addr}
theorem VerC.cells (h : VerC W g n q) : W.cell? ⟨g, 0, none⟩ = some (.int .i64 n) ∧ W.cell? ⟨g, 1, none⟩ = some (.pointer q) ∧ W.frozen? ⟨g, 0, none⟩ = false ∧ W.frozen? ⟨g, 1, none⟩ = false := by
  unfold VerC at h
  simp [World.cell?, World.frozen?, h]
theorem VerC.put (h : VerC W g n q) (n' : Int) (q' : Option Addr) : VerC ((W.setCell ⟨g, 0, none⟩ (.int .i64 n')).setCell ⟨g, 1, none⟩ (.pointer q')) g n' q' := by
  unfold VerC at h ⊢
  rw [heap_set0 _ (heap_set0 _ h)]; rfl
theorem VerC.other (h : VerC W g n q) {a : Addr} (v : Value) (ha : g ≠ a.block) : VerC (W.setCell a v) g n q := by
  unfold VerC at h ⊢
  rw [Below.heap_setCell _ _ _ _ ha]; exact h
end

set_option maxRecDepth 100000 in
set_option maxHeartbeats 1000000 in
theorem committed_any {W : World} {b m : Nat} {n : Int} {q : Option Addr} (h : BoxC W b 0 n q m) :
    Calls Try.prog 40 #[.pointer (some ⟨b, 0, none⟩)] W fun e w' => e = .returned (.agg #[.int .i64 n, .pointer q]) ∧ Below W.heap.size W w' := by
  have hbl : b < W.heap.size := (Array.getElem?_eq_some_iff.1 h).1
  obtain ⟨W0, hW0⟩ : ∃ W0, W.alloc (.cells #[.int .i64 0, .pointer none] 112) = W0 := ⟨_, rfl⟩
  have hb0 : Below W.heap.size W W0 := by rw [← hW0]; exact (Below.refl _ W).alloc (Nat.le_refl _) _
  have h0 : BoxC W0 b 0 n q m := box_below hb0 h
  have v0 : VerC W0 W.heap.size 0 none := by rw [← hW0]; exact heap_new _ _
  obtain ⟨c0, -, -, -, f0, -⟩ := h0.cells
  have H1 := Lib.hid (h0.lock 1); have V1 := Lib.hid (v0.other (a := ⟨b, 0, none⟩) (.int .i32 1) (by simp; omega)); have B1 := Lib.hid ((BC.of (C := b) hb0).set (p := ⟨b, 0, none⟩) (.inr rfl) (.int .i32 1))
  have HH := Lib.hid h
  clear h h0 v0 hb0
  go_enter_defers Try.func40, Try.ntmps40
  go_wp2_with fail
  refine (lock_free muLib ⟨b, 0, none⟩ _ c0 f0).mono ?_; rintro e w1 ⟨rfl, rfl⟩
  clear c0 f0 hW0
  obtain ⟨W1, hW1⟩ : ∃ W1, W0.setCell ⟨b, 0, none⟩ (.int .i32 1) = W1 := ⟨_, rfl⟩
  rw [hW1] at H1 V1 B1 ⊢
  clear hW1
  obtain ⟨-, c2, c3, -⟩ := H1.out.cells
  obtain ⟨v0, v1, g0, g1⟩ := V1.out.cells
  have V2 := Lib.hid (V1.out.put n q); have H2 := Lib.hid ((H1.out.other (a := ⟨W.heap.size, 0, none⟩) (.int .i64 n) (by simp; omega)).other (a := ⟨W.heap.size, 1, none⟩) (.pointer q) (by simp; omega)); have B2 := Lib.hid ((B1.out.set (p := ⟨W.heap.size, 0, none⟩) (.inl (by simp)) (.int .i64 n)).set (p := ⟨W.heap.size, 1, none⟩) (.inl (by simp)) (.pointer q))
  go_wp2_with fail
  obtain ⟨d0, -, -, -, e0, -⟩ := H2.out.cells
  refine leaves_cons (f := 60) (args := #[.pointer (some ⟨b, 0, none⟩)]) (by simp) (by simp [go_sem]) ?_
  refine (unlock_deferred muLib ⟨b, 0, none⟩ _ _ d0 e0).mono ?_
  rintro e u' w'' ⟨rfl, rfl, rfl⟩
  have H3 := H2.out.lock 0
  obtain ⟨t0, t1, -, -⟩ := (V2.out.other (a := ⟨b, 0, none⟩) (.int .i32 0) (by simp; omega)).cells
  have hB := (B2.out.set (p := ⟨b, 0, none⟩) (.inr rfl) (.int .i32 0)).close (H3.trans HH.out.symm)
  simp only [Leaves, settle, results, Try.results40]
  simp [go_sem, t0, t1]
  exact hB

/-- A transaction's block. -/
def TxnC (W : World) (t b : Nat) (n : Int) (q : Option Addr) (r c : Nat) (done : Bool) : Prop := W.heap[t]? = some (.cells #[.pointer (some ⟨b, 0, none⟩), .int .i64 n, .pointer q, .map (some r), .map (some c), .bool done] 120 (0, 0))
section
variable {W : World} {t b r c : Nat} {n : Int} {q : Option Addr} {done : Bool}
theorem TxnC.cells (h : TxnC W t b n q r c done) : W.cell? ⟨t, 0, none⟩ = some (.pointer (some ⟨b, 0, none⟩)) ∧ W.cell? ⟨t, 1, none⟩ = some (.int .i64 n) ∧ W.cell? ⟨t, 2, none⟩ = some (.pointer q) ∧ W.cell? ⟨t, 3, none⟩ = some (.map (some r)) ∧ W.cell? ⟨t, 4, none⟩ = some (.map (some c)) ∧ W.cell? ⟨t, 5, none⟩ = some (.bool done) ∧ W.frozen? ⟨t, 5, none⟩ = false := by
  unfold TxnC at h
  simp [World.cell?, World.frozen?, h]
theorem TxnC.finish (h : TxnC W t b n q r c done) (d : Bool) : TxnC (W.setCell ⟨t, 5, none⟩ (.bool d)) t b n q r c d := by
  unfold TxnC at h ⊢
  rw [heap_set0 _ h]; rfl
end
def evc (x : Int × Bool) : Value := .agg #[.int .i64 x.1, .bool x.2]

set_option maxRecDepth 100000 in
set_option maxHeartbeats 1000000 in
theorem begin_any {W : World} (b : Nat) (n : Int) (q : Option Addr) :
    Calls Try.prog 42 #[.pointer (some ⟨b, 0, none⟩), .agg #[.int .i64 n, .pointer q]] W fun e w' => ∃ t r c, e = .returned (.pointer (some ⟨t, 0, none⟩)) ∧ W.heap.size ≤ t ∧ W.heap.size ≤ r ∧ W.heap.size ≤ c ∧ r ≠ c ∧ TxnC w' t b n q r c false ∧ MapAt Value.bool w' r [] ∧ MapAt evc w' c [] ∧ Below W.heap.size W w' := by
  have hmm := @run_makeMap Try.prog
  go_enter Try.func42, Try.ntmps42
  go_wp2_with fail
  go_ret
  refine ⟨W.heap.size + 1 + 1 + 1, W.heap.size + 1, W.heap.size + 1 + 1, rfl, by omega, by omega, by omega, by omega, ?_, ?_, ?_, ?_⟩
  · have := heap_new (((W.alloc (.cells #[.int .i64 n, .pointer q] 112)).alloc (.map #[] 0)).alloc (.map #[] 0)) (.cells #[.pointer (some ⟨b, 0, none⟩), .int .i64 n, .pointer q, .map (some (W.heap.size + 1)), .map (some (W.heap.size + 1 + 1)), .bool false] 120)
    simp only [World.size_alloc] at this
    exact this
  · have h := MapAt.made Value.bool (W.alloc (.cells #[.int .i64 n, .pointer q] 112))
    rw [World.size_alloc] at h
    exact (h.below ((Below.refl _ _).alloc (Nat.le_refl _) _)).below ((Below.refl _ _).alloc (Nat.le_refl _) _)
  · have h := MapAt.made evc ((W.alloc (.cells #[.int .i64 n, .pointer q] 112)).alloc (.map #[] 0))
    rw [World.size_alloc, World.size_alloc] at h
    exact h.below ((Below.refl _ _).alloc (Nat.le_refl _) _)
  · exact ((((Below.refl _ W).alloc (Nat.le_refl _) _).alloc (by simp) _).alloc (by simp; omega) _).alloc (by simp; omega) _

set_option maxRecDepth 100000 in
set_option maxHeartbeats 1000000 in
theorem Begin_any {W : World} {b m : Nat} {n : Int} {q : Option Addr} (h : BoxC W b 0 n q m) :
    Calls Try.prog 16 #[.pointer (some ⟨b, 0, none⟩)] W fun e w' => ∃ t r c, e = .returned (.pointer (some ⟨t, 0, none⟩)) ∧ W.heap.size ≤ t ∧ W.heap.size ≤ r ∧ W.heap.size ≤ c ∧ r ≠ c ∧ TxnC w' t b n q r c false ∧ MapAt Value.bool w' r [] ∧ MapAt evc w' c [] ∧ Below W.heap.size W w' := by
  have H := Lib.hid h; clear h
  go_enter Try.func16, Try.ntmps16
  go_wp2_with fail
  refine (committed_any H.out).mono ?_; rintro e w1 ⟨rfl, b1⟩
  have B1 := Lib.hid b1; clear b1
  go_wp2_with fail
  refine (begin_any b n q).mono ?_; rintro e w2 ⟨t, r, c, rfl, h1, h2, h3, h4, h5, h6, h7, b2⟩
  have HH := Lib.hid (And.intro h1 (And.intro h2 (And.intro h3 (And.intro h4 (And.intro h5 (And.intro h6 (And.intro h7 b2)))))))
  clear h1 h2 h3 h4 h5 h6 h7 b2
  go_wp2_with fail
  go_ret
  obtain ⟨h1, h2, h3, h4, h5, h6, h7, b2⟩ := HH.out
  have hz := B1.out.size
  exact ⟨t, r, c, rfl, by omega, by omega, by omega, h4, h5, h6, h7, Below.step B1.out b2⟩
set_option maxRecDepth 100000 in
theorem Version_any {W : World} {b m : Nat} {n : Int} {q : Option Addr} (h : BoxC W b 0 n q m) :
    Calls Try.prog 15 #[.pointer (some ⟨b, 0, none⟩)] W fun e w' => e = .returned (.int .i64 n) ∧ Below W.heap.size W w' := by
  have hfl : ∀ w : World, (Instr.field 112 (.agg #[.int .i64 n, .pointer q]) 0).run Try.prog w = .ok (.int .i64 n) w := fun _ => by kernel_rfl
  have H := Lib.hid h; clear h
  go_enter Try.func15, Try.ntmps15
  go_wp2_with fail
  refine (committed_any H.out).mono ?_; rintro e w1 ⟨rfl, b1⟩
  have B1 := Lib.hid b1; clear b1
  go_wp2_with fail
  go_ret
  exact ⟨rfl, B1.out⟩
set_option maxRecDepth 100000 in
theorem TxnVersion_any {W : World} {t b r c : Nat} {n : Int} {q : Option Addr} {d : Bool} (h : TxnC W t b n q r c d) :
    Calls Try.prog 21 #[.pointer (some ⟨t, 0, none⟩)] W fun e w' => e = .returned (.int .i64 n) ∧ w' = W := by
  obtain ⟨-, c1, -⟩ := h.cells
  clear h
  go_enter Try.func21, Try.ntmps21
  go_wp2_with fail
  go_ret
  exact ⟨rfl, rfl⟩
set_option maxRecDepth 100000 in
/-- Where nothing is: nil. -/
theorem nil_box (W : World) : Calls Try.prog 16 #[.pointer none] W fun e w' => e = .returned (.pointer none) ∧ w' = W := by
  go_enter Try.func16, Try.ntmps16
  go_wp2_with fail
  go_ret
  exact ⟨rfl, rfl⟩
set_option maxRecDepth 100000 in
theorem nil_version (W : World) : Calls Try.prog 15 #[.pointer none] W fun e w' => e = .returned (.int .i64 0) ∧ w' = W := by
  go_enter Try.func15, Try.ntmps15
  go_wp2_with fail
  go_ret
  exact ⟨rfl, rfl⟩
set_option maxRecDepth 100000 in
theorem nil_txnVersion (W : World) : Calls Try.prog 21 #[.pointer none] W fun e w' => e = .returned (.int .i64 0) ∧ w' = W := by
  go_enter Try.func21, Try.ntmps21
  go_wp2_with fail
  go_ret
  exact ⟨rfl, rfl⟩
end S
end Go.Proofs.Ytlfodhejpbjfcaa
namespace Go.Proofs.Ytlfodhejpbjfcaa
open Go.RowKit
namespace S
attribute [local go_sem] Oper.semAt_some

/-- An error of package api. -/
def err (c : Int) : Value := .iface 60 (.int .i64 c)
def okName (s : ByteArray) : Prop := 1 ≤ s.size ∧ s.size ≤ 32
instance (s : ByteArray) : Decidable (okName s) := by unfold okName; exact inferInstance
/-- What check answers. -/
def chk (done : Bool) (s : ByteArray) : Int := if done then 7 else if okName s then 0 else 13
def errV (c : Int) : Value := if c = 0 then .nilIface else err c

set_option maxRecDepth 100000 in
set_option maxHeartbeats 1000000 in
theorem check_any {W : World} {t b r c : Nat} {n : Int} {q : Option Addr} {d : Bool} (h : TxnC W t b n q r c d) (s : ByteArray) (hs : s.size ≤ 9223372036854775807) :
    Calls Try.prog 43 #[.pointer (some ⟨t, 0, none⟩), .string s] W fun e w' => e = .returned (errV (chk d s)) ∧ w' = W := by
  obtain ⟨c0, -, -, -, -, c5, -⟩ := h.cells
  clear h
  cases d with
  | true =>
    go_enter Try.func43, Try.ntmps43
    go_wp2_with fail
    go_ret
    exact ⟨rfl, rfl⟩
  | false =>
    go_enter Try.func43, Try.ntmps43
    go_wp2_with fail
    refine (valid_any W s hs).mono ?_; rintro e w1 ⟨rfl, rfl⟩
    by_cases hk : 1 ≤ s.size ∧ s.size ≤ 32
    · have hd : decide (1 ≤ s.size ∧ s.size ≤ 32) = true := decide_eq_true hk
      rw [hd]
      go_wp2_with fail
      go_ret
      refine ⟨?_, rfl⟩
      have : chk false s = 0 := by simp [chk, okName, hk]
      rw [this]; rfl
    · have hd : decide (1 ≤ s.size ∧ s.size ≤ 32) = false := decide_eq_false hk
      rw [hd]
      go_wp2_with fail
      go_ret
      refine ⟨?_, rfl⟩
      have : chk false s = 13 := by simp [chk, okName, hk]
      rw [this]; rfl
set_option maxRecDepth 100000 in
theorem nil_check (W : World) (s : ByteArray) :
    Calls Try.prog 43 #[.pointer none, .string s] W fun e w' => e = .returned (err 5) ∧ w' = W := by
  go_enter Try.func43, Try.ntmps43
  go_wp2_with fail
  go_ret
  exact ⟨rfl, rfl⟩
set_option maxRecDepth 100000 in
theorem nil_get (W : World) (s : ByteArray) :
    Calls Try.prog 17 #[.pointer none, .string s] W fun e w' => e = .returned (.tuple #[.int .i64 0, err 5]) ∧ w' = W := by
  go_enter Try.func17, Try.ntmps17
  go_wp2_with fail
  refine (nil_check W s).mono ?_; rintro e w1 ⟨rfl, rfl⟩
  unfold err
  go_wp2_with fail
  go_ret2
  exact ⟨rfl, rfl⟩
set_option maxRecDepth 100000 in
theorem nil_put (W : World) (s : ByteArray) (x : Int) :
    Calls Try.prog 24 #[.pointer none, .string s, .int .i64 x] W fun e w' => e = .returned (err 5) ∧ w' = W := by
  go_enter Try.func24, Try.ntmps24
  go_wp2_with fail
  refine (nil_check W s).mono ?_; rintro e w1 ⟨rfl, rfl⟩
  unfold err
  go_wp2_with fail
  go_ret
  exact ⟨rfl, rfl⟩
set_option maxRecDepth 100000 in
theorem nil_drop (W : World) (s : ByteArray) :
    Calls Try.prog 25 #[.pointer none, .string s] W fun e w' => e = .returned (err 5) ∧ w' = W := by
  go_enter Try.func25, Try.ntmps25
  go_wp2_with fail
  refine (nil_check W s).mono ?_; rintro e w1 ⟨rfl, rfl⟩
  unfold err
  go_wp2_with fail
  go_ret
  exact ⟨rfl, rfl⟩
end S
end Go.Proofs.Ytlfodhejpbjfcaa
namespace Go.Proofs.Ytlfodhejpbjfcaa
open Go.RowKit
namespace S
attribute [local go_sem] Oper.semAt_some

/-- What see answers, and what is read behind it. -/
def seeR (ch : List (ByteArray × (Int × Bool))) (T : Tr ByteArray Int) (s : ByteArray) : Value := match getA s ch with
  | some x => .tuple #[.int .i64 x.1, .bool (!x.2)]
  | none => sd.getV (findF sd.lt s T)
def readN (rd : List (ByteArray × Bool)) (ch : List (ByteArray × (Int × Bool))) (s : ByteArray) : List (ByteArray × Bool) := match getA s ch with
  | some _ => rd
  | none => putA s true rd

set_option maxRecDepth 100000 in
set_option maxHeartbeats 2000000 in
theorem see_any {W : World} {t b r c : Nat} {n : Int} {q : Option Addr} {d : Bool} {T : Tr ByteArray Int} {rd : List (ByteArray × Bool)} {ch : List (ByteArray × (Int × Bool))} (h : TxnC W t b n q r c d) (hT : sd.Is W q T) (hr : MapAt Value.bool W r rd) (hc : MapAt evc W c ch) (s : ByteArray) (hs : s.size ≤ 9223372036854775807) (hrl : rd.length < 1000000) :
    Calls Try.prog 44 #[.pointer (some ⟨t, 0, none⟩), .string s] W fun e w' => e = .returned (seeR ch T s) ∧ BC r W w' ∧ MapAt Value.bool w' r (readN rd ch s) := by
  have HF : ∀ f, Fence.wide.fn f := fun _ => trivial
  obtain ⟨-, c1, c2, c3, c4, -⟩ := h.cells
  have hlk := hc.look (P := Try.prog) (t := 118) (k := 9) (e := 124) true Try.underlying9 Try.underlying118 (z := .agg #[.int .i64 0, .bool false]) (by kernel_rfl) (s := s) (by unfold maxLen; omega)
  unfold seeR readN
  cases hg : getA s ch with
  | some x =>
    rw [hg] at hlk
    simp only [if_true, evc] at hlk
    obtain ⟨W0, hW0⟩ : ∃ W0, W.alloc (.cells #[.int .i64 x.1, .bool x.2] 124) = W0 := ⟨_, rfl⟩
    have hb0 : Below W.heap.size W W0 := by rw [← hW0]; exact (Below.refl _ W).alloc (Nat.le_refl _) _
    have n0 : W0.heap[W.heap.size]? = some (.cells #[.int .i64 x.1, .bool x.2] 124 (0, 0)) := by rw [← hW0]; exact heap_new _ _
    have k0 : ∀ w, Below W0.heap.size W0 w → w.cell? ⟨W.heap.size, 0, none⟩ = some (.int .i64 x.1) := fun w hw => by have := box_below hw n0; simp [World.cell?, this]
    have k1 : ∀ w, Below W0.heap.size W0 w → w.cell? ⟨W.heap.size, 1, none⟩ = some (.bool x.2) := fun w hw => by have := box_below hw n0; simp [World.cell?, this]
    have B0 : Below W0.heap.size W0 W0.drew := (Below.refl _ _).drew
    have HB := Lib.hid (BC.of (C := r) (Below.step hb0 B0)); have HR := Lib.hid (hr.below (Below.step hb0 B0))
    have hnot : ∀ (x : Bool) (w : World), (Op.unary .not (.bool x)).run Try.prog w = .ok (.bool (!x)) w := fun _ _ => rfl
    clear hb0 n0 hr hc hT h hg
    go_enter Try.func44, Try.ntmps44
    go_wp2_with fail
    refine wp_region_anyH (Below W0.heap.size W0) (by kernel_rfl) ?_
    refine AnyH.take (i := 0) (d := some 18) (v := ?_) (by kernel_rfl) rfl rfl HF (fun _ _ _ h => h) (.inl ⟨by rfl, ?_⟩) (by first | assumption | rfl) ?_
    rotate_left
    · intro w hS; try subst hS
      go_simp; try with_reducible rfl
    try simp only [Act.put, List.setIfInBounds_toArray, List.set_cons_zero, List.set_cons_succ]
    refine AnyH.take (i := 1) (d := some 19) (v := ?_) (by kernel_rfl) rfl rfl HF (fun _ _ _ h => h) (.inl ⟨by rfl, ?_⟩) (by first | assumption | rfl) ?_
    rotate_left
    · intro w hS; try subst hS
      go_simp; try with_reducible rfl
    try simp only [Act.put, List.setIfInBounds_toArray, List.set_cons_zero, List.set_cons_succ]
    refine AnyH.take (i := 2) (d := some 20) (v := ?_) (by kernel_rfl) rfl rfl HF (fun _ _ _ h => h) (.inl ⟨by rfl, ?_⟩) (by first | assumption | rfl) ?_
    rotate_left
    · intro w hS; try subst hS
      go_simp; try with_reducible rfl
    try simp only [Act.put, List.setIfInBounds_toArray, List.set_cons_zero, List.set_cons_succ]
    refine AnyH.take (i := 3) (d := some 21) (v := ?_) (by kernel_rfl) rfl rfl HF (fun _ _ _ h => h) (.inl ⟨by rfl, ?_⟩) (by first | assumption | rfl) ?_
    rotate_left
    · intro w hS; try subst hS
      go_simp; try with_reducible rfl
    try simp only [Act.put, List.setIfInBounds_toArray, List.set_cons_zero, List.set_cons_succ]
    refine AnyH.take (i := 4) (d := some 22) (v := ?_) (by kernel_rfl) rfl rfl HF (fun _ _ _ h => h) (.inl ⟨by rfl, ?_⟩) (by first | assumption | rfl) ?_
    rotate_left
    · intro w hS; try subst hS
      go_simp; try with_reducible rfl
    try simp only [Act.put, List.setIfInBounds_toArray, List.set_cons_zero, List.set_cons_succ]
    refine AnyH.take (i := 5) (d := some 4) (v := ?_) (by kernel_rfl) rfl rfl HF (fun _ _ _ h => h) (.inl ⟨by rfl, ?_⟩) (by first | assumption | rfl) ?_
    rotate_left
    · intro w hS; try subst hS
      go_simp; try with_reducible rfl
    try simp only [Act.put, List.setIfInBounds_toArray, List.set_cons_zero, List.set_cons_succ]
    refine AnyH.take (i := 6) (d := some 5) (v := ?_) (by kernel_rfl) rfl rfl HF (fun _ _ _ h => h) (.inl ⟨by rfl, ?_⟩) (by first | assumption | rfl) ?_
    rotate_left
    · intro w hS; try subst hS
      go_simp; try with_reducible rfl
    try simp only [Act.put, List.setIfInBounds_toArray, List.set_cons_zero, List.set_cons_succ]
    refine AnyH.done (by kernel_rfl) ?_
    go_wp2_with fail
    go_ret2
    exact ⟨rfl, HB.out, HR.out⟩
  | none =>
    rw [hg] at hlk
    simp only [if_true] at hlk
    obtain ⟨Wy, hWy⟩ : ∃ W0, W.alloc (.cells #[.int .i64 0, .bool false] 124) = W0 := ⟨_, rfl⟩
    have hby : Below W.heap.size W Wy := by rw [← hWy]; exact (Below.refl _ W).alloc (Nat.le_refl _) _
    have ny : Wy.heap[W.heap.size]? = some (.cells #[.int .i64 0, .bool false] 124 (0, 0)) := by rw [← hWy]; exact heap_new _ _
    have y0 : Wy.cell? ⟨W.heap.size, 0, none⟩ = some (.int .i64 0) := by simp [World.cell?, ny]
    have y1 : Wy.cell? ⟨W.heap.size, 1, none⟩ = some (.bool false) := by simp [World.cell?, ny]
    have z0 : Wy.frozen? ⟨W.heap.size, 0, none⟩ = false := by simp [World.frozen?, ny]
    have z1 : Wy.frozen? ⟨W.heap.size, 1, none⟩ = false := by simp [World.frozen?, ny]
    obtain ⟨W0, hW0⟩ : ∃ W0, (Wy.setCell ⟨W.heap.size, 0, none⟩ (.int .i64 0)).setCell ⟨W.heap.size, 1, none⟩ (.bool false) = W0 := ⟨_, rfl⟩
    have hb0 : Below W.heap.size W W0 := by rw [← hW0]; exact (hby.setCell (p := ⟨W.heap.size, 0, none⟩) (Nat.le_refl _) _).setCell (p := ⟨W.heap.size, 1, none⟩) (Nat.le_refl _) _
    clear hby ny
    have h0 : TxnC W0 t b n q r c d := box_below hb0 h
    obtain ⟨w1, hup, hm1, hg1, hz1⟩ := (hr.below hb0).put (P := Try.prog) (t := 117) (k := 9) (e := 4) Try.underlying9 Try.underlying117 (by unfold maxLen; omega) (s := s) (by unfold maxLen; omega) true
    obtain ⟨-, c1, c2, c3, -⟩ := h0.cells
    have htr : t ≠ r := fun e => by
      obtain ⟨es, ck, e2, -⟩ := hr
      rw [← e, h] at e2; cases e2
    have hbc := BC.grown hg1
    have h1 : TxnC w1 t b n q r c d := hbc.obj htr h0
    obtain ⟨-, d1, d2, -⟩ := h1.cells
    have hT1 : sd.Is w1 q T := (hT.below hb0).keep (fun k cs fz e => hbc.obj (fun e2 => by
      subst e2
      obtain ⟨es, ck, e3, -⟩ := hr.below hb0
      rw [e] at e3; cases e3) e)
    have HG := Lib.hid (sd.Get_any s hT1); have HB := Lib.hid ((BC.of (C := r) hb0).trans hbc); have HM := Lib.hid hm1
    clear hb0 hr hc hT h hg h0 h1 hm1 hg1 hz1 hbc hT1
    go_enter Try.func44, Try.ntmps44
    go_wp2_with fail
    refine HG.out.mono ?_; rintro e w2 ⟨rfl, b2⟩
    have HB2 := Lib.hid (HB.out.trans (.of b2)); have HM2 := Lib.hid (HM.out.below b2)
    clear b2
    obtain ⟨F, hF⟩ : ∃ F, findF sd.lt s T = F := ⟨_, rfl⟩
    have HF2 := Lib.hid hF
    rw [hF]
    clear hF
    cases F with
    | nil =>
      simp only [sd.getV]
      go_wp2_with fail
      go_ret2
      exact ⟨by rw [HF2.out]; rfl, HB2.out, HM2.out⟩
    | node l nk nv r =>
      simp only [sd.getV]
      go_wp2_with fail
      go_ret2
      exact ⟨by rw [HF2.out]; rfl, HB2.out, HM2.out⟩

/-- A map beside stands. -/
theorem MapAt.bc {α : Type} {ev : α → Value} {A B : World} {k C : Nat} {l : List (ByteArray × α)} (h : MapAt ev A k l) (hb : BC C A B) (hk : k ≠ C) : MapAt ev B k l := h.of_block (hb.block k h.lt hk)
theorem mapUnlike {α : Type} {ev : α → Value} {A : World} {k : Nat} {l : List (ByteArray × α)} (h : MapAt ev A k l) {g : Nat} {cs : Array Value} {t : TypeId} {fz : Nat × Nat} (hg : A.heap[g]? = some (.cells cs t fz)) : g ≠ k := fun e => by
  obtain ⟨es, ck, e2, -⟩ := h
  rw [← e, hg] at e2; cases e2
theorem isKept {α : Type} {ev : α → Value} {A B : World} {k : Nat} {l : List (ByteArray × α)} (h : MapAt ev A k l) (hb : BC k A B) {q : Option Addr} {T : Tr ByteArray Int} (hT : sd.Is A q T) : sd.Is B q T :=
  hT.keep (fun g cs fz e => hb.obj (mapUnlike h e) e)

/-- What Get answers. -/
def getR (d : Bool) (ch : List (ByteArray × (Int × Bool))) (T : Tr ByteArray Int) (s : ByteArray) : Int × Int :=
  if chk d s = 0 then (match getA s ch with
    | some x => if x.2 then (0, 5) else (x.1, 0)
    | none => match findF sd.lt s T with
      | .nil => (0, 5)
      | .node _ _ v _ => (v, 0)) else (0, chk d s)
def readG (d : Bool) (rd : List (ByteArray × Bool)) (ch : List (ByteArray × (Int × Bool))) (s : ByteArray) : List (ByteArray × Bool) := if chk d s = 0 then readN rd ch s else rd

set_option maxRecDepth 100000 in
set_option maxHeartbeats 2000000 in
theorem Get_any {W : World} {t b r c : Nat} {n : Int} {q : Option Addr} {d : Bool} {T : Tr ByteArray Int} {rd : List (ByteArray × Bool)} {ch : List (ByteArray × (Int × Bool))} (h : TxnC W t b n q r c d) (hT : sd.Is W q T) (hr : MapAt Value.bool W r rd) (hc : MapAt evc W c ch) (s : ByteArray) (hs : s.size ≤ 9223372036854775807) (hrl : rd.length < 1000000) :
    Calls Try.prog 17 #[.pointer (some ⟨t, 0, none⟩), .string s] W fun e w' => e = .returned (.tuple #[.int .i64 (getR d ch T s).1, errV (getR d ch T s).2]) ∧ BC r W w' ∧ MapAt Value.bool w' r (readG d rd ch s) := by
  have H := Lib.hid h; have HT := Lib.hid hT; have HR := Lib.hid hr; have HC := Lib.hid hc
  clear h hT hr hc
  obtain ⟨G, hG⟩ : ∃ G, getR d ch T s = G := ⟨_, rfl⟩
  obtain ⟨RG, hRG⟩ : ∃ X, readG d rd ch s = X := ⟨_, rfl⟩
  have HGR := Lib.hid hG; have HRG := Lib.hid hRG
  rw [hG, hRG]
  clear hG hRG
  by_cases h0 : chk d s = 0
  · go_enter Try.func17, Try.ntmps17
    go_wp2_with fail
    refine (check_any H.out s hs).mono ?_; rintro e w1 ⟨rfl, rfl⟩
    rw [h0]
    simp only [errV, if_true]
    go_wp2_with fail
    refine (see_any H.out HT.out HR.out HC.out s hs hrl).mono ?_; rintro e w2 ⟨rfl, b2, m2⟩
    have HB2 := Lib.hid b2
    have HM2 : Hid (MapAt Value.bool w2 r RG) := Lib.hid (by rw [← HRG.out]; unfold readG; rw [if_pos h0]; exact m2)
    clear b2 m2
    unfold seeR
    cases hg : getA s ch with
    | some x =>
      have HGA := Lib.hid hg; clear hg
      simp only
      cases hx : x.2 with
      | true =>
        have HE : Hid (G = (0, 5)) := Lib.hid (by rw [← HGR.out]; simp [getR, h0, HGA.out, hx])
        clear hx
        simp only [Bool.not_true]
        go_wp2_with fail
        go_ret2
        exact ⟨by rw [HE.out]; rfl, HB2.out, HM2.out⟩
      | false =>
        have HE : Hid (G = (x.1, 0)) := Lib.hid (by rw [← HGR.out]; simp [getR, h0, HGA.out, hx])
        clear hx
        simp only [Bool.not_false]
        go_wp2_with fail
        go_ret2
        exact ⟨by rw [HE.out]; rfl, HB2.out, HM2.out⟩
    | none =>
      have HGA := Lib.hid hg; clear hg
      simp only
      obtain ⟨F, hF⟩ : ∃ F, findF sd.lt s T = F := ⟨_, rfl⟩
      have HF2 := Lib.hid hF
      rw [hF]
      clear hF
      cases F with
      | nil =>
        have HE : Hid (G = (0, 5)) := Lib.hid (by rw [← HGR.out]; simp [getR, h0, HGA.out, HF2.out])
        simp only [sd.getV]
        go_wp2_with fail
        go_ret2
        exact ⟨by rw [HE.out]; rfl, HB2.out, HM2.out⟩
      | node l nk nv r =>
        have HE : Hid (G = (nv, 0)) := Lib.hid (by rw [← HGR.out]; simp [getR, h0, HGA.out, HF2.out])
        simp only [sd.getV]
        go_wp2_with fail
        go_ret2
        exact ⟨by rw [HE.out]; rfl, HB2.out, HM2.out⟩
  · have HE : Hid (G = (0, chk d s)) := Lib.hid (by rw [← HGR.out]; unfold getR; rw [if_neg h0])
    have HM2 : Hid (MapAt Value.bool W r RG) := Lib.hid (by rw [← HRG.out]; unfold readG; rw [if_neg h0]; exact HR.out)
    go_enter Try.func17, Try.ntmps17
    go_wp2_with fail
    refine (check_any H.out s hs).mono ?_; rintro e w1 ⟨rfl, rfl⟩
    have he : errV (chk d s) = .iface 60 (.int .i64 (chk d s)) := by unfold errV; rw [if_neg h0]; rfl
    have HV := Lib.hid he
    rw [he]
    clear he h0
    generalize chk d s = cd at *
    go_wp2_with fail
    go_ret2
    exact ⟨by rw [HE.out]; simp only; rw [HV.out]; rfl, BC.refl _ _, HM2.out⟩
end S
end Go.Proofs.Ytlfodhejpbjfcaa
namespace Go.Proofs.Ytlfodhejpbjfcaa
open Go.RowKit
namespace S
attribute [local go_sem] Oper.semAt_some

def putN (d : Bool) (ch : List (ByteArray × (Int × Bool))) (s : ByteArray) (x : Int) : List (ByteArray × (Int × Bool)) := if chk d s = 0 then putA s (x, false) ch else ch

set_option maxRecDepth 100000 in
set_option maxHeartbeats 2000000 in
theorem Put_any {W : World} {t b r c : Nat} {n : Int} {q : Option Addr} {d : Bool} {ch : List (ByteArray × (Int × Bool))} (h : TxnC W t b n q r c d) (hc : MapAt evc W c ch) (s : ByteArray) (x : Int) (hs : s.size ≤ 9223372036854775807) (hcl : ch.length < 1000000) :
    Calls Try.prog 24 #[.pointer (some ⟨t, 0, none⟩), .string s, .int .i64 x] W fun e w' => e = .returned (errV (chk d s)) ∧ BC c W w' ∧ MapAt evc w' c (putN d ch s x) := by
  obtain ⟨-, -, -, -, c4, -⟩ := h.cells
  have H := Lib.hid h; have HC := Lib.hid hc
  clear h hc
  obtain ⟨N, hN⟩ : ∃ X, putN d ch s x = X := ⟨_, rfl⟩
  have HN := Lib.hid hN
  obtain ⟨E, hE⟩ : ∃ E, errV (chk d s) = E := ⟨_, rfl⟩
  have HE := Lib.hid hE
  rw [hN, hE]
  clear hN hE
  by_cases h0 : chk d s = 0
  · obtain ⟨w1, hup, hm1, hg1, -⟩ := HC.out.put (P := Try.prog) (t := 118) (k := 9) (e := 124) Try.underlying9 Try.underlying118 (by unfold maxLen; omega) (s := s) (by unfold maxLen; omega) (x, false)
    have HB := Lib.hid (BC.grown hg1)
    have HM : Hid (MapAt evc w1 c N) := Lib.hid (by rw [← HN.out]; unfold putN; rw [if_pos h0]; exact hm1)
    simp only [evc] at hup
    clear hg1 hm1
    go_enter Try.func24, Try.ntmps24
    go_wp2_with fail
    refine (check_any H.out s hs).mono ?_; rintro e w2 ⟨rfl, rfl⟩
    rw [h0]
    simp only [errV, if_true]
    go_wp2_with fail
    go_ret
    exact ⟨by rw [← HE.out, h0]; rfl, HB.out, HM.out⟩
  · have HM : Hid (MapAt evc W c N) := Lib.hid (by rw [← HN.out]; unfold putN; rw [if_neg h0]; exact HC.out)
    go_enter Try.func24, Try.ntmps24
    go_wp2_with fail
    refine (check_any H.out s hs).mono ?_; rintro e w1 ⟨rfl, rfl⟩
    have he : errV (chk d s) = .iface 60 (.int .i64 (chk d s)) := by unfold errV; rw [if_neg h0]; rfl
    have HV := Lib.hid he
    rw [he]
    clear he h0
    generalize chk d s = cd at *
    go_wp2_with fail
    go_ret
    exact ⟨by rw [← HE.out, HV.out]; rfl, BC.refl _ _, HM.out⟩

/-- Nothing that lay has turned but two blocks. -/
structure BC2 (C D : Nat) (A B : World) : Prop where
  os : B.os = A.os
  tape : B.tape = A.tape
  output : B.output = A.output
  size : A.heap.size ≤ B.heap.size
  block : ∀ k, k < A.heap.size → k ≠ C → k ≠ D → B.heap[k]? = A.heap[k]?
theorem _root_.Go.Proofs.Ytlfodhejpbjfcaa.BC.two {C D : Nat} {A B E : World} (h : BC C A B) (k : BC D B E) : BC2 C D A E :=
  ⟨k.os.trans h.os, k.tape.trans h.tape, k.output.trans h.output, Nat.le_trans h.size k.size, fun i hi hc hd => (k.block i (Nat.lt_of_lt_of_le hi h.size) hd).trans (h.block i hi hc)⟩

/-- What Drop answers and leaves. -/
def dropE (d : Bool) (ch : List (ByteArray × (Int × Bool))) (T : Tr ByteArray Int) (s : ByteArray) : Int := (getR d ch T s).2
def dropN (d : Bool) (ch : List (ByteArray × (Int × Bool))) (T : Tr ByteArray Int) (s : ByteArray) : List (ByteArray × (Int × Bool)) := if (getR d ch T s).2 = 0 then putA s (0, true) ch else ch

set_option maxRecDepth 100000 in
set_option maxHeartbeats 2000000 in
theorem Drop_any {W : World} {t b r c : Nat} {n : Int} {q : Option Addr} {d : Bool} {T : Tr ByteArray Int} {rd : List (ByteArray × Bool)} {ch : List (ByteArray × (Int × Bool))} (h : TxnC W t b n q r c d) (hT : sd.Is W q T) (hr : MapAt Value.bool W r rd) (hc : MapAt evc W c ch) (hrc : r ≠ c) (s : ByteArray) (hs : s.size ≤ 9223372036854775807) (hrl : rd.length < 1000000) (hcl : ch.length < 1000000) :
    Calls Try.prog 25 #[.pointer (some ⟨t, 0, none⟩), .string s] W fun e w' => e = .returned (errV (dropE d ch T s)) ∧ BC2 r c W w' ∧ MapAt Value.bool w' r (readG d rd ch s) ∧ MapAt evc w' c (dropN d ch T s) := by
  have H := Lib.hid h; have HT := Lib.hid hT; have HR := Lib.hid hr; have HC := Lib.hid hc
  clear h hT hr hc
  obtain ⟨G, hG⟩ : ∃ G, dropE d ch T s = G := ⟨_, rfl⟩
  obtain ⟨RG, hRG⟩ : ∃ X, readG d rd ch s = X := ⟨_, rfl⟩
  obtain ⟨CN, hCN⟩ : ∃ X, dropN d ch T s = X := ⟨_, rfl⟩
  have HGR := Lib.hid hG; have HRG := Lib.hid hRG; have HCN := Lib.hid hCN
  rw [hG, hRG, hCN]
  clear hG hRG hCN
  by_cases h0 : chk d s = 0
  · go_enter Try.func25, Try.ntmps25
    go_wp2_with fail
    refine (check_any H.out s hs).mono ?_; rintro e w1 ⟨rfl, rfl⟩
    rw [h0]
    simp only [errV, if_true]
    go_wp2_with fail
    refine (see_any H.out HT.out HR.out HC.out s hs hrl).mono ?_; rintro e w2 ⟨rfl, b2, m2⟩
    have HB2 := Lib.hid b2
    have HM2 : Hid (MapAt Value.bool w2 r RG) := Lib.hid (by rw [← HRG.out]; unfold readG; rw [if_pos h0]; exact m2)
    have HC2 := Lib.hid (MapAt.bc HC.out b2 hrc.symm)
    have h2 : TxnC w2 t b n q r c d := b2.obj (mapUnlike HR.out H.out) H.out
    obtain ⟨-, -, -, -, c4, -⟩ := h2.cells
    obtain ⟨w3, hup, hm3, hg3, -⟩ := HC2.out.put (P := Try.prog) (t := 118) (k := 9) (e := 124) Try.underlying9 Try.underlying118 (by unfold maxLen; omega) (s := s) (by unfold maxLen; omega) (0, true)
    have HB3 := Lib.hid (BC.grown hg3); have HC3 := Lib.hid hm3
    simp only [evc] at hup
    have HM3 := Lib.hid (MapAt.bc HM2.out HB3.out hrc)
    clear b2 m2 h2 hg3 hm3
    unfold seeR
    cases hg : getA s ch with
    | some x =>
      have HGA := Lib.hid hg; clear hg
      simp only
      cases hx : x.2 with
      | true =>
        have HE : Hid (G = 5) := Lib.hid (by rw [← HGR.out]; simp [dropE, getR, h0, HGA.out, hx])
        have HCC : Hid (MapAt evc w2 c CN) := Lib.hid (by rw [← HCN.out]; simp only [dropN, getR, h0, HGA.out, hx, if_true]; exact HC2.out)
        clear hx
        simp only [Bool.not_true]
        go_wp2_with fail
        go_ret
        exact ⟨by rw [HE.out]; rfl, HB2.out.two (BC.refl _ _), HM2.out, HCC.out⟩
      | false =>
        have HE : Hid (G = 0) := Lib.hid (by rw [← HGR.out]; simp [dropE, getR, h0, HGA.out, hx])
        have HCC : Hid (MapAt evc w3 c CN) := Lib.hid (by rw [← HCN.out]; simp only [dropN, getR, h0, HGA.out, hx, if_true]; exact HC3.out)
        clear hx
        simp only [Bool.not_false]
        go_wp2_with fail
        go_ret
        exact ⟨by rw [HE.out]; rfl, HB2.out.two HB3.out, HM3.out, HCC.out⟩
    | none =>
      have HGA := Lib.hid hg; clear hg
      simp only
      obtain ⟨F, hF⟩ : ∃ F, findF sd.lt s T = F := ⟨_, rfl⟩
      have HF2 := Lib.hid hF
      rw [hF]
      clear hF
      cases F with
      | nil =>
        have HE : Hid (G = 5) := Lib.hid (by rw [← HGR.out]; simp [dropE, getR, h0, HGA.out, HF2.out])
        have HCC : Hid (MapAt evc w2 c CN) := Lib.hid (by rw [← HCN.out]; simp only [dropN, getR, h0, HGA.out, HF2.out, if_true]; exact HC2.out)
        simp only [sd.getV]
        go_wp2_with fail
        go_ret
        exact ⟨by rw [HE.out]; rfl, HB2.out.two (BC.refl _ _), HM2.out, HCC.out⟩
      | node l nk nv r =>
        have HE : Hid (G = 0) := Lib.hid (by rw [← HGR.out]; simp [dropE, getR, h0, HGA.out, HF2.out])
        have HCC : Hid (MapAt evc w3 c CN) := Lib.hid (by rw [← HCN.out]; simp only [dropN, getR, h0, HGA.out, HF2.out, if_true]; exact HC3.out)
        simp only [sd.getV]
        go_wp2_with fail
        go_ret
        exact ⟨by rw [HE.out]; rfl, HB2.out.two HB3.out, HM3.out, HCC.out⟩
  · have HE : Hid (G = chk d s) := Lib.hid (by rw [← HGR.out]; unfold dropE getR; rw [if_neg h0])
    have HM2 : Hid (MapAt Value.bool W r RG) := Lib.hid (by rw [← HRG.out]; unfold readG; rw [if_neg h0]; exact HR.out)
    have HCC : Hid (MapAt evc W c CN) := Lib.hid (by rw [← HCN.out]; unfold dropN getR; rw [if_neg h0]; simp only; rw [if_neg h0]; exact HC.out)
    go_enter Try.func25, Try.ntmps25
    go_wp2_with fail
    refine (check_any H.out s hs).mono ?_; rintro e w1 ⟨rfl, rfl⟩
    have he : errV (chk d s) = .iface 60 (.int .i64 (chk d s)) := by unfold errV; rw [if_neg h0]; rfl
    have HV := Lib.hid he
    rw [he]
    clear he h0
    generalize chk d s = cd at *
    go_wp2_with fail
    go_ret
    exact ⟨by rw [HE.out]; simp only; rw [HV.out]; rfl, (BC.refl _ _).two (BC.refl _ _), HM2.out, HCC.out⟩
end S
end Go.Proofs.Ytlfodhejpbjfcaa
namespace Go.Proofs.Ytlfodhejpbjfcaa
open Go.RowKit
namespace S
attribute [local go_sem] Oper.semAt_some

set_option maxRecDepth 100000 in
set_option maxHeartbeats 1000000 in
theorem Commit_done {W : World} {t b r c : Nat} {n : Int} {q : Option Addr} (h : TxnC W t b n q r c true) :
    Calls Try.prog 20 #[.pointer (some ⟨t, 0, none⟩)] W fun e w' => e = .returned (.tuple #[.int .i64 0, err 7]) ∧ w' = W := by
  obtain ⟨c0, -, -, -, -, c5, -⟩ := h.cells
  clear h
  go_enter Try.func20, Try.ntmps20
  go_wp2_with fail
  go_ret2
  exact ⟨rfl, rfl⟩
set_option maxRecDepth 100000 in
set_option maxHeartbeats 1000000 in
theorem Commit_empty {W : World} {t b r c : Nat} {n : Int} {q : Option Addr} (h : TxnC W t b n q r c false) (hc : MapAt evc W c []) :
    Calls Try.prog 20 #[.pointer (some ⟨t, 0, none⟩)] W fun e w' => e = .returned (.tuple #[.int .i64 n, .nilIface]) ∧ BC t W w' ∧ TxnC w' t b n q r c true := by
  obtain ⟨c0, -, -, -, -, c5, f5⟩ := h.cells
  obtain ⟨W1, hW1⟩ : ∃ W1, W.setCell ⟨t, 5, none⟩ (.bool true) = W1 := ⟨_, rfl⟩
  have h1 : TxnC W1 t b n q r c true := by rw [← hW1]; exact h.finish true
  have hb : BC t W W1 := by rw [← hW1]; exact (BC.refl _ _).set (p := ⟨t, 5, none⟩) (.inr rfl) _
  have hc1 : MapAt evc W1 c [] := MapAt.bc hc hb (mapUnlike hc h).symm
  have hln := hc1.len (P := Try.prog) (t := 118) (k := 9) (e := 124) (ty := 3) Try.underlying118
  simp only [List.length_nil] at hln
  obtain ⟨-, d1, -, -, d4, -, -⟩ := h1.cells
  have H1 := Lib.hid h1; have HB := Lib.hid hb
  clear h h1 hb hc hc1
  go_enter Try.func20, Try.ntmps20
  go_wp2_with fail
  go_ret2
  exact ⟨rfl, HB.out, H1.out⟩
end S
end Go.Proofs.Ytlfodhejpbjfcaa
