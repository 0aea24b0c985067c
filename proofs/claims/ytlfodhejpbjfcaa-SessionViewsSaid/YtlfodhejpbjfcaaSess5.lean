/- Commit where there is something to be made visible. -/
import Derived.Test.YtlfodhejpbjfcaaCommit
namespace Go.Proofs.Ytlfodhejpbjfcaa
open Go.RowKit
/-- Nothing that lay has turned but the blocks of S. -/
structure BL (S : List Nat) (A B : World) : Prop where
  os : B.os = A.os
  tape : B.tape = A.tape
  output : B.output = A.output
  size : A.heap.size ≤ B.heap.size
  block : ∀ k, k < A.heap.size → k ∉ S → B.heap[k]? = A.heap[k]?
theorem BL.of {S : List Nat} {A B : World} (h : Below A.heap.size A B) : BL S A B := ⟨h.os, h.tape, h.output, h.size, fun k hk _ => h.block k hk⟩
theorem BL.one {C : Nat} {A B : World} (h : BC C A B) {S : List Nat} (hs : C ∈ S ∨ A.heap.size ≤ C) : BL S A B := ⟨h.os, h.tape, h.output, h.size, fun k hk hn => h.block k hk (fun e => by rcases hs with hs | hs; exact hn (e ▸ hs); omega)⟩
theorem BL.refl (S : List Nat) (A : World) : BL S A A := .of (Below.refl _ _)
theorem BL.trans {S : List Nat} {A B D : World} (h : BL S A B) (k : BL S B D) : BL S A D :=
  ⟨k.os.trans h.os, k.tape.trans h.tape, k.output.trans h.output, Nat.le_trans h.size k.size, fun i hi hc => (k.block i (Nat.lt_of_lt_of_le hi h.size) hc).trans (h.block i hi hc)⟩
theorem BL.mono {S S' : List Nat} {A B : World} (h : BL S A B) (hs : ∀ k ∈ S, k ∈ S' ∨ A.heap.size ≤ k) : BL S' A B :=
  ⟨h.os, h.tape, h.output, h.size, fun i hi hc => h.block i hi (fun e => by rcases hs i e with h1 | h1; exact hc h1; omega)⟩
theorem BL.obj {S : List Nat} {A B : World} (h : BL S A B) {k : Nat} (hc : k ∉ S) {o : Obj} (ho : A.heap[k]? = some o) : B.heap[k]? = some o := (h.block k (Array.getElem?_eq_some_iff.1 ho).1 hc).trans ho
theorem BL.below {S : List Nat} {A B : World} {n : Nat} (h : BL S A B) (hs : ∀ k ∈ S, n ≤ k) (hn : n ≤ A.heap.size) : Below n A B :=
  ⟨h.os, h.tape, h.output, h.size, fun k hk => h.block k (Nat.lt_of_lt_of_le hk hn) (fun e => by have := hs k e; omega)⟩
namespace S
theorem _root_.Go.Proofs.Ytlfodhejpbjfcaa.BL.two {C D : Nat} {A B : World} (h : BC2 C D A B) {S : List Nat} (h1 : C ∈ S) (h2 : D ∈ S) : BL S A B :=
  ⟨h.os, h.tape, h.output, h.size, fun k hk hn => h.block k hk (fun e => hn (e ▸ h1)) (fun e => hn (e ▸ h2))⟩
theorem _root_.Go.Proofs.Ytlfodhejpbjfcaa.MapAt.bl {α : Type} {ev : α → Value} {A B : World} {k : Nat} {S : List Nat} {l : List (ByteArray × α)} (h : MapAt ev A k l) (hb : BL S A B) (hk : k ∉ S) : MapAt ev B k l := h.of_block (hb.block k h.lt hk)
/-- A block that holds cells of a box or of a transaction, or none. -/
def NoNode (A : World) (k : Nat) : Prop := ∀ cs t fz, A.heap[k]? = some (.cells cs t fz) → t = 158 ∨ t = 120
theorem NoNode.map {α : Type} {ev : α → Value} {A : World} {k : Nat} {l : List (ByteArray × α)} (h : MapAt ev A k l) : NoNode A k := fun cs t fz e => (mapUnlike h e rfl).elim
theorem NoNode.box {A : World} {b m : Nat} {l n : Int} {q : Option Addr} (h : BoxC A b l n q m) : NoNode A b := fun cs t fz e => by unfold BoxC at h; rw [h] at e; cases e; exact .inl rfl
theorem NoNode.txn {A : World} {t b r c : Nat} {n : Int} {q : Option Addr} {d : Bool} (h : TxnC A t b n q r c d) : NoNode A t := fun cs t fz e => by unfold TxnC at h; rw [h] at e; cases e; exact .inr rfl
/-- A tree lies on where no block of S holds a node. -/
theorem isBl {A B : World} {S : List Nat} (hb : BL S A B) (hS : ∀ k ∈ S, NoNode A k) {q : Option Addr} {T : Tr ByteArray Int} (hT : sd.Is A q T) : sd.Is B q T :=
  hT.keep (fun g cs fz e => hb.obj (fun hg => by rcases hS g hg cs _ fz e with h | h <;> exact absurd h (by decide)) e)
/-- Cells of another type lie on. -/
theorem keepBl {A B : World} {S : List Nat} (hb : BL S A B) (hS : ∀ k ∈ S, NoNode A k) {t : TypeId} (h1 : t ≠ 158) (h2 : t ≠ 120) : KeepT t A B :=
  fun g cs fz e => hb.obj (fun hg => by rcases hS g hg cs _ fz e with h | h; exact h1 h; exact h2 h) e

/-- What Commit leaves of a box. -/
def MadePost (W : World) (t b m : Nat) (N : Int) (T : Tr ByteArray Int) (last : List (ByteArray × Int)) (ch : List (ByteArray × (Int × Bool))) (C : Bool) (e : Ending) (w' : World) : Prop :=
  (C = true ∧ e = .returned (.tuple #[.int .i64 0, err 11]) ∧ BL [t] W w') ∨
  (C = false ∧ e = .returned (.tuple #[.int .i64 (N + 1), .nilIface]) ∧ ∃ q' L, L.Perm ch ∧ BoxC w' b 0 (N + 1) q' m ∧ sd.Is w' q' (appN T L) ∧ MapAt (Value.int .i64) w' m (lastN last (N + 1) L) ∧ BL [t, b, m] W w')

attribute [local go_sem] Oper.semAt_some
set_option maxRecDepth 100000 in
set_option maxHeartbeats 1000000 in
theorem Commit_some {W : World} {b m t r c : Nat} {N n : Int} {Q q : Option Addr} {T : Tr ByteArray Int} {rd : List (ByteArray × Bool)} {ch : List (ByteArray × (Int × Bool))} {last : List (ByteArray × Int)}
    (h : BoxC W b 0 N Q m) (ht : TxnC W t b n q r c false) (hT : sd.Is W Q T) (hr : MapAt Value.bool W r rd) (hc : MapAt evc W c ch) (hm : MapAt (Value.int .i64) W m last) (hmr : m ≠ r) (hmc : m ≠ c) (hne : ch ≠ [])
    (hN : 0 ≤ N) (hN2 : N ≤ 1000000) (hn : 0 ≤ n) (hn2 : n ≤ 1000000) (hsz : T.sz + ch.length ≤ 800000) (hll : last.length + ch.length ≤ 800000) :
    Calls Try.prog 20 #[.pointer (some ⟨t, 0, none⟩)] W fun e w' => MadePost W t b m N T last ch (conf last n rd || conf last n ch) e w' ∧ TxnC w' t b n q r c true := by
  obtain ⟨c0, -, -, -, -, c5, f5⟩ := ht.cells
  obtain ⟨W1, hW1⟩ : ∃ W1, W.setCell ⟨t, 5, none⟩ (.bool true) = W1 := ⟨_, rfl⟩
  have h1 : TxnC W1 t b n q r c true := by rw [← hW1]; exact ht.finish true
  have hb : BC t W W1 := by rw [← hW1]; exact (BC.refl _ _).set (p := ⟨t, 5, none⟩) (.inr rfl) _
  have hc1 : MapAt evc W1 c ch := MapAt.bc hc hb (mapUnlike hc ht).symm
  have hbt : b ≠ t := fun e => by subst e; unfold BoxC at h; unfold TxnC at ht; rw [h] at ht; cases ht
  have hx1 : BoxC W1 b 0 N Q m := hb.obj hbt h
  have hT1 : sd.Is W1 Q T := by rw [← hW1]; exact hT.keep (KeepT.setCell (nt := 189) (a := ⟨t, 5, none⟩) (v := .bool true) ht (by decide))
  have hlp : 0 < ch.length := List.length_pos_iff.2 hne
  have hln := hc1.len (P := Try.prog) (t := 118) (k := 9) (e := 124) (ty := 3) Try.underlying118
  have hl0 : ((ch.length : Int) == 0) = false := by rw [beq_eq_false_iff_ne]; omega
  have HCM := Lib.hid (commit_any hx1 h1 hT1 (MapAt.bc hr hb (mapUnlike hr ht).symm) hc1 (MapAt.bc hm hb (mapUnlike hm ht).symm) hmr hmc hN hN2 hn hn2 hsz hll)
  obtain ⟨d0, d1, -, -, d4, -, -⟩ := h1.cells
  have H1 := Lib.hid h1; have HB := Lib.hid hb; have HTM := Lib.hid (mapUnlike hm ht); have HBT := Lib.hid hbt
  clear h ht h1 hb hc hc1 hT hr hm hmr hmc hne hbt hx1 hT1 hsz hll
  go_enter Try.func20, Try.ntmps20
  go_wp2_with fail
  refine HCM.out.mono ?_
  rintro e w' hp
  unfold CommitPost at hp
  rcases hp with ⟨hC, rfl, hB⟩ | ⟨hC, rfl, q', L, hL, hBX, hI, hM, hB⟩
  · have HP := Lib.hid (And.intro hC hB)
    clear hC hB
    go_wp2_with fail
    go_ret2
    exact ⟨.inl ⟨HP.out.1, rfl, (BL.one HB.out (.inl (by simp))).trans (.of HP.out.2)⟩, box_below HP.out.2 H1.out⟩
  · have HP := Lib.hid (And.intro hC (And.intro hL (And.intro hBX (And.intro hI (And.intro hM hB)))))
    clear hC hL hBX hI hM hB
    go_wp2_with fail
    go_ret2
    obtain ⟨hC, hL, hBX, hI, hM, hB⟩ := HP.out
    have hl : BL [b, m] W1 w' := BL.two hB (by simp) (by simp)
    refine ⟨.inr ⟨hC, rfl, q', L, hL, hBX, hI, hM, (BL.one HB.out (.inl (by simp))).trans (hl.mono (fun k hk => .inl (by simp only [List.mem_cons] at hk ⊢; exact .inr hk)))⟩, hl.obj ?_ H1.out⟩
    intro hk
    simp only [List.mem_cons, List.not_mem_nil, or_false] at hk
    rcases hk with e | e
    · exact HBT.out e.symm
    · exact HTM.out e
end S
end Go.Proofs.Ytlfodhejpbjfcaa
