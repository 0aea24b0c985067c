/- The box and the transactions as a whole: what each call does to one of them, the others standing. -/
import Derived.Test.YtlfodhejpbjfcaaNamed
namespace Go.Proofs.Ytlfodhejpbjfcaa
open Go.RowKit
namespace S
structure Tx where
  t : Nat
  r : Nat
  c : Nat
  n : Int
  q : Option Addr
  T : Tr ByteArray Int
  d : Bool
  rd : List (ByteArray × Bool)
  ch : List (ByteArray × (Int × Bool))
structure Bx where
  b : Nat
  m : Nat
  N : Int
  q : Option Addr
  T : Tr ByteArray Int
  last : List (ByteArray × Int)
def TxAt (W : World) (b : Nat) (x : Tx) : Prop := TxnC W x.t b x.n x.q x.r x.c x.d ∧ sd.Is W x.q x.T ∧ MapAt Value.bool W x.r x.rd ∧ MapAt evc W x.c x.ch ∧ x.r ≠ x.c
def BxAt (W : World) (X : Bx) : Prop := BoxC W X.b 0 X.N X.q X.m ∧ sd.Is W X.q X.T ∧ MapAt (Value.int .i64) W X.m X.last
/-- Two transactions whose blocks are not the same ones. -/
def Tx.apart (x y : Tx) : Prop := x.t ≠ y.t ∧ x.r ≠ y.r ∧ x.r ≠ y.c ∧ x.c ≠ y.r ∧ x.c ≠ y.c
def Bx.apart (X : Bx) (x : Tx) : Prop := X.m ≠ x.r ∧ X.m ≠ x.c
theorem Tx.apart.symm {x y : Tx} (h : x.apart y) : y.apart x := ⟨h.1.symm, h.2.1.symm, h.2.2.2.1.symm, h.2.2.1.symm, h.2.2.2.2.symm⟩
/-- Blocks that hold no node are all that has turned. -/
def Turn (S : List Nat) (W w' : World) : Prop := BL S W w' ∧ ∀ k ∈ S, NoNode W k
theorem TxAt.turn {W w' : World} {b : Nat} {y : Tx} {S : List Nat} (h : TxAt W b y) (hb : Turn S W w') (hS : ∀ k ∈ S, k ≠ y.t ∧ k ≠ y.r ∧ k ≠ y.c) : TxAt w' b y := by
  obtain ⟨h1, h2, h3, h4, h5⟩ := h
  exact ⟨hb.1.obj (fun e => (hS _ e).1 rfl) h1, isBl hb.1 hb.2 h2, MapAt.bl h3 hb.1 (fun e => (hS _ e).2.1 rfl), MapAt.bl h4 hb.1 (fun e => (hS _ e).2.2 rfl), h5⟩
theorem BxAt.turn {W w' : World} {X : Bx} {S : List Nat} (h : BxAt W X) (hb : Turn S W w') (hS : ∀ k ∈ S, k ≠ X.b ∧ k ≠ X.m) : BxAt w' X := by
  obtain ⟨h1, h2, h3⟩ := h
  exact ⟨hb.1.obj (fun e => (hS _ e).1 rfl) h1, isBl hb.1 hb.2 h2, MapAt.bl h3 hb.1 (fun e => (hS _ e).2 rfl)⟩
theorem TxAt.below {W w' : World} {b : Nat} {y : Tx} (h : TxAt W b y) (hb : Below W.heap.size W w') : TxAt w' b y := h.turn (S := []) ⟨.of hb, by simp⟩ (by simp)
theorem BxAt.below {W w' : World} {X : Bx} (h : BxAt W X) (hb : Below W.heap.size W w') : BxAt w' X := h.turn (S := []) ⟨.of hb, by simp⟩ (by simp)
theorem TxAt.ne {W : World} {b b' : Nat} {x y : Tx} (h : TxAt W b x) (k : TxAt W b' y) : x.t ≠ y.r ∧ x.t ≠ y.c ∧ x.r ≠ y.t ∧ x.c ≠ y.t := by
  obtain ⟨h1, h2, h3, h4, h5⟩ := h
  obtain ⟨k1, k2, k3, k4, k5⟩ := k
  exact ⟨mapUnlike k3 h1, mapUnlike k4 h1, (mapUnlike h3 k1).symm, (mapUnlike h4 k1).symm⟩
theorem BxAt.ne {W : World} {b' : Nat} {X : Bx} {y : Tx} (h : BxAt W X) (k : TxAt W b' y) : X.b ≠ y.t ∧ X.b ≠ y.r ∧ X.b ≠ y.c ∧ X.m ≠ y.t ∧ X.b ≠ X.m := by
  obtain ⟨h1, h2, h3⟩ := h
  obtain ⟨k1, k2, k3, k4, k5⟩ := k
  refine ⟨fun e => ?_, mapUnlike k3 h1, mapUnlike k4 h1, (mapUnlike h3 k1).symm, mapUnlike h3 h1⟩
  unfold BoxC at h1; unfold TxnC at k1
  rw [e, k1] at h1; cases h1
theorem TxAt.noNode {W : World} {b : Nat} {x : Tx} (h : TxAt W b x) : NoNode W x.t ∧ NoNode W x.r ∧ NoNode W x.c := ⟨.txn h.1, .map h.2.2.1, .map h.2.2.2.1⟩
theorem BxAt.noNode {W : World} {X : Bx} (h : BxAt W X) : NoNode W X.b ∧ NoNode W X.m := ⟨.box h.1, .map h.2.2⟩
/-- What a call on a transaction leaves standing. -/
theorem Turn.others {W w' : World} {X : Bx} {x y : Tx} (hx : TxAt W X.b x) (hX : BxAt W X) {S : List Nat} (ht : Turn S W w') (hs : ∀ k ∈ S, k = x.t ∨ k = x.r ∨ k = x.c ∨ k = X.b ∨ k = X.m) (hy : TxAt W X.b y) (h1 : x.apart y) (h2 : X.apart y) : TxAt w' X.b y := by
  refine hy.turn ht fun k hk => ?_
  have n1 := hx.ne hy; have n2 := hX.ne hy
  obtain ⟨a1, a2, a3, a4, a5⟩ := h1
  obtain ⟨n3, n4, n5, n6⟩ := n1
  obtain ⟨m1, m2, m3, m4, m5⟩ := n2
  obtain ⟨z1, z2⟩ := h2
  rcases hs k hk with rfl | rfl | rfl | rfl | rfl
  · exact ⟨a1, n3, n4⟩
  · exact ⟨n5, a2, a3⟩
  · exact ⟨n6, a4, a5⟩
  · exact ⟨m1, m2, m3⟩
  · exact ⟨m4, z1, z2⟩
/-- Where the box is not touched it stands. -/
theorem Turn.box {W w' : World} {X : Bx} {x : Tx} (hx : TxAt W X.b x) (hX : BxAt W X) (ha : X.apart x) {S : List Nat} (ht : Turn S W w') (hs : ∀ k ∈ S, k = x.t ∨ k = x.r ∨ k = x.c) : BxAt w' X := by
  refine hX.turn ht fun k hk => ?_
  obtain ⟨m1, m2, m3, m4, m5⟩ := hX.ne hx
  rcases hs k hk with rfl | rfl | rfl
  · exact ⟨m1.symm, m4.symm⟩
  · exact ⟨m2.symm, ha.1.symm⟩
  · exact ⟨m3.symm, ha.2.symm⟩
/-- What stands behind a call on x. -/
def Left (W w' : World) (X X' : Bx) (x x' : Tx) : Prop := TxAt w' X.b x' ∧ BxAt w' X' ∧ (∀ y, TxAt W X.b y → x.apart y → X.apart y → TxAt w' X.b y) ∧ BL [x.t, x.r, x.c, X.b, X.m] W w'

theorem tx_begin {W : World} {X : Bx} (h : BxAt W X) :
    Calls Try.prog 16 #[.pointer (some ⟨X.b, 0, none⟩)] W fun e w' => ∃ t r c, e = .returned (.pointer (some ⟨t, 0, none⟩)) ∧ W.heap.size ≤ t ∧ W.heap.size ≤ r ∧ W.heap.size ≤ c ∧ TxAt w' X.b ⟨t, r, c, X.N, X.q, X.T, false, [], []⟩ ∧ BxAt w' X ∧ (∀ y, TxAt W X.b y → TxAt w' X.b y) ∧ Below W.heap.size W w' := by
  refine (Begin_any h.1).mono ?_
  rintro e w' ⟨t, r, c, rfl, h1, h2, h3, h4, h5, h6, h7, h8⟩
  exact ⟨t, r, c, rfl, h1, h2, h3, ⟨h5, h.2.1.below h8, h6, h7, h4⟩, h.below h8, fun y hy => hy.below h8, h8⟩
theorem tx_get {W : World} {X : Bx} {x : Tx} (hX : BxAt W X) (hx : TxAt W X.b x) (ha : X.apart x) (s : ByteArray) (hs : s.size ≤ 9223372036854775807) (hl : x.rd.length < 1000000) :
    Calls Try.prog 17 #[.pointer (some ⟨x.t, 0, none⟩), .string s] W fun e w' => e = .returned (.tuple #[.int .i64 (getR x.d x.ch x.T s).1, errV (getR x.d x.ch x.T s).2]) ∧ Left W w' X X x { x with rd := readG x.d x.rd x.ch s } := by
  obtain ⟨h1, h2, h3, h4, h5⟩ := hx
  refine (Get_any h1 h2 h3 h4 s hs hl).mono ?_
  rintro e w' ⟨rfl, hb, hm⟩
  have hx : TxAt W X.b x := ⟨h1, h2, h3, h4, h5⟩
  have ht : Turn [x.r] W w' := ⟨.one hb (.inl (by simp)), by simp [hx.noNode]⟩
  refine ⟨rfl, ⟨hb.obj (mapUnlike h3 h1) h1, isKept h3 hb h2, hm, MapAt.bc h4 hb h5.symm, h5⟩, Turn.box hx hX ha ht (by simp), fun y hy a b => Turn.others hx hX ht (by simp) hy a b, ht.1.mono (by simp)⟩
theorem tx_put {W : World} {X : Bx} {x : Tx} (hX : BxAt W X) (hx : TxAt W X.b x) (ha : X.apart x) (s : ByteArray) (z : Int) (hs : s.size ≤ 9223372036854775807) (hl : x.ch.length < 1000000) :
    Calls Try.prog 24 #[.pointer (some ⟨x.t, 0, none⟩), .string s, .int .i64 z] W fun e w' => e = .returned (errV (chk x.d s)) ∧ Left W w' X X x { x with ch := putN x.d x.ch s z } := by
  obtain ⟨h1, h2, h3, h4, h5⟩ := hx
  refine (Put_any h1 h4 s z hs hl).mono ?_
  rintro e w' ⟨rfl, hb, hm⟩
  have hx : TxAt W X.b x := ⟨h1, h2, h3, h4, h5⟩
  have ht : Turn [x.c] W w' := ⟨.one hb (.inl (by simp)), by simp [hx.noNode]⟩
  refine ⟨rfl, ⟨hb.obj (mapUnlike h4 h1) h1, isKept h4 hb h2, MapAt.bc h3 hb h5, hm, h5⟩, Turn.box hx hX ha ht (by simp), fun y hy a b => Turn.others hx hX ht (by simp) hy a b, ht.1.mono (by simp)⟩
theorem tx_drop {W : World} {X : Bx} {x : Tx} (hX : BxAt W X) (hx : TxAt W X.b x) (ha : X.apart x) (s : ByteArray) (hs : s.size ≤ 9223372036854775807) (hl : x.rd.length < 1000000) (hl2 : x.ch.length < 1000000) :
    Calls Try.prog 25 #[.pointer (some ⟨x.t, 0, none⟩), .string s] W fun e w' => e = .returned (errV (dropE x.d x.ch x.T s)) ∧ Left W w' X X x { x with rd := readG x.d x.rd x.ch s, ch := dropN x.d x.ch x.T s } := by
  obtain ⟨h1, h2, h3, h4, h5⟩ := hx
  refine (Drop_any h1 h2 h3 h4 h5 s hs hl hl2).mono ?_
  rintro e w' ⟨rfl, hb, hm, hm2⟩
  have hx : TxAt W X.b x := ⟨h1, h2, h3, h4, h5⟩
  have ht : Turn [x.r, x.c] W w' := ⟨BL.two hb (by simp) (by simp), by simp [hx.noNode]⟩
  refine ⟨rfl, ⟨ht.1.obj (by have := mapUnlike h3 h1; have := mapUnlike h4 h1; simp; exact ⟨‹_›, ‹_›⟩) h1, isBl ht.1 ht.2 h2, hm, hm2, h5⟩, Turn.box hx hX ha ht (by simp), fun y hy a b => Turn.others hx hX ht (by simp) hy a b, ht.1.mono (by simp)⟩

/-- What Commit makes of the box, the number and the code that it answers. -/
def CommitR (X : Bx) (x : Tx) (X' : Bx) (n c : Int) : Prop :=
  (x.d = true ∧ X' = X ∧ n = 0 ∧ c = 7) ∨ (x.d = false ∧ x.ch = [] ∧ X' = X ∧ n = x.n ∧ c = 0) ∨
  (x.d = false ∧ x.ch ≠ [] ∧ (conf X.last x.n x.rd || conf X.last x.n x.ch) = true ∧ X' = X ∧ n = 0 ∧ c = 11) ∨
  (x.d = false ∧ x.ch ≠ [] ∧ (conf X.last x.n x.rd || conf X.last x.n x.ch) = false ∧ n = X.N + 1 ∧ c = 0 ∧ ∃ q' L, L.Perm x.ch ∧ X' = ⟨X.b, X.m, X.N + 1, q', appN X.T L, lastN X.last (X.N + 1) L⟩)
theorem tx_commit {W : World} {X : Bx} {x : Tx} (hX : BxAt W X) (hx : TxAt W X.b x) (ha : X.apart x)
    (hN : 0 ≤ X.N) (hN2 : X.N ≤ 1000000) (hn : 0 ≤ x.n) (hn2 : x.n ≤ 1000000) (hsz : X.T.sz + x.ch.length ≤ 800000) (hll : X.last.length + x.ch.length ≤ 800000) :
    Calls Try.prog 20 #[.pointer (some ⟨x.t, 0, none⟩)] W fun e w' => ∃ n c X', e = .returned (.tuple #[.int .i64 n, errV c]) ∧ CommitR X x X' n c ∧ X'.b = X.b ∧ X'.m = X.m ∧ Left W w' X X' x { x with d := true } := by
  obtain ⟨h1, h2, h3, h4, h5⟩ := hx
  obtain ⟨t, r, c, n, q, T, d, rd, ch⟩ := x
  dsimp only at *
  have hx : TxAt W X.b ⟨t, r, c, n, q, T, d, rd, ch⟩ := ⟨h1, h2, h3, h4, h5⟩
  cases d with
  | true =>
    refine (Commit_done h1).mono ?_
    rintro e w' ⟨rfl, rfl⟩
    exact ⟨0, 7, X, rfl, .inl ⟨rfl, rfl, rfl, rfl⟩, rfl, rfl, hx, hX, fun y hy _ _ => hy, .refl _ _⟩
  | false =>
    by_cases hc : ch = []
    · subst hc
      refine (Commit_empty h1 h4).mono ?_
      rintro e w' ⟨rfl, hb, h1'⟩
      have ht : Turn [t] W w' := ⟨.one hb (.inl (by simp)), by simp [NoNode.txn h1]⟩
      refine ⟨n, 0, X, rfl, .inr (.inl ⟨rfl, rfl, rfl, rfl, rfl⟩), rfl, rfl, ⟨h1', isBl ht.1 ht.2 h2, MapAt.bc h3 hb (mapUnlike h3 h1).symm, MapAt.bc h4 hb (mapUnlike h4 h1).symm, h5⟩, Turn.box hx hX ha ht (by simp), fun y hy a b => Turn.others hx hX ht (by simp) hy a b, ht.1.mono (by simp)⟩
    · obtain ⟨g1, g2, g3⟩ := hX
      have hX : BxAt W X := ⟨g1, g2, g3⟩
      refine (Commit_some g1 h1 g2 h3 h4 g3 ha.1 ha.2 hc hN hN2 hn hn2 hsz hll).mono ?_
      rintro e w' ⟨hp, h1'⟩
      unfold MadePost at hp
      rcases hp with ⟨hC, rfl, hb⟩ | ⟨hC, rfl, q', L, hL, k1, k2, k3, hb⟩
      · have ht : Turn [t] W w' := ⟨hb, by simp [NoNode.txn h1]⟩
        refine ⟨0, 11, X, rfl, .inr (.inr (.inl ⟨rfl, hc, hC, rfl, rfl, rfl⟩)), rfl, rfl, ⟨h1', isBl ht.1 ht.2 h2, MapAt.bl h3 hb (by simpa using (mapUnlike h3 h1).symm), MapAt.bl h4 hb (by simpa using (mapUnlike h4 h1).symm), h5⟩, Turn.box hx hX ha ht (by simp), fun y hy a b => Turn.others hx hX ht (by simp) hy a b, ht.1.mono (by simp)⟩
      · have ht : Turn [t, X.b, X.m] W w' := ⟨hb, by simp [NoNode.txn h1, hX.noNode]⟩
        have n1 := hX.ne hx
        refine ⟨X.N + 1, 0, ⟨X.b, X.m, X.N + 1, q', appN X.T L, lastN X.last (X.N + 1) L⟩, rfl, .inr (.inr (.inr ⟨rfl, hc, hC, rfl, rfl, q', L, hL, rfl⟩)), rfl, rfl, ⟨h1', isBl ht.1 ht.2 h2, MapAt.bl h3 hb ?_, MapAt.bl h4 hb ?_, h5⟩, ⟨k1, k2, k3⟩, fun y hy a b => Turn.others hx hX ht (by simp) hy a b, ht.1.mono (by simp)⟩
        · have e1 := (mapUnlike h3 h1).symm; have e2 := n1.2.1; have e3 := ha.1
          simp only [List.mem_cons, List.not_mem_nil, or_false, not_or]; exact ⟨e1, e2.symm, e3.symm⟩
        · have e1 := (mapUnlike h4 h1).symm; have e2 := n1.2.2.1; have e3 := ha.2
          simp only [List.mem_cons, List.not_mem_nil, or_false, not_or]; exact ⟨e1, e2.symm, e3.symm⟩
end S
end Go.Proofs.Ytlfodhejpbjfcaa
