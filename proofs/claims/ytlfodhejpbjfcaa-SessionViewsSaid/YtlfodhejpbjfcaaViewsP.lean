/- A transaction beside the player's; what it sees; a cut of a slice of acts. No walk. -/
import Derived.Test.YtlfodhejpbjfcaaPlayW
namespace Go.Proofs.Ytlfodhejpbjfcaa
open Go.RowKit
theorem addr_pos (b : Addr) {n : Nat} (h : n ≠ 0) : b.add n = ⟨b.block, b.off + n, none⟩ := by
  cases n with
  | zero => exact absurd rfl h
  | succ n => unfold Addr.add; simp
theorem addr_zero (b : Addr) : b.add 0 = b := by unfold Addr.add; simp
theorem addr_add (b : Addr) (i j : Nat) : (b.add i).add j = b.add (j + i) := by
  by_cases h1 : i = 0
  · subst h1; rw [addr_zero, Nat.add_zero]
  · by_cases h2 : j = 0
    · subst h2; rw [addr_zero, Nat.zero_add]
    · rw [addr_pos b h1, addr_pos _ h2, addr_pos b (by omega)]
      simp only [Addr.mk.injEq, true_and, and_true]
      omega
/-- What a cut from i on leaves. -/
theorem acts_drop (a0 : Option Addr) (c : Nat) {l : List ActL} {i : Nat} (hi : i ≤ l.length) :
    ∃ A' m c', (∀ w, (Instr.slice 23 (.slice a0 l.length c) (some (.int .i64 (i : Int))) none none).run Try.prog w = .ok (.slice A' m c') w) ∧ m = (l.drop i).length ∧ ∀ W, RowAct W (.slice a0 l.length c) l → RowAct W (.slice A' m c') (l.drop i) := by
  have hs : ∀ w, (sizeOf (Try.prog.elem 23)).run Try.prog w = .ok 4 w := fun w => by kernel_rfl
  have hr : ∀ w, (Instr.slice 23 (.slice a0 l.length c) (some (.int .i64 (i : Int))) none none).run Try.prog w = .ok (sliced a0 i l.length c 4) w := fun w => by
    have := run_slice_l (P := Try.prog) w 23 a0 l.length c (by kernel_rfl) .i64 (i : Int) (by omega) (by omega)
    rw [this, hs]; simp [Result.andThen]
  refine ⟨(if c = i then a0 else a0.map (·.add (i * 4))), l.length - i, c - i, (fun w => by rw [hr w]; simp [sliced]), by simp, ?_⟩
  rintro W ⟨a, cap, hv, h1, h2, h3, h4⟩
  simp only [Value.slice.injEq] at hv
  obtain ⟨rfl, -, rfl⟩ := hv
  refine ⟨_, _, by rw [List.length_drop], by rw [List.length_drop]; omega, by omega, fun x hx => h3 x (List.mem_of_mem_drop hx), ?_⟩
  intro j hj
  have hj' : j + i < l.length := by simp at hj; omega
  obtain ⟨g, rfl, e0, e1, e2, e3⟩ := h4 (j + i) hj'
  have hne : ¬ c = i := by omega
  have hx : (l.drop i)[j] = l[j + i] := by rw [List.getElem_drop]; congr 1; omega
  rw [hx, if_neg hne]
  have hadd : (g.add (i * 4)).add (j * 4) = g.add ((j + i) * 4) := by rw [addr_add, Nat.add_mul]
  exact ⟨_, rfl, by rw [hadd]; exact e0, by rw [hadd]; exact e1, by rw [hadd]; exact e2, by rw [hadd]; exact e3⟩
namespace S
theorem sorted_nodup {l : Nm} (h : Sorted sd.lt l) : (l.map Prod.fst).Nodup := by
  unfold List.Nodup
  rw [List.pairwise_map]
  exact List.Pairwise.imp (fun {a b} hab e => by rw [e] at hab; exact absurd hab (by rw [strict_sd.irrefl]; decide)) h
/-- What a fresh transaction reads. -/
theorem getR_fresh {X : Bx} {Vs : List Ver} (hB : BoxInv X Vs) (s : ByteArray) : getR false [] X.T s = if okName s then (match findR s X.T.toList with | some p => (p.2, (0 : Int)) | none => ((0 : Int), (5 : Int))) else ((0 : Int), (13 : Int)) := by
  have h := (inv_get (inv_begin hB 0 0 0) s).1
  dsimp only at h
  rw [h]
  have e : (beginR Vs).sees = X.T.toList := hB.list.symm
  have e2 : (beginR Vs).done = false := rfl
  unfold getRT
  rw [e2, if_neg (by decide), e]
  by_cases hk : okName s
  · rw [if_pos hk, if_pos hk]
    cases findR s X.T.toList <;> rfl
  · rw [if_neg hk, if_neg hk]
theorem getR_listed {X : Bx} {Vs : List Ver} (hB : BoxInv X Vs) {j : Nat} (hj : j < X.T.toList.length) : getR false [] X.T X.T.toList[j].1 = (X.T.toList[j].2, 0) ∧ X.T.toList[j].1.size ≤ 32 := by
  have hg : getA X.T.toList[j].1 X.T.toList = some X.T.toList[j].2 := getA_at (sorted_nodup hB.sorted) (j := j) (by rw [List.getElem?_eq_getElem hj])
  have hk : okName X.T.toList[j].1 := hB.valid _ (by rw [hg]; rfl)
  refine ⟨?_, hk.2⟩
  rw [getR_fresh hB, if_pos hk, findR_getA, hg]
  rfl
/-- Blocks that are kept. -/
theorem TxAt.fr {n0 : Lo} {A B : World} {b : Nat} {x : Tx} (h : TxAt A b x) (hf : Fr n0 A B) (h1 : x.t ∈ n0.ex) (h2 : x.r ∈ n0.ex) (h3 : x.c ∈ n0.ex) : TxAt B b x := by
  obtain ⟨l1, l2, l3⟩ := h.lt
  obtain ⟨k1, k2, k3, k4, k5⟩ := h
  refine ⟨?_, k2.keep (hf.keep _ (by decide) (by decide) (by decide)), MapAt.of_block k3 (hf.block _ l2 (.inr h2)), MapAt.of_block k4 (hf.block _ l3 (.inr h3)), k5⟩
  unfold TxnC at k1 ⊢
  rw [hf.block _ l1 (.inr h1)]; exact k1
/-- Blocks made since are put aside. -/
theorem PlAt.guard {K p lo b : Nat} {A B : World} {X : Bx} {Vs : List Ver} {m : Sl} {rs : Nat → R5} {f : Slots} (h : PlAt K ⟨lo, [], b⟩ A p X Vs m rs f) (hb : Below A.heap.size A B) {ex : List Nat} (he : ∀ e ∈ ex, A.heap.size ≤ e ∧ e < B.heap.size) : PlAt K ⟨lo, ex, b⟩ B p X Vs m rs f := by
  obtain ⟨h1, h2, h3, h4, h5, ⟨g1, g2, g3, g4, g5⟩, h6, h7⟩ := h
  have ok : ∀ k, k < A.heap.size → (⟨lo, [], b⟩ : Lo).ok k → (⟨lo, ex, b⟩ : Lo).ok k := fun k hk ho => ⟨ho.1, fun hin => by have := (he k hin).1; omega⟩
  have lx := h3.lt
  refine ⟨box_below hb h1, h2.below hb, h3.below hb, h4, h5, ⟨ok _ (Array.getElem?_eq_some_iff.1 h1).1 g1, ok _ lx.1 g2, ok _ lx.2 g3, ⟨Nat.le_trans g4.1 hb.size, fun e hin => (he e hin).2⟩, g5⟩, ?_, h7⟩
  intro k hk y hy
  obtain ⟨t1, t2, t3, t4, t5, t6, t7, t8, t9, t10⟩ := h6 k hk y hy
  have ly := t1.lt
  exact ⟨t1.below hb, t2, t3, t4, t5.below hb, t6, t7, ok _ ly.1 t8, ok _ ly.2.1 t9, ok _ ly.2.2 t10⟩
/-- A transaction that stands beside the box. -/
def ViewAt (lo : Nat) (w : World) (X : Bx) (x : Tx) : Prop := TxAt w X.b x ∧ BxAt w X ∧ X.apart x ∧ lo ≤ x.t ∧ lo ≤ x.r ∧ lo ≤ x.c ∧ lo ≤ X.b ∧ lo ≤ X.m
theorem ViewAt.below {lo : Nat} {A B : World} {X : Bx} {x : Tx} (h : ViewAt lo A X x) (hb : Below A.heap.size A B) : ViewAt lo B X x := by
  obtain ⟨h1, h2, h3⟩ := h
  exact ⟨h1.below hb, h2.below hb, h3⟩
theorem ViewAt.step {lo : Nat} {w w' : World} {X X' : Bx} {x x' : Tx} (h : ViewAt lo w X x) (hL : Left w w' X X' x x') (e1 : X'.b = X.b) (e2 : X'.m = X.m) (e3 : x'.t = x.t) (e4 : x'.r = x.r) (e5 : x'.c = x.c) :
    ViewAt lo w' X' x' ∧ Below lo w w' ∧ KeepT 49 w w' := by
  obtain ⟨h1, h2, ⟨h3, h3'⟩, g1, g2, g3, g4, g5⟩ := h
  have hk := Left.rest h2 h1 hL (t := 49) (by decide) (by decide)
  obtain ⟨l1, l2, l3, l4⟩ := hL
  refine ⟨⟨by rw [e1]; exact l1, l2, ⟨by rw [e2, e4]; exact h3, by rw [e2, e5]; exact h3'⟩, by omega, by omega, by omega, by omega, by omega⟩, l4.below ?_ (Nat.le_trans g1 (Nat.le_of_lt h1.lt.1)), hk⟩
  simp
  exact ⟨g1, g2, g3, g4, g5⟩
theorem view_get {lo : Nat} {w : World} {X : Bx} {x : Tx} (h : ViewAt lo w X x) (s : ByteArray) (hs : s.size ≤ 9223372036854775807) (hl : x.rd.length < 1000000) :
    Calls Try.prog 17 #[.pointer (some ⟨x.t, 0, none⟩), .string s] w fun e w' => e = .returned (.tuple #[.int .i64 (getR x.d x.ch x.T s).1, errV (getR x.d x.ch x.T s).2]) ∧ ViewAt lo w' X { x with rd := readG x.d x.rd x.ch s } ∧ Below lo w w' ∧ KeepT 49 w w' :=
  (tx_get h.2.1 h.1 h.2.2.1 s hs hl).mono fun _ _ ⟨he, hL⟩ => ⟨he, h.step hL rfl rfl rfl rfl rfl⟩
theorem view_commit {lo : Nat} {w : World} {X : Bx} {x : Tx} (h : ViewAt lo w X x) (hch : x.ch = []) (hN : 0 ≤ X.N) (hN2 : X.N ≤ 1000000) (hn : 0 ≤ x.n) (hn2 : x.n ≤ 1000000) (hsz : X.T.sz ≤ 800000) (hll : X.last.length ≤ 800000) :
    Calls Try.prog 20 #[.pointer (some ⟨x.t, 0, none⟩)] w fun e w' => e = .returned (if x.d = true then .tuple #[.int .i64 0, errV 7] else .tuple #[.int .i64 x.n, errV 0]) ∧ ViewAt lo w' X { x with d := true } ∧ Below lo w w' := by
  refine (tx_commit h.2.1 h.1 h.2.2.1 hN hN2 hn hn2 (by rw [hch]; simpa using hsz) (by rw [hch]; simpa using hll)).mono ?_
  rintro e w' ⟨n, c, X', rfl, hC, e1, e2, hL⟩
  rcases hC with ⟨h1, rfl, rfl, rfl⟩ | ⟨h1, h2, rfl, rfl, rfl⟩ | ⟨h1, h2, -⟩ | ⟨h1, h2, -⟩
  · have hs := h.step hL rfl rfl rfl rfl rfl
    exact ⟨by rw [if_pos h1], hs.1, hs.2.1⟩
  · have hs := h.step hL rfl rfl rfl rfl rfl
    exact ⟨by rw [if_neg (by rw [h1]; decide)], hs.1, hs.2.1⟩
  · exact absurd hch h2
  · exact absurd hch h2
end S
end Go.Proofs.Ytlfodhejpbjfcaa
