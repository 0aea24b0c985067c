/- access.spell: the whole text of an ID, appended to a text that has room. -/
import Derived.Test.YtjbllcakaljpgaaSpellP
import Derived.Test.YtjbllcakaljpgaaParts0
import Derived.Test.YtjbllcakaljpgaaBys
import Derived.Test.YtjbllcakaljpgaaTail
import Derived.Deep.DeepAppendRoom
namespace Go.Proofs.Ytjbllcakaljpgaa
open Go.RowKit Go.Lib
/-- Nothing that lay has turned but two blocks. -/
structure B2 (C D : Nat) (A B : World) : Prop where
  os : B.os = A.os
  tape : B.tape = A.tape
  output : B.output = A.output
  size : A.heap.size ≤ B.heap.size
  block : ∀ k, k < A.heap.size → k ≠ C → k ≠ D → B.heap[k]? = A.heap[k]?
namespace B2
theorem refl (C D : Nat) (A : World) : B2 C D A A := ⟨rfl, rfl, rfl, Nat.le_refl _, fun _ _ _ _ => rfl⟩
theorem trans {C D : Nat} {A B X : World} (h : B2 C D A B) (k : B2 C D B X) : B2 C D A X :=
  ⟨k.os.trans h.os, k.tape.trans h.tape, k.output.trans h.output, Nat.le_trans h.size k.size, fun i hi h1 h2 => (k.block i (Nat.lt_of_lt_of_le hi h.size) h1 h2).trans (h.block i hi h1 h2)⟩
theorem below {C D n : Nat} {A B X : World} (h : B2 C D A B) (k : Below n B X) (hn : A.heap.size ≤ n) : B2 C D A X :=
  ⟨k.os.trans h.os, k.tape.trans h.tape, k.output.trans h.output, Nat.le_trans h.size k.size, fun i hi h1 h2 => (k.block i (Nat.lt_of_lt_of_le hi hn)).trans (h.block i hi h1 h2)⟩
theorem obj {C D : Nat} {A B : World} (h : B2 C D A B) {k : Nat} (h1 : k ≠ C) (h2 : k ≠ D) {o : Obj} (ho : A.heap[k]? = some o) : B.heap[k]? = some o := (h.block k (Array.getElem?_eq_some_iff.1 ho).1 h1 h2).trans ho
theorem set {C D : Nat} {A B : World} (h : B2 C D A B) {p : Addr} (hp : A.heap.size ≤ p.block ∨ p.block = C ∨ p.block = D) (u : Value) : B2 C D A (B.setCell p u) :=
  ⟨h.os, h.tape, h.output, Nat.le_trans h.size (by simp [World.setCell]), fun k hk h1 h2 => (Below.heap_setCell _ _ _ _ (by omega)).trans (h.block k hk h1 h2)⟩
theorem grown {C D r : Nat} {A B X : World} (h : B2 C D A B) (hg : B.grownBy X (some r)) (hr : r = C ∨ r = D) : B2 C D A X :=
  ⟨hg.os.trans h.os, hg.tape.trans h.tape, hg.output.trans h.output, Nat.le_trans h.size hg.size, fun k hk h1 h2 => (hg.block k (Nat.lt_of_lt_of_le hk h.size) (fun e => by cases e; omega)).trans (h.block k hk h1 h2)⟩
theorem under {C D n : Nat} {W A B : World} (h : Below n W A) (k : B2 C D A B) (hC : n ≤ C) (hD : n ≤ D) (hn : n ≤ A.heap.size) : Below n W B :=
  ⟨k.os.trans h.os, k.tape.trans h.tape, k.output.trans h.output, Nat.le_trans h.size k.size, fun i hi => (k.block i (Nat.lt_of_lt_of_le hi hn) (by omega) (by omega)).trans (h.block i hi)⟩
end B2
/-- A row whose block is as it was. -/
theorem SlA.same {α : Type} {B₀ g n c : Nat} {A B : World} {e : TypeId} {size : Nat} {enc : α → List Value} {l : List α} (h : SlA B₀ A e size enc (.slice (some ⟨g, 0, none⟩) n c) l) (hg : B.heap[g]? = A.heap[g]?) : SlA B₀ B e size enc (.slice (some ⟨g, 0, none⟩) n c) l := by
  refine ⟨h.1, ?_⟩
  rcases h.2 with ⟨hn, -⟩ | ⟨g', cap, cur, hv, hb, hgg, rest⟩
  · cases hn
  · cases hv
    exact .inr ⟨g, c, cur, rfl, hb, hg.trans hgg, rest⟩
theorem SlA.free {α : Type} {B₀ g n c : Nat} {A : World} {e : TypeId} {size : Nat} {enc : α → List Value} {l : List α} (h : SlA B₀ A e size enc (.slice (some ⟨g, 0, none⟩) n c) l) : (∃ cs, A.heap[g]? = some (.cells cs e (0, 0))) ∧ B₀ ≤ g ∧ ∀ j, A.frozen? ⟨g, j, none⟩ = false := by
  rcases h.2 with ⟨hn, -⟩ | ⟨g', cap, cur, hv, hb, hgg, rest⟩
  · cases hn
  · cases hv
    exact ⟨⟨cur, hgg⟩, hb, fun j => by simp [World.frozen?, hgg]⟩
namespace M
attribute [local go_sem] Oper.semAt_some
/-- A text in a box, with room for n letters. -/
structure Tb (b0 : Nat) (W : World) (gb g n : Nat) (l : List Nat) : Prop where
  box : W.heap[gb]? = some (.cells #[.slice (some ⟨g, 0, none⟩) l.length n] 37 (0, 0))
  row : Bys b0 W (.slice (some ⟨g, 0, none⟩) l.length n) l
section
variable {b0 gb g n : Nat} {W W' : World} {l : List Nat}
theorem Tb.keep (h : Tb b0 W gb g n l) (h1 : W'.heap[gb]? = W.heap[gb]?) (h2 : W'.heap[g]? = W.heap[g]?) : Tb b0 W' gb g n l := ⟨h1.trans h.box, SlA.same h.row h2⟩
theorem Tb.lt (h : Tb b0 W gb g n l) : gb < W.heap.size ∧ g < W.heap.size ∧ gb ≠ g := by
  obtain ⟨⟨cs, hc⟩, -, -⟩ := SlA.free h.row
  refine ⟨(Array.getElem?_eq_some_iff.1 h.box).1, (Array.getElem?_eq_some_iff.1 hc).1, fun e => ?_⟩
  subst e
  have := h.box
  rw [hc] at this
  simp at this
theorem Tb.under {m : Nat} (h : Tb b0 W gb g n l) (hb : Below m W W') (h1 : gb < m) (h2 : g < m) : Tb b0 W' gb g n l := h.keep (hb.block _ h1) (hb.block _ h2)
theorem Tb.below (h : Tb b0 W gb g n l) (hb : Below W.heap.size W W') : Tb b0 W' gb g n l := h.under hb h.lt.1 h.lt.2.1
theorem Tb.cell (h : Tb b0 W gb g n l) : W.cell? ⟨gb, 0, none⟩ = some (.slice (some ⟨g, 0, none⟩) l.length n) ∧ W.frozen? ⟨gb, 0, none⟩ = false := by
  have := h.box
  simp [World.cell?, World.frozen?, this]
theorem Tb.room (h : Tb b0 W gb g n l) : l.length ≤ n ∧ n ≤ maxLen := by
  rcases SlA.shape h.row with ⟨h, -⟩ | ⟨g', c, h, h1, h2⟩
  · cases h
  · cases h; exact ⟨h1, h2⟩
theorem StAt.b2 {n0 B most : Nat} {E : List En} (hs : StAt n0 W B most E) (h : Tb b0 W gb g n l) (hb : B2 gb g W W') : StAt n0 W' B most E := by
  obtain ⟨lv, mb, k1, k2, k3, k4⟩ := hs
  obtain ⟨⟨cs, hc⟩, -, -⟩ := SlA.free h.row
  have hne : ∀ (k : Nat) (cs' : Array Value) (t : TypeId) (fz : Nat × Nat), W.heap[k]? = some (.cells cs' t fz) → t ≠ 37 → t ≠ 5 → W'.heap[k]? = some (.cells cs' t fz) := fun k cs' t fz hk h1 h2 => hb.obj (fun e => by subst e; rw [h.box] at hk; simp at hk; exact h1 hk.2.1.symm) (fun e => by subst e; rw [hc] at hk; simp at hk; exact h2 hk.2.1.symm) hk
  refine ⟨lv, mb, hne _ _ _ _ k1 (by decide) (by decide), SlA.keep k2 (fun k cs fz h => hne _ _ _ _ h (by decide) (by decide)), ?_, k4⟩
  obtain ⟨es, c, h5, h6⟩ := k3
  refine ⟨es, c, hb.obj (fun e => ?_) (fun e => ?_) h5, h6⟩
  · subst e; have := h.box; rw [h5] at this; cases this
  · subst e; rw [h5] at hc; cases hc
theorem Tb.keepT {t : TypeId} (h : Tb b0 W gb g n l) (hb : B2 gb g W W') (h1 : t ≠ 37) (h2 : t ≠ 5) : KeepT t W W' := by
  obtain ⟨⟨cs, hc⟩, -, -⟩ := SlA.free h.row
  exact fun k cs' fz hk => hb.obj (fun e => by subst e; rw [h.box] at hk; simp at hk; exact h1 hk.2.1.symm) (fun e => by subst e; rw [hc] at hk; simp at hk; exact h2 hk.2.1.symm) hk
/-- The text grows within its room; the box is told. -/
theorem Tb.told {l' : List Nat} (h : W.heap[gb]? = some (.cells #[.slice (some ⟨g, 0, none⟩) l.length n] 37 (0, 0))) (hg : gb ≠ g) (hr : Bys b0 W (.slice (some ⟨g, 0, none⟩) l'.length n) l') : Tb b0 (W.setCell ⟨gb, 0, none⟩ (.slice (some ⟨g, 0, none⟩) l'.length n)) gb g n l' :=
  ⟨heap_set0 _ h, SlA.same hr (Below.heap_setCell _ _ _ _ (fun e => hg e.symm))⟩
end
/-- append within the room: the run. -/
theorem run_room {b0 g n : Nat} {w : World} {l l2 : List Nat} (h : Bys b0 w (.slice (some ⟨g, 0, none⟩) l.length n) l) {a : Addr} {c : Nat} (hc : ∀ (j x : Nat), l2[j]? = some x → w.cell? (a.add j) = some (.int .u8 x)) (hr : l.length + l2.length ≤ n) (ty : TypeId) :
    ∃ w', (Builtin.append_ #[37, 37] ty #[.slice (some ⟨g, 0, none⟩) l.length n, .slice (some a) l2.length c]).run Try.prog w = .ok (.slice (some ⟨g, 0, none⟩) (l.length + l2.length) n) w' ∧ Bys b0 w' (.slice (some ⟨g, 0, none⟩) (l ++ l2).length n) (l ++ l2) ∧ w.grownBy w' (some g) := by
  obtain ⟨ht, i, z, hi, hz, hsz, hby, hzs, h0, hb0⟩ := elemB
  obtain ⟨w', hrun, hown, hg⟩ := run_append_own_spare (P := Try.prog) w b0 37 ty 5 i 1 ht hi hsz g l.length n (l.flatMap encB) h a l2.length c (l2.flatMap encB) (flatMap_len encB_len l2) (by
    intro j u hu
    have hjl : j < l2.length := by have := (List.getElem?_eq_some_iff.1 hu).1; rwa [flatMap_len encB_len, Nat.mul_one] at this
    have h1 := flatMap_get encB_len l2 j 0 hjl (by omega)
    rw [Nat.mul_one, Nat.add_zero, hu] at h1
    have h2 := hc j l2[j] (List.getElem?_eq_getElem hjl)
    rw [h2, h1]; rfl) (by
    intro u hu
    obtain ⟨y, -, hy⟩ := List.mem_flatMap.1 hu
    exact encB_one y u hy) hr
  refine ⟨w', hrun, ?_, hg⟩
  have := SlA.append (l2 := l2) hown rfl rfl rfl
  rwa [List.length_append]
abbrev Cps (B : Nat) (W : World) (v : Value) (L : List Cp) : Prop := SlA B W 139 2 encCp v L
theorem elemCp : Elem Try.prog 140 139 2 16 := elem_of Try.underlying140 (z := .agg #[.int .i64 0, .int .i64 0]) (by kernel_rfl) rfl (by decide) (by decide)
/-- What holds ahead of each round. -/
def Spelling (W : World) (E : List En) (b0 gb g n : Nat) (tot : List Nat) (k : Nat) (tv : Value) (wr : World) : Prop :=
  ∃ (L : List Cp) (acc : List Nat), muc E L = k ∧ Cps W.heap.size wr tv L ∧ Tb b0 wr gb g n acc ∧ (∀ s ∈ L, OkC E s) ∧ bndc (1 + 3 * E.length) L ∧ acc ++ denc E L = tot ∧ B2 gb g W wr
set_option maxRecDepth 100000 in
set_option maxHeartbeats 8000000 in
theorem spell_any {n0 B most : Nat} {W : World} {E : List En} (hs : StAt n0 W B most E) (hwf : Wf E) (hE : E.length ≤ 1048576) {b0 gb g n id : Nat} {l : List Nat} (hT : Tb b0 W gb g n l) (hid0 : 0 < id) (hid : id ≤ E.length) (hr : l.length + (txt E id).length ≤ n) :
    Calls Try.prog 44 #[.pointer (some ⟨B, 0, none⟩), .int .i64 id, .pointer (some ⟨gb, 0, none⟩)] W fun e w' => e = .returned .nilIface ∧ Tb b0 w' gb g n (l ++ txt E id) ∧ B2 gb g W w' := by
  have HF : ∀ f, Fence.wide.fn f := fun _ => trivial
  have HWF := Lib.hid hwf; have HS0 := Lib.hid hs; have HT0 := Lib.hid hT
  obtain ⟨tot, htot⟩ : ∃ t, l ++ txt E id = t := ⟨_, rfl⟩
  have HTL : Hid (tot.length ≤ n) := Lib.hid (by rw [← htot, List.length_append]; exact hr)
  rw [htot]
  obtain ⟨W1, hW1⟩ : ∃ w, W.alloc (.cells #[.int .i64 id, .int .i64 1] 139) = w := ⟨_, rfl⟩
  have l1 : Cps W.heap.size W1 (.slice (some ⟨W.heap.size, 0, none⟩) 1 1) [⟨id, 1⟩] := by rw [← hW1]; exact SlA.lit (l := [⟨id, 1⟩]) encCp_len rfl (by simp; unfold maxLen; omega)
  have b1 : Below W.heap.size W W1 := by rw [← hW1]; exact (Below.refl _ _).alloc (Nat.le_refl _) _
  have HP : Hid (Spelling W E b0 gb g n tot (muc E [⟨id, 1⟩]) (.slice (some ⟨W.heap.size, 0, none⟩) 1 1) W1) := Lib.hid ⟨[⟨id, 1⟩], l, rfl, l1, hT.below b1, by
    intro s hs
    simp only [List.mem_singleton] at hs
    subst hs
    exact ⟨hid0, hid, by dsimp only; omega, by dsimp only; omega⟩, by
    intro k s hs
    cases k with
    | zero => simp at hs; subst hs; dsimp only; omega
    | succ k => simp at hs, by rw [denc_one]; unfold denC; rw [rep_one]; exact htot, (B2.refl gb g W).below b1 (Nat.le_refl _)⟩
  clear hwf hs hT htot l1 b1 hr hid0 hid
  go_enter Try.func44, Try.ntmps44
  go_wp2_with fail
  clear hW1
  go_loopg [7] (muc E [⟨id, 1⟩]) (fun k tv wr => Spelling W E b0 gb g n tot k tv wr)
  case atStart => exact HP.out
  case round =>
    clear HP
    obtain ⟨L, acc, hk, hS, hT, hOk, hBd, hDen, hB⟩ := hrel
    rcases List.eq_nil_or_concat L with rfl | ⟨L', s, rfl⟩
    · obtain ⟨ta, tc, rfl⟩ := hS.len
      have hD : acc = tot := by rw [← hDen]; simp [denc]
      have HT := Lib.hid hT; have HB := Lib.hid hB
      rw [hD] at HT
      clear hk hS hT hOk hBd hDen hB hD
      go_wp2_with fail
      go_ret
      exact ⟨rfl, HT.out, HB.out⟩
    · rw [List.concat_eq_append] at hk hS hOk hBd hDen
      obtain ⟨ta, tc, rfl⟩ := hS.len
      rw [List.length_append, List.length_singleton] at hS ⊢
      obtain ⟨j, hj⟩ : ∃ j, L'.length = j := ⟨_, rfl⟩
      rw [hj] at hS ⊢
      have hjb : j ≤ 4000000 := by have := hBd.len; rw [List.length_append, List.length_singleton] at this; omega
      have hsh := hS.shape
      rw [List.length_append, List.length_singleton, hj] at hsh
      obtain ⟨gs, rfl, hjc⟩ : ∃ g, ta = some ⟨g, 0, none⟩ ∧ j + 1 ≤ tc := by
        rcases hsh with ⟨-, h⟩ | ⟨g, cap, h, h1, h2⟩
        · simp at h
        · simp only [Value.slice.injEq] at h
          obtain ⟨rfl, -, rfl⟩ := h
          exact ⟨g, rfl, h1⟩
      have hjn : j < (L' ++ [s]).length := by simp [hj]
      have hsj : (L' ++ [s])[j] = s := by simp [← hj]
      have q0 := SlA.cell encCp_len hS hjn (j := 0) (by omega)
      have q1 := SlA.cell encCp_len hS hjn (j := 1) (by omega)
      rw [hsj] at q0 q1
      replace q0 : wr.cell? ⟨gs, j * 2, none⟩ = some (.int .i64 s.id) := q0
      replace q1 : wr.cell? ⟨gs, j * 2 + 1, none⟩ = some (.int .i64 s.times) := q1
      obtain ⟨⟨cg, hcg⟩, hgs, hfr⟩ := SlA.free hS
      have f1 := hfr (j * 2 + 1)
      have hos := hOk s (by simp)
      obtain ⟨o1, o2, o3, o4⟩ := hos
      obtain ⟨w1, hw1⟩ : ∃ w, wr.setCell ⟨gs, j * 2 + 1, none⟩ (.int .i64 ((s.times - 1 : Nat) : Int)) = w := ⟨_, rfl⟩
      have hS1 : Cps W.heap.size w1 (.slice (some ⟨gs, 0, none⟩) (j + 1) tc) (L' ++ [⟨s.id, s.times - 1⟩]) := by
        rw [← hw1, ← hj]
        rw [← hj] at hS
        exact SlA.put encCp_len (b := ⟨s.id, s.times - 1⟩) hS (j := 1) (by omega) rfl
      have x1 := SlA.cell encCp_len hS1 (i := j) (by simp [hj]) (j := 1) (by omega)
      rw [show (L' ++ [(⟨s.id, s.times - 1⟩ : Cp)])[j]'(by simp [hj]) = ⟨s.id, s.times - 1⟩ by simp [← hj]] at x1
      replace x1 : w1.cell? ⟨gs, j * 2 + 1, none⟩ = some (.int .i64 ((s.times - 1 : Nat) : Int)) := x1
      have b1 : Below W.heap.size wr w1 := by rw [← hw1]; exact (Below.refl _ _).setCell (p := ⟨gs, j * 2 + 1, none⟩) hgs _
      have HT1 := Lib.hid (hT.under b1 HT0.out.lt.1 HT0.out.lt.2.1)
      have HB1 := Lib.hid (hB.below b1 (Nat.le_refl _))
      have hdw : IntKind.i64.wrap ((s.times : Int) - 1) = ((s.times - 1 : Nat) : Int) := by rw [IntKind.wrap_i64]; omega
      have HOS : Hid (OkC E s) := Lib.hid ⟨o1, o2, o3, o4⟩
      have HOK := Lib.hid hOk; have HBD := Lib.hid hBd; have HJ := Lib.hid hj; have HS1 := Lib.hid hS1
      have HST := Lib.hid (spell_step HWF.out HOS.out)
      have HRL := Lib.hid (HWF.out.rule s.id o1 o2).cases
      have HMU := Lib.hid (dropC_mu (L := L') HOS.out); have HKM := Lib.hid hk
      have HDEN := Lib.hid ((congrArg (acc ++ ·) (dropC_den (L := L') HOS.out)).trans hDen)
      have HRU : Hid (∀ w, Below w1.heap.size w1 w → Calls Try.prog 60 #[.pointer (some ⟨B, 0, none⟩), .int .i64 s.id] w fun e w' => e = .returned (.tuple #[ruV (entAt E s.id).ru, .nilIface]) ∧ Below w.heap.size w w') := Lib.hid (fun w hw' => rule_any ((HS0.out.b2 HT0.out HB1.out).below hw') HOS.out.1 HOS.out.2.1 hE)
      obtain ⟨r, hr⟩ : ∃ r, (entAt E s.id).ru = r := ⟨_, rfl⟩
      rw [hr] at HRU HST HRL
      unfold ruV at HRU
      have HAL : Hid (acc.length + (txt E s.id).length ≤ n) := Lib.hid (by
        have h1 := congrArg List.length HDEN.out
        simp only [List.length_append] at h1
        have := HTL.out
        omega)
      have hj1 : (j : Int) < ((j + 1 : Nat) : Int) := by omega
      have hj2 : (j : Int) ≤ (tc : Int) := by omega
      have hj3 : j ≤ tc := by omega
      have hj4 : IntKind.i64.wrap (((j + 1 : Nat) : Int) - 1) = (j : Int) := by rw [IntKind.wrap_i64]; omega
      have hj5 : wrap64 (j : Int) = (j : Int) := by unfold wrap64; omega
      have HNX : Hid (∀ tv' w', Cps W.heap.size w' tv' (dropC L' s ++ kids r) → Tb b0 w' gb g n (acc ++ emit r) → B2 gb g W w' → Spelling W E b0 gb g n tot (muc E (dropC L' s ++ kids r)) tv' w') := Lib.hid (fun tv' w' h1 h2 h3 => ⟨_, _, rfl, h1, h2, by
        intro x hx
        rcases List.mem_append.1 hx with h | h
        · exact dropC_ok HOK.out x h
        · exact (HST.out.2.2.1 x h).1, HBD.out.push (fun x hx => (HST.out.2.2.1 x hx).2) HST.out.2.2.2, by
        have h := HDEN.out
        try dsimp only at h
        rw [denc_append, List.append_assoc, ← List.append_assoc (emit r), HST.out.1]
        exact h, h3⟩)
      have HM : Hid (muc E (dropC L' s ++ kids r) < muc E (L' ++ [s])) := Lib.hid (by have h1 := HMU.out; have h2 := HST.out.2.1; rw [muc_append]; omega)
      obtain ⟨tm, htm⟩ : ∃ x, s.times - 1 = x := ⟨_, rfl⟩
      rw [htm] at hw1 x1 hdw
      have HTM := Lib.hid htm
      clear hk hS hT hOk hBd hDen hB hsh hjn hsj hj b1 hS1 hcg hfr o1 o2 o3 o4 hr htm hjc
      have HLB : Hid ((dropC L' s).length ≤ 4000000) := Lib.hid (by have h1 := dropC_len L' s; have h2 := HJ.out; have h3 := HBD.out.drop.len; omega)
      clear hjb
      by_cases ht1 : tm = 0
      · have HSD : Hid (Cps W.heap.size w1 (.slice (some ⟨gs, 0, none⟩) j tc) (dropC L' s)) := Lib.hid (by unfold dropC; rw [if_pos (by have := HOS.out.2.2.1; have := HTM.out; omega)]; exact SlA.pop encCp_len HS1.out HJ.out)
        have htb : ((tm : Int) == 0) = true := by simp [ht1]
        clear ht1 HS1
        go_wp2_with fail
        refine (HRU.out w1 (Below.refl _ _)).mono ?_; rintro e w3 ⟨rfl, b3⟩
        obtain ⟨wz, w4, hz, hs, kr, br, ⟨p0, p1, p2, p3, p4⟩, e0, e1, e2, e3, e4⟩ := newRu w3 r
        obtain ⟨gr, hgr⟩ : ∃ x, w3.heap.size = x := ⟨_, rfl⟩
        rw [hgr] at hs kr p0 p1 p2 p3 p4 e0 e1 e2 e3 e4
        obtain ⟨y0, y1, y2, y3, y4⟩ := kr.cells
        have b4 := Below.after b3 br
        have HT4 := Lib.hid (HT1.out.below b4)
        have HB4 := Lib.hid (HB1.out.below b4 HB1.out.size)
        have HS4 := Lib.hid (HSD.out.below b4)
        have KR := Lib.hid kr
        clear b3 br b4 kr HT1 HB1 HSD
        rcases HRL.out with ⟨hk, -⟩ | ⟨hk, -⟩ | ⟨hk, -⟩
        · have hkb : ((r.kind : Int) == 1) = true := by simp [hk]
          have HKD : Hid (kids r = [] ∧ emit r = [r.letter]) := Lib.hid (by unfold kids emit; rw [if_pos hk, if_pos hk]; exact ⟨rfl, rfl⟩)
          have HRM : Hid (acc.length + 1 ≤ n) := Lib.hid (by
            have h1 := congrArg List.length HST.out.1
            rw [HKD.out.1, HKD.out.2] at h1
            simp [denc] at h1
            have := HAL.out
            omega)
          clear hk
          go_wp2_with fail
          clear hz hs p0 p1 p2 p3 p4 e0 e1 e2 e3 e4 y0 y1 y2 y3 y4 hgr q0 q1 x1 f1 hw1
          obtain ⟨wd, hwd⟩ : ∃ w, w4.drew = w := ⟨_, rfl⟩
          have SD : Below w4.heap.size w4 wd := by rw [← hwd]; exact (Below.refl _ _).drew
          refine wp_region_anyH (fun w : World => w.cell? ⟨gb, 0, none⟩ = some (.slice (some ⟨g, 0, none⟩) acc.length n) ∧ w.cell? ⟨gr, 1, none⟩ = some (.int .u8 r.letter)) (by kernel_rfl) ?_
          rw [hwd]
          clear hwd
          have mb : ∀ w : World, (w.cell? ⟨gb, 0, none⟩ = some (.slice (some ⟨g, 0, none⟩) acc.length n) ∧ w.cell? ⟨gr, 1, none⟩ = some (.int .u8 r.letter)) → w.cell? ⟨gb, 0, none⟩ = some (.slice (some ⟨g, 0, none⟩) acc.length n) := fun _ h => h.1
          have ml : ∀ w : World, (w.cell? ⟨gb, 0, none⟩ = some (.slice (some ⟨g, 0, none⟩) acc.length n) ∧ w.cell? ⟨gr, 1, none⟩ = some (.int .u8 r.letter)) → w.cell? ⟨gr, 1, none⟩ = some (.int .u8 r.letter) := fun _ h => h.2
          have HTd := Lib.hid (HT4.out.below SD); have HBd := Lib.hid (HB4.out.below SD HB4.out.size); have HSd := Lib.hid (HS4.out.below SD); have KRd := Lib.hid (show RuC wd gr r from below_block SD KR.out)
          have S0 : wd.cell? ⟨gb, 0, none⟩ = some (.slice (some ⟨g, 0, none⟩) acc.length n) ∧ wd.cell? ⟨gr, 1, none⟩ = some (.int .u8 r.letter) := ⟨HTd.out.cell.1, KRd.out.cells.2.1⟩
          clear SD HT4 HB4 HS4 KR
          refine AnyH.take (i := 0) (d := some 65) (v := ?_) (by kernel_rfl) rfl rfl HF (fun _ _ _ h => h) (.inl ⟨by rfl, ?_⟩) (by first | assumption | rfl) ?_
          rotate_left
          · intro w hS; try subst hS
            go_simp; try with_reducible rfl
          try simp only [Act.put, List.setIfInBounds_toArray, List.set_cons_zero, List.set_cons_succ]
          refine AnyH.take (i := 1) (d := some 66) (v := ?_) (by kernel_rfl) rfl rfl HF (fun _ _ _ h => h) (.inl ⟨by rfl, ?_⟩) (by first | assumption | rfl) ?_
          rotate_left
          · intro w hS; try subst hS
            go_simp; try with_reducible rfl
          try simp only [Act.put, List.setIfInBounds_toArray, List.set_cons_zero, List.set_cons_succ]
          refine AnyH.take (i := 2) (d := some 67) (v := ?_) (by kernel_rfl) rfl rfl HF (fun _ _ _ h => h) (.inl ⟨by rfl, ?_⟩) (by first | assumption | rfl) ?_
          rotate_left
          · intro w hS; try subst hS
            go_simp; try with_reducible rfl
          try simp only [Act.put, List.setIfInBounds_toArray, List.set_cons_zero, List.set_cons_succ]
          refine AnyH.take (i := 3) (d := some 68) (v := ?_) (by kernel_rfl) rfl rfl HF (fun _ _ _ h => h) (.inl ⟨by rfl, ?_⟩) (by first | assumption | rfl) ?_
          rotate_left
          · intro w hS; try subst hS
            go_simp; try with_reducible rfl
          try simp only [Act.put, List.setIfInBounds_toArray, List.set_cons_zero, List.set_cons_succ]
          refine AnyH.take (i := 4) (d := some 69) (v := ?_) (by kernel_rfl) rfl rfl HF (fun _ _ _ h => h) (.inl ⟨by rfl, ?_⟩) (by first | assumption | rfl) ?_
          rotate_left
          · intro w hS; try subst hS
            go_simp; try with_reducible rfl
          try simp only [Act.put, List.setIfInBounds_toArray, List.set_cons_zero, List.set_cons_succ]
          refine AnyH.take (i := 5) (d := some 70) (v := ?_) (by kernel_rfl) rfl rfl HF (fun _ _ _ h => h) (.inl ⟨by rfl, ?_⟩) (by first | assumption | rfl) ?_
          rotate_left
          · intro w hS; try subst hS
            go_simp; try with_reducible rfl
          try simp only [Act.put, List.setIfInBounds_toArray, List.set_cons_zero, List.set_cons_succ]
          refine AnyH.one (i := 6) (by kernel_rfl) (by kernel_rfl) rfl HF (by rfl) (fun K hK => ?_)
          go_simp
          obtain ⟨w6, hw6⟩ : ∃ w, wd.alloc (.cells #[.int .u8 r.letter] 5) = w := ⟨_, rfl⟩
          have b6 : Below wd.heap.size wd w6 := by rw [← hw6]; exact (Below.refl _ _).alloc (Nat.le_refl _) _
          have hn6 : w6.heap[wd.heap.size]? = some (.cells #[.int .u8 r.letter] 5 (0, 0)) := by rw [← hw6]; exact heap_new' _ _
          rw [hw6]
          clear hw6
          have HT6 := Lib.hid (HTd.out.below b6); have HB6 := Lib.hid (HBd.out.below b6 HBd.out.size); have HS6 := Lib.hid (HSd.out.below b6); have KR6 := Lib.hid (show RuC w6 gr r from below_block b6 KRd.out)
          have S6 : w6.cell? ⟨gb, 0, none⟩ = some (.slice (some ⟨g, 0, none⟩) acc.length n) ∧ w6.cell? ⟨gr, 1, none⟩ = some (.int .u8 r.letter) := ⟨HT6.out.cell.1, KR6.out.cells.2.1⟩
          refine hK _ _ S6 ?_
          clear hK K b6
          try simp only [Act.put, List.setIfInBounds_toArray, List.set_cons_zero, List.set_cons_succ]
          obtain ⟨w7, hrun, hr7, hg7⟩ := run_room (l2 := [r.letter]) HT6.out.row (a := ⟨wd.heap.size, 0, none⟩) (c := 1) (by
            intro j x hx
            cases j with
            | zero => simp at hx; subst hx; simp [World.cell?, hn6, Addr.add]
            | succ j => simp at hx) HRM.out 37
          replace hrun : (Builtin.append_ #[37, 37] 37 #[.slice (some ⟨g, 0, none⟩) acc.length n, .slice (some ⟨wd.heap.size, 0, none⟩) 1 1]).run Try.prog w6 = .ok (.slice (some ⟨g, 0, none⟩) (acc.length + 1) n) w7 := hrun
          have hb7 : w7.heap[gb]? = some (.cells #[.slice (some ⟨g, 0, none⟩) acc.length n] 37 (0, 0)) := (hg7.block gb HT6.out.lt.1 (fun e => HT6.out.lt.2.2 (Option.some.inj e))).trans HT6.out.box
          obtain ⟨⟨cs6, hc6⟩, -, -⟩ := SlA.free HT6.out.row
          have KR7 : RuC w7 gr r := by
            have h := KR6.out
            unfold RuC at h ⊢
            rw [hg7.block gr (Array.getElem?_eq_some_iff.1 h).1 (fun e => by cases e; rw [hc6] at h; simp at h)]
            exact h
          have S7 : w7.cell? ⟨gb, 0, none⟩ = some (.slice (some ⟨g, 0, none⟩) acc.length n) ∧ w7.cell? ⟨gr, 1, none⟩ = some (.int .u8 r.letter) := ⟨by simp [World.cell?, hb7], KR7.cells.2.1⟩
          have HS7 : Hid (Cps W.heap.size w7 (.slice (some ⟨gs, 0, none⟩) j tc) (dropC L' s)) := Lib.hid (by
            obtain ⟨⟨cs, hc⟩, -, -⟩ := SlA.free HS6.out
            exact SlA.same HS6.out (hg7.block _ (Array.getElem?_eq_some_iff.1 hc).1 (fun e => by cases e; rw [hc6] at hc; simp at hc)))
          have HB7 := Lib.hid (HB6.out.grown hg7 (.inr rfl))
          have hf7 : w7.frozen? ⟨gb, 0, none⟩ = false := by simp [World.frozen?, hb7]
          have HX1 : Hid (Tb b0 (w7.setCell ⟨gb, 0, none⟩ (.slice (some ⟨g, 0, none⟩) (acc.length + 1) n)) gb g n (acc ++ [r.letter])) := Lib.hid (by
            have := Tb.told (l' := acc ++ [r.letter]) hb7 HT6.out.lt.2.2 hr7
            rwa [List.length_append, List.length_singleton] at this)
          have HX2 := Lib.hid (HB7.out.set (p := ⟨gb, 0, none⟩) (.inr (.inl rfl)) (.slice (some ⟨g, 0, none⟩) (acc.length + 1) n))
          have HX3 : Hid (Cps W.heap.size (w7.setCell ⟨gb, 0, none⟩ (.slice (some ⟨g, 0, none⟩) (acc.length + 1) n)) (.slice (some ⟨gs, 0, none⟩) j tc) (dropC L' s)) := Lib.hid (SlA.setCell HS7.out (a := ⟨gb, 0, none⟩) _ hb7 (by decide))
          refine AnyH.one (i := 7) (by kernel_rfl) (by kernel_rfl) rfl HF (by rfl) (fun K hK => ?_)
          simp [execOp, resolve, invoke, builtin, hrun, Result.andThen, Act.eval, Oper.uponIn]
          refine hK _ _ S7 ?_
          clear hK K hrun hr7 hg7 KR7 mb ml S0 S6 hc6
          try simp only [Act.put, List.setIfInBounds_toArray, List.set_cons_zero, List.set_cons_succ]
          refine AnyH.tailL 8 (by kernel_rfl) ?_
          simp only [List.drop_succ_cons, List.drop_zero]
          have c7 := S7.1
          clear S7 hb7 hn6
          gi_wp2_with fail
          go_roundg (muc E (dropC L' s ++ kids r))
          case measure => have h1 := HM.out; have h2 := HKM.out; omega
          case rel => exact HNX.out _ _ (by rw [HKD.out.1, List.append_nil]; exact HX3.out) (by rw [HKD.out.2]; exact HX1.out) HX2.out
        · have hkb : ((r.kind : Int) == 1) = false := by simp [hk]
          have hkc : ((r.kind : Int) == 2) = true := by simp [hk]
          have HKD : Hid (kids r = [⟨r.right, 1⟩, ⟨r.left, 1⟩] ∧ emit r = []) := Lib.hid (by unfold kids emit; rw [if_neg (by omega), if_pos hk, if_neg (by omega)]; exact ⟨rfl, rfl⟩)
          obtain ⟨Wc, hWc⟩ : ∃ w, w4.alloc (.cells #[.int .i64 r.right, .int .i64 1, .int .i64 r.left, .int .i64 1] 139) = w := ⟨_, rfl⟩
          have lc : Cps w4.heap.size Wc (.slice (some ⟨w4.heap.size, 0, none⟩) 2 2) [⟨r.right, 1⟩, ⟨r.left, 1⟩] := by rw [← hWc]; exact SlA.lit (l := [⟨r.right, 1⟩, ⟨r.left, 1⟩]) encCp_len rfl (by simp; unfold maxLen; omega)
          have bc : Below w4.heap.size w4 Wc := by rw [← hWc]; exact (Below.refl _ _).alloc (Nat.le_refl _) _
          have HLC := Lib.hid lc
          have HSC := Lib.hid (HS4.out.below bc); have HTC := Lib.hid (HT4.out.below bc); have HBC := Lib.hid (HB4.out.below bc HB4.out.size)
          clear lc bc hk HT4 HB4 HS4
          go_wp2_with (
            at_builtin
            refine wp_catO (l2 := [⟨r.right, 1⟩, ⟨r.left, 1⟩]) elemCp encCp_len encCp_one rfl _ _ rfl rfl HSC.out rfl rfl HLC.out (by have := HLB.out; simp; omega) HBC.out.size ?_
            intro v5 w5 hS5 hg5 hb5
            have HX1 := Lib.hid hS5
            have HX2 := Lib.hid (HTC.out.under hb5 HT0.out.lt.1 HT0.out.lt.2.1)
            have HX3 := Lib.hid (HBC.out.below hb5 (Nat.le_refl _))
            clear hS5 hg5 hb5)
          clear hz hs p0 p1 p2 p3 p4 e0 e1 e2 e3 e4 y0 y1 y2 y3 y4 hgr q0 q1 x1 f1 hw1 hWc
          go_roundg (muc E (dropC L' s ++ kids r))
          case measure => have h1 := HM.out; have h2 := HKM.out; omega
          case rel => exact HNX.out _ _ (by rw [HKD.out.1]; exact HX1.out) (by rw [HKD.out.2, List.append_nil]; exact HX2.out) HX3.out
        · have hkb : ((r.kind : Int) == 1) = false := by simp [hk]
          have hkc : ((r.kind : Int) == 2) = false := by simp [hk]
          have HKD : Hid (kids r = [⟨r.left, r.times⟩] ∧ emit r = []) := Lib.hid (by unfold kids emit; rw [if_neg (by omega), if_neg (by omega), if_neg (by omega)]; exact ⟨rfl, rfl⟩)
          obtain ⟨Wc, hWc⟩ : ∃ w, w4.alloc (.cells #[.int .i64 r.left, .int .i64 r.times] 139) = w := ⟨_, rfl⟩
          have lc : Cps w4.heap.size Wc (.slice (some ⟨w4.heap.size, 0, none⟩) 1 1) [⟨r.left, r.times⟩] := by rw [← hWc]; exact SlA.lit (l := [⟨r.left, r.times⟩]) encCp_len rfl (by simp; unfold maxLen; omega)
          have bc : Below w4.heap.size w4 Wc := by rw [← hWc]; exact (Below.refl _ _).alloc (Nat.le_refl _) _
          have HLC := Lib.hid lc
          have HSC := Lib.hid (HS4.out.below bc); have HTC := Lib.hid (HT4.out.below bc); have HBC := Lib.hid (HB4.out.below bc HB4.out.size)
          clear lc bc hk HT4 HB4 HS4
          go_wp2_with (
            at_builtin
            refine wp_catO (l2 := [⟨r.left, r.times⟩]) elemCp encCp_len encCp_one rfl _ _ rfl rfl HSC.out rfl rfl HLC.out (by have := HLB.out; simp; omega) HBC.out.size ?_
            intro v5 w5 hS5 hg5 hb5
            have HX1 := Lib.hid hS5
            have HX2 := Lib.hid (HTC.out.under hb5 HT0.out.lt.1 HT0.out.lt.2.1)
            have HX3 := Lib.hid (HBC.out.below hb5 (Nat.le_refl _))
            clear hS5 hg5 hb5)
          clear hz hs p0 p1 p2 p3 p4 e0 e1 e2 e3 e4 y0 y1 y2 y3 y4 hgr q0 q1 x1 f1 hw1 hWc
          go_roundg (muc E (dropC L' s ++ kids r))
          case measure => have h1 := HM.out; have h2 := HKM.out; omega
          case rel => exact HNX.out _ _ (by rw [HKD.out.1]; exact HX1.out) (by rw [HKD.out.2, List.append_nil]; exact HX2.out) HX3.out
      · have HSD : Hid (Cps W.heap.size w1 (.slice (some ⟨gs, 0, none⟩) (j + 1) tc) (dropC L' s)) := Lib.hid (by unfold dropC; rw [if_neg (by have := HOS.out.2.2.1; have := HTM.out; omega)]; exact HS1.out)
        have htb : ((tm : Int) == 0) = false := by simp [ht1]
        clear ht1 HS1
        go_wp2_with fail
        refine (HRU.out w1 (Below.refl _ _)).mono ?_; rintro e w3 ⟨rfl, b3⟩
        obtain ⟨wz, w4, hz, hs, kr, br, ⟨p0, p1, p2, p3, p4⟩, e0, e1, e2, e3, e4⟩ := newRu w3 r
        obtain ⟨gr, hgr⟩ : ∃ x, w3.heap.size = x := ⟨_, rfl⟩
        rw [hgr] at hs kr p0 p1 p2 p3 p4 e0 e1 e2 e3 e4
        obtain ⟨y0, y1, y2, y3, y4⟩ := kr.cells
        have b4 := Below.after b3 br
        have HT4 := Lib.hid (HT1.out.below b4)
        have HB4 := Lib.hid (HB1.out.below b4 HB1.out.size)
        have HS4 := Lib.hid (HSD.out.below b4)
        have KR := Lib.hid kr
        clear b3 br b4 kr HT1 HB1 HSD
        rcases HRL.out with ⟨hk, -⟩ | ⟨hk, -⟩ | ⟨hk, -⟩
        · have hkb : ((r.kind : Int) == 1) = true := by simp [hk]
          have HKD : Hid (kids r = [] ∧ emit r = [r.letter]) := Lib.hid (by unfold kids emit; rw [if_pos hk, if_pos hk]; exact ⟨rfl, rfl⟩)
          have HRM : Hid (acc.length + 1 ≤ n) := Lib.hid (by
            have h1 := congrArg List.length HST.out.1
            rw [HKD.out.1, HKD.out.2] at h1
            simp [denc] at h1
            have := HAL.out
            omega)
          clear hk
          go_wp2_with fail
          clear hz hs p0 p1 p2 p3 p4 e0 e1 e2 e3 e4 y0 y1 y2 y3 y4 hgr q0 q1 x1 f1 hw1
          obtain ⟨wd, hwd⟩ : ∃ w, w4.drew = w := ⟨_, rfl⟩
          have SD : Below w4.heap.size w4 wd := by rw [← hwd]; exact (Below.refl _ _).drew
          refine wp_region_anyH (fun w : World => w.cell? ⟨gb, 0, none⟩ = some (.slice (some ⟨g, 0, none⟩) acc.length n) ∧ w.cell? ⟨gr, 1, none⟩ = some (.int .u8 r.letter)) (by kernel_rfl) ?_
          rw [hwd]
          clear hwd
          have mb : ∀ w : World, (w.cell? ⟨gb, 0, none⟩ = some (.slice (some ⟨g, 0, none⟩) acc.length n) ∧ w.cell? ⟨gr, 1, none⟩ = some (.int .u8 r.letter)) → w.cell? ⟨gb, 0, none⟩ = some (.slice (some ⟨g, 0, none⟩) acc.length n) := fun _ h => h.1
          have ml : ∀ w : World, (w.cell? ⟨gb, 0, none⟩ = some (.slice (some ⟨g, 0, none⟩) acc.length n) ∧ w.cell? ⟨gr, 1, none⟩ = some (.int .u8 r.letter)) → w.cell? ⟨gr, 1, none⟩ = some (.int .u8 r.letter) := fun _ h => h.2
          have HTd := Lib.hid (HT4.out.below SD); have HBd := Lib.hid (HB4.out.below SD HB4.out.size); have HSd := Lib.hid (HS4.out.below SD); have KRd := Lib.hid (show RuC wd gr r from below_block SD KR.out)
          have S0 : wd.cell? ⟨gb, 0, none⟩ = some (.slice (some ⟨g, 0, none⟩) acc.length n) ∧ wd.cell? ⟨gr, 1, none⟩ = some (.int .u8 r.letter) := ⟨HTd.out.cell.1, KRd.out.cells.2.1⟩
          clear SD HT4 HB4 HS4 KR
          refine AnyH.take (i := 0) (d := some 65) (v := ?_) (by kernel_rfl) rfl rfl HF (fun _ _ _ h => h) (.inl ⟨by rfl, ?_⟩) (by first | assumption | rfl) ?_
          rotate_left
          · intro w hS; try subst hS
            go_simp; try with_reducible rfl
          try simp only [Act.put, List.setIfInBounds_toArray, List.set_cons_zero, List.set_cons_succ]
          refine AnyH.take (i := 1) (d := some 66) (v := ?_) (by kernel_rfl) rfl rfl HF (fun _ _ _ h => h) (.inl ⟨by rfl, ?_⟩) (by first | assumption | rfl) ?_
          rotate_left
          · intro w hS; try subst hS
            go_simp; try with_reducible rfl
          try simp only [Act.put, List.setIfInBounds_toArray, List.set_cons_zero, List.set_cons_succ]
          refine AnyH.take (i := 2) (d := some 67) (v := ?_) (by kernel_rfl) rfl rfl HF (fun _ _ _ h => h) (.inl ⟨by rfl, ?_⟩) (by first | assumption | rfl) ?_
          rotate_left
          · intro w hS; try subst hS
            go_simp; try with_reducible rfl
          try simp only [Act.put, List.setIfInBounds_toArray, List.set_cons_zero, List.set_cons_succ]
          refine AnyH.take (i := 3) (d := some 68) (v := ?_) (by kernel_rfl) rfl rfl HF (fun _ _ _ h => h) (.inl ⟨by rfl, ?_⟩) (by first | assumption | rfl) ?_
          rotate_left
          · intro w hS; try subst hS
            go_simp; try with_reducible rfl
          try simp only [Act.put, List.setIfInBounds_toArray, List.set_cons_zero, List.set_cons_succ]
          refine AnyH.take (i := 4) (d := some 69) (v := ?_) (by kernel_rfl) rfl rfl HF (fun _ _ _ h => h) (.inl ⟨by rfl, ?_⟩) (by first | assumption | rfl) ?_
          rotate_left
          · intro w hS; try subst hS
            go_simp; try with_reducible rfl
          try simp only [Act.put, List.setIfInBounds_toArray, List.set_cons_zero, List.set_cons_succ]
          refine AnyH.take (i := 5) (d := some 70) (v := ?_) (by kernel_rfl) rfl rfl HF (fun _ _ _ h => h) (.inl ⟨by rfl, ?_⟩) (by first | assumption | rfl) ?_
          rotate_left
          · intro w hS; try subst hS
            go_simp; try with_reducible rfl
          try simp only [Act.put, List.setIfInBounds_toArray, List.set_cons_zero, List.set_cons_succ]
          refine AnyH.one (i := 6) (by kernel_rfl) (by kernel_rfl) rfl HF (by rfl) (fun K hK => ?_)
          go_simp
          obtain ⟨w6, hw6⟩ : ∃ w, wd.alloc (.cells #[.int .u8 r.letter] 5) = w := ⟨_, rfl⟩
          have b6 : Below wd.heap.size wd w6 := by rw [← hw6]; exact (Below.refl _ _).alloc (Nat.le_refl _) _
          have hn6 : w6.heap[wd.heap.size]? = some (.cells #[.int .u8 r.letter] 5 (0, 0)) := by rw [← hw6]; exact heap_new' _ _
          rw [hw6]
          clear hw6
          have HT6 := Lib.hid (HTd.out.below b6); have HB6 := Lib.hid (HBd.out.below b6 HBd.out.size); have HS6 := Lib.hid (HSd.out.below b6); have KR6 := Lib.hid (show RuC w6 gr r from below_block b6 KRd.out)
          have S6 : w6.cell? ⟨gb, 0, none⟩ = some (.slice (some ⟨g, 0, none⟩) acc.length n) ∧ w6.cell? ⟨gr, 1, none⟩ = some (.int .u8 r.letter) := ⟨HT6.out.cell.1, KR6.out.cells.2.1⟩
          refine hK _ _ S6 ?_
          clear hK K b6
          try simp only [Act.put, List.setIfInBounds_toArray, List.set_cons_zero, List.set_cons_succ]
          obtain ⟨w7, hrun, hr7, hg7⟩ := run_room (l2 := [r.letter]) HT6.out.row (a := ⟨wd.heap.size, 0, none⟩) (c := 1) (by
            intro j x hx
            cases j with
            | zero => simp at hx; subst hx; simp [World.cell?, hn6, Addr.add]
            | succ j => simp at hx) HRM.out 37
          replace hrun : (Builtin.append_ #[37, 37] 37 #[.slice (some ⟨g, 0, none⟩) acc.length n, .slice (some ⟨wd.heap.size, 0, none⟩) 1 1]).run Try.prog w6 = .ok (.slice (some ⟨g, 0, none⟩) (acc.length + 1) n) w7 := hrun
          have hb7 : w7.heap[gb]? = some (.cells #[.slice (some ⟨g, 0, none⟩) acc.length n] 37 (0, 0)) := (hg7.block gb HT6.out.lt.1 (fun e => HT6.out.lt.2.2 (Option.some.inj e))).trans HT6.out.box
          obtain ⟨⟨cs6, hc6⟩, -, -⟩ := SlA.free HT6.out.row
          have KR7 : RuC w7 gr r := by
            have h := KR6.out
            unfold RuC at h ⊢
            rw [hg7.block gr (Array.getElem?_eq_some_iff.1 h).1 (fun e => by cases e; rw [hc6] at h; simp at h)]
            exact h
          have S7 : w7.cell? ⟨gb, 0, none⟩ = some (.slice (some ⟨g, 0, none⟩) acc.length n) ∧ w7.cell? ⟨gr, 1, none⟩ = some (.int .u8 r.letter) := ⟨by simp [World.cell?, hb7], KR7.cells.2.1⟩
          have HS7 : Hid (Cps W.heap.size w7 (.slice (some ⟨gs, 0, none⟩) (j + 1) tc) (dropC L' s)) := Lib.hid (by
            obtain ⟨⟨cs, hc⟩, -, -⟩ := SlA.free HS6.out
            exact SlA.same HS6.out (hg7.block _ (Array.getElem?_eq_some_iff.1 hc).1 (fun e => by cases e; rw [hc6] at hc; simp at hc)))
          have HB7 := Lib.hid (HB6.out.grown hg7 (.inr rfl))
          have hf7 : w7.frozen? ⟨gb, 0, none⟩ = false := by simp [World.frozen?, hb7]
          have HX1 : Hid (Tb b0 (w7.setCell ⟨gb, 0, none⟩ (.slice (some ⟨g, 0, none⟩) (acc.length + 1) n)) gb g n (acc ++ [r.letter])) := Lib.hid (by
            have := Tb.told (l' := acc ++ [r.letter]) hb7 HT6.out.lt.2.2 hr7
            rwa [List.length_append, List.length_singleton] at this)
          have HX2 := Lib.hid (HB7.out.set (p := ⟨gb, 0, none⟩) (.inr (.inl rfl)) (.slice (some ⟨g, 0, none⟩) (acc.length + 1) n))
          have HX3 : Hid (Cps W.heap.size (w7.setCell ⟨gb, 0, none⟩ (.slice (some ⟨g, 0, none⟩) (acc.length + 1) n)) (.slice (some ⟨gs, 0, none⟩) (j + 1) tc) (dropC L' s)) := Lib.hid (SlA.setCell HS7.out (a := ⟨gb, 0, none⟩) _ hb7 (by decide))
          refine AnyH.one (i := 7) (by kernel_rfl) (by kernel_rfl) rfl HF (by rfl) (fun K hK => ?_)
          simp [execOp, resolve, invoke, builtin, hrun, Result.andThen, Act.eval, Oper.uponIn]
          refine hK _ _ S7 ?_
          clear hK K hrun hr7 hg7 KR7 mb ml S0 S6 hc6
          try simp only [Act.put, List.setIfInBounds_toArray, List.set_cons_zero, List.set_cons_succ]
          refine AnyH.tailL 8 (by kernel_rfl) ?_
          simp only [List.drop_succ_cons, List.drop_zero]
          have c7 := S7.1
          clear S7 hb7 hn6
          gi_wp2_with fail
          go_roundg (muc E (dropC L' s ++ kids r))
          case measure => have h1 := HM.out; have h2 := HKM.out; omega
          case rel => exact HNX.out _ _ (by rw [HKD.out.1, List.append_nil]; exact HX3.out) (by rw [HKD.out.2]; exact HX1.out) HX2.out
        · have hkb : ((r.kind : Int) == 1) = false := by simp [hk]
          have hkc : ((r.kind : Int) == 2) = true := by simp [hk]
          have HKD : Hid (kids r = [⟨r.right, 1⟩, ⟨r.left, 1⟩] ∧ emit r = []) := Lib.hid (by unfold kids emit; rw [if_neg (by omega), if_pos hk, if_neg (by omega)]; exact ⟨rfl, rfl⟩)
          obtain ⟨Wc, hWc⟩ : ∃ w, w4.alloc (.cells #[.int .i64 r.right, .int .i64 1, .int .i64 r.left, .int .i64 1] 139) = w := ⟨_, rfl⟩
          have lc : Cps w4.heap.size Wc (.slice (some ⟨w4.heap.size, 0, none⟩) 2 2) [⟨r.right, 1⟩, ⟨r.left, 1⟩] := by rw [← hWc]; exact SlA.lit (l := [⟨r.right, 1⟩, ⟨r.left, 1⟩]) encCp_len rfl (by simp; unfold maxLen; omega)
          have bc : Below w4.heap.size w4 Wc := by rw [← hWc]; exact (Below.refl _ _).alloc (Nat.le_refl _) _
          have HLC := Lib.hid lc
          have HSC := Lib.hid (HS4.out.below bc); have HTC := Lib.hid (HT4.out.below bc); have HBC := Lib.hid (HB4.out.below bc HB4.out.size)
          clear lc bc hk HT4 HB4 HS4
          go_wp2_with (
            at_builtin
            refine wp_catO (l2 := [⟨r.right, 1⟩, ⟨r.left, 1⟩]) elemCp encCp_len encCp_one rfl _ _ rfl rfl HSC.out rfl rfl HLC.out (by have := HLB.out; simp; omega) HBC.out.size ?_
            intro v5 w5 hS5 hg5 hb5
            have HX1 := Lib.hid hS5
            have HX2 := Lib.hid (HTC.out.under hb5 HT0.out.lt.1 HT0.out.lt.2.1)
            have HX3 := Lib.hid (HBC.out.below hb5 (Nat.le_refl _))
            clear hS5 hg5 hb5)
          clear hz hs p0 p1 p2 p3 p4 e0 e1 e2 e3 e4 y0 y1 y2 y3 y4 hgr q0 q1 x1 f1 hw1 hWc
          go_roundg (muc E (dropC L' s ++ kids r))
          case measure => have h1 := HM.out; have h2 := HKM.out; omega
          case rel => exact HNX.out _ _ (by rw [HKD.out.1]; exact HX1.out) (by rw [HKD.out.2, List.append_nil]; exact HX2.out) HX3.out
        · have hkb : ((r.kind : Int) == 1) = false := by simp [hk]
          have hkc : ((r.kind : Int) == 2) = false := by simp [hk]
          have HKD : Hid (kids r = [⟨r.left, r.times⟩] ∧ emit r = []) := Lib.hid (by unfold kids emit; rw [if_neg (by omega), if_neg (by omega), if_neg (by omega)]; exact ⟨rfl, rfl⟩)
          obtain ⟨Wc, hWc⟩ : ∃ w, w4.alloc (.cells #[.int .i64 r.left, .int .i64 r.times] 139) = w := ⟨_, rfl⟩
          have lc : Cps w4.heap.size Wc (.slice (some ⟨w4.heap.size, 0, none⟩) 1 1) [⟨r.left, r.times⟩] := by rw [← hWc]; exact SlA.lit (l := [⟨r.left, r.times⟩]) encCp_len rfl (by simp; unfold maxLen; omega)
          have bc : Below w4.heap.size w4 Wc := by rw [← hWc]; exact (Below.refl _ _).alloc (Nat.le_refl _) _
          have HLC := Lib.hid lc
          have HSC := Lib.hid (HS4.out.below bc); have HTC := Lib.hid (HT4.out.below bc); have HBC := Lib.hid (HB4.out.below bc HB4.out.size)
          clear lc bc hk HT4 HB4 HS4
          go_wp2_with (
            at_builtin
            refine wp_catO (l2 := [⟨r.left, r.times⟩]) elemCp encCp_len encCp_one rfl _ _ rfl rfl HSC.out rfl rfl HLC.out (by have := HLB.out; simp; omega) HBC.out.size ?_
            intro v5 w5 hS5 hg5 hb5
            have HX1 := Lib.hid hS5
            have HX2 := Lib.hid (HTC.out.under hb5 HT0.out.lt.1 HT0.out.lt.2.1)
            have HX3 := Lib.hid (HBC.out.below hb5 (Nat.le_refl _))
            clear hS5 hg5 hb5)
          clear hz hs p0 p1 p2 p3 p4 e0 e1 e2 e3 e4 y0 y1 y2 y3 y4 hgr q0 q1 x1 f1 hw1 hWc
          go_roundg (muc E (dropC L' s ++ kids r))
          case measure => have h1 := HM.out; have h2 := HKM.out; omega
          case rel => exact HNX.out _ _ (by rw [HKD.out.1]; exact HX1.out) (by rw [HKD.out.2, List.append_nil]; exact HX2.out) HX3.out
end M
end Go.Proofs.Ytjbllcakaljpgaa
