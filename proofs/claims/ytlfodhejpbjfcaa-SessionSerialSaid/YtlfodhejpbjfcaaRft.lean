/- The reference's transactions: Get, Change.
The reference's Change. -/
import Derived.Test.YtlfodhejpbjfcaaRfs
import Derived.Test.YtlfodhejpbjfcaaCom2
import Derived.Test.YtlfodhejpbjfcaaCom
set_option linter.unusedVariables false
set_option linter.unusedSimpArgs false
namespace Go.Proofs.Ytlfodhejpbjfcaa
open Go.RowKit
theorem heap_new1 (W : World) (o o' : Obj) : ((W.alloc o).alloc o').heap[W.heap.size + 1]? = some o' := by
  have := heap_new (W.alloc o) o'; rwa [World.size_alloc] at this
/-- A slice's three words. -/
abbrev Sl := Option Addr × Nat × Nat
abbrev slV (s : Sl) : Value := .slice s.1 s.2.1 s.2.2
theorem SlA.sl {α : Type} {B₀ : Nat} {W : World} {e : TypeId} {size : Nat} {enc : α → List Value} {v : Value} {l : List α} (h : SlA B₀ W e size enc v l) : ∃ s : Sl, v = slV s ∧ s.2.1 = l.length := by
  obtain ⟨a, c, rfl⟩ := h.len
  exact ⟨(a, l.length, c), rfl, rfl⟩
theorem SlA.keep {α : Type} {B₀ : Nat} {A B : World} {e : TypeId} {size : Nat} {enc : α → List Value} {v : Value} {l : List α} (h : SlA B₀ A e size enc v l) (hk : KeepT e A B) : SlA B₀ B e size enc v l := by
  refine ⟨h.1, ?_⟩
  rcases h.2 with hn | ⟨g, cap, cur, hv, hb, hg, rest⟩
  · exact .inl hn
  · exact .inr ⟨g, cap, cur, hv, hb, hk _ _ _ hg, rest⟩
namespace S
attribute [local go_sem] Oper.semAt_some

/-- The reference's transaction. -/
structure RT where
  began : Int
  sees : List (ByteArray × Int)
  read : List ByteArray
  changed : List ByteArray
  done : Bool
def rtV (n : Int) (a b c : Sl) (d : Bool) : Value := .agg #[.int .i64 n, slV a, slV b, slV c, .bool d]
def RtAt (W : World) (a b c : Sl) (t : RT) : Prop := Prs 0 W (slV a) t.sees ∧ Sts 0 W (slV b) t.read ∧ Sts 0 W (slV c) t.changed
/-- v is the reference's transaction t. -/
def RtIs (W : World) (v : Value) (t : RT) : Prop := ∃ a b c, v = rtV t.began a b c t.done ∧ RtAt W a b c t
theorem RtAt.below {A B : World} {a b c : Sl} {t : RT} (h : RtAt A a b c t) (hb : Below A.heap.size A B) : RtAt B a b c t := ⟨h.1.below hb, h.2.1.below hb, h.2.2.below hb⟩
theorem RtIs.below {A B : World} {v : Value} {t : RT} (h : RtIs A v t) (hb : Below A.heap.size A B) : RtIs B v t := by
  obtain ⟨a, b, c, e, h⟩ := h
  exact ⟨a, b, c, e, h.below hb⟩
theorem RtIs.keep {A B : World} {v : Value} {t : RT} (h : RtIs A v t) (h1 : KeepT 49 A B) (h2 : KeepT 9 A B) : RtIs B v t := by
  obtain ⟨a, b, c, e, h3, h4, h5⟩ := h
  exact ⟨a, b, c, e, h3.keep h1, h4.keep h2, h5.keep h2⟩

def RtC (W : World) (g : Nat) (n : Int) (a b c : Sl) (d : Bool) : Prop := W.heap[g]? = some (.cells #[.int .i64 n, slV a, slV b, slV c, .bool d] 40 (0, 0))
section
variable {W : World} {g : Nat} {n : Int} {a b c : Sl} {d : Bool}
theorem RtC.cells (h : RtC W g n a b c d) : W.cell? ⟨g, 0, none⟩ = some (.int .i64 n) ∧ W.cell? ⟨g, 1, none⟩ = some (slV a) ∧ W.cell? ⟨g, 2, none⟩ = some (slV b) ∧ W.cell? ⟨g, 3, none⟩ = some (slV c) ∧ W.cell? ⟨g, 4, none⟩ = some (.bool d) ∧
    W.frozen? ⟨g, 0, none⟩ = false ∧ W.frozen? ⟨g, 1, none⟩ = false ∧ W.frozen? ⟨g, 2, none⟩ = false ∧ W.frozen? ⟨g, 3, none⟩ = false ∧ W.frozen? ⟨g, 4, none⟩ = false := by
  unfold RtC at h
  simp [World.cell?, World.frozen?, h]
theorem RtC.all (h : RtC W g n a b c d) (n' : Int) (a' b' c' : Sl) (d' : Bool) : RtC (((((W.setCell ⟨g, 0, none⟩ (.int .i64 n')).setCell ⟨g, 1, none⟩ (slV a')).setCell ⟨g, 2, none⟩ (slV b')).setCell ⟨g, 3, none⟩ (slV c')).setCell ⟨g, 4, none⟩ (.bool d')) g n' a' b' c' d' := by
  unfold RtC at h ⊢
  rw [heap_set0 _ (heap_set0 _ (heap_set0 _ (heap_set0 _ (heap_set0 _ h))))]; rfl
theorem RtC.read (h : RtC W g n a b c d) (b' : Sl) : RtC (W.setCell ⟨g, 2, none⟩ (slV b')) g n a b' c d := by
  unfold RtC at h ⊢
  rw [heap_set0 _ h]; rfl
theorem RtC.changed (h : RtC W g n a b c d) (c' : Sl) : RtC (W.setCell ⟨g, 3, none⟩ (slV c')) g n a b c' d := by
  unfold RtC at h ⊢
  rw [heap_set0 _ h]; rfl
theorem RtC.sees (h : RtC W g n a b c d) (a' : Sl) : RtC (W.setCell ⟨g, 1, none⟩ (slV a')) g n a' b c d := by
  unfold RtC at h ⊢
  rw [heap_set0 _ h]; rfl
end
theorem encT_one (y : ByteArray) : ∀ u ∈ encT y, u.oneCell' = true := by
  intro u hu
  simp only [encT, List.mem_singleton] at hu
  subst hu; rfl
/-- A store into a block of another type. -/
theorem rt_keep5 {W : World} {g : Nat} {n : Int} {a b c : Sl} {d : Bool} {t : TypeId} (h : RtC W g n a b c d) (ht : 40 ≠ t) (n' : Int) (a' b' c' : Sl) (d' : Bool) :
    KeepT t W (((((W.setCell ⟨g, 0, none⟩ (.int .i64 n')).setCell ⟨g, 1, none⟩ (slV a')).setCell ⟨g, 2, none⟩ (slV b')).setCell ⟨g, 3, none⟩ (slV c')).setCell ⟨g, 4, none⟩ (.bool d')) := by
  unfold RtC at h
  have e1 := heap_set0 (i := 0) (.int .i64 n') h
  have e2 := heap_set0 (i := 1) (slV a') e1
  have e3 := heap_set0 (i := 2) (slV b') e2
  have e4 := heap_set0 (i := 3) (slV c') e3
  exact ((((KeepT.setCell (a := ⟨g, 0, none⟩) h ht).trans (KeepT.setCell (a := ⟨g, 1, none⟩) e1 ht)).trans (KeepT.setCell (a := ⟨g, 2, none⟩) e2 ht)).trans (KeepT.setCell (a := ⟨g, 3, none⟩) e3 ht)).trans (KeepT.setCell (a := ⟨g, 4, none⟩) e4 ht)
def readRT (t : RT) (s : ByteArray) : RT := if inR s t.changed then t else { t with read := t.read ++ [s] }
/-- The reference's Get. -/
def getRT (t : RT) (s : ByteArray) : RT × Int × Int :=
  if t.done then (t, 0, 7) else if okName s then (match findR s t.sees with | some p => (readRT t s, p.2, 0) | none => (readRT t s, 0, 5)) else (t, 0, 13)
def sl0 : Sl := (none, 0, 0)
theorem elemT' : Elem Try.prog 38 9 1 16 := elemT
set_option maxRecDepth 100000 in
set_option maxHeartbeats 4000000 in
theorem refGet_any (s : ByteArray) (hs : s.size ≤ 9223372036854775807) {W : World} {v : Value} {t : RT} (h : RtIs W v t) (h1 : t.sees.length ≤ 100000) (h2 : t.read.length ≤ 100000) (h3 : t.changed.length ≤ 100000) :
    Calls Try.prog 36 #[v, .string s] W fun e w' => ∃ v', e = .returned (.tuple #[v', .int .i64 (getRT t s).2.1, .int .i64 (getRT t s).2.2]) ∧ RtIs w' v' (getRT t s).1 ∧ Below W.heap.size W w' := by
  obtain ⟨a, b, c, rfl, hA⟩ := h
  obtain ⟨n, T, R, C, d⟩ := t
  dsimp only at *
  obtain ⟨G, hG⟩ : ∃ G, getRT ⟨n, T, R, C, d⟩ s = G := ⟨_, rfl⟩
  have HG := Lib.hid hG
  rw [hG]
  clear hG
  obtain ⟨W1, hW1⟩ : ∃ w, (W.alloc (.cells #[.int .i64 n, slV a, slV b, slV c, .bool d] 40)).alloc (.cells #[.int .i64 0, slV sl0, slV sl0, slV sl0, .bool false] 40) = w := ⟨_, rfl⟩
  have hb1 : Below W.heap.size W W1 := by rw [← hW1]; exact ((Below.refl _ W).alloc (Nat.le_refl _) _).alloc (by simp) _
  have k1 : RtC W1 W.heap.size n a b c d := by rw [← hW1]; exact (Below.heap_alloc _ _ _ (by simp)).trans (heap_new _ _)
  have k2 : RtC W1 (W.heap.size + 1) 0 sl0 sl0 sl0 false := by rw [← hW1]; exact heap_new1 _ _ _
  have HB1 := Lib.hid hb1; have K1 := Lib.hid k1; have K2 := Lib.hid k2; have HA1 := Lib.hid (hA.below hb1)
  obtain ⟨p0, p1, p2, p3, p4, q0, q1, q2, q3, q4⟩ := k1.cells
  obtain ⟨x0, x1, x2, x3, x4, y0, y1, y2, y3, y4⟩ := k2.cells
  unfold rtV
  obtain ⟨a0, an, ac⟩ := a
  obtain ⟨b0, bn, bc⟩ := b
  obtain ⟨c0, cn, cc⟩ := c
  simp only [slV, sl0] at *
  have HFV := Lib.hid (refValid_any W1 s hs)
  cases d with
  | true =>
    have HE : Hid (G = (⟨n, T, R, C, true⟩, 0, 7)) := Lib.hid (by rw [← HG.out]; rfl)
    clear k1 k2 hA hb1
    obtain ⟨W9, hW9⟩ : ∃ w, ((((W1.setCell ⟨W.heap.size + 1, 0, none⟩ (.int .i64 n)).setCell ⟨W.heap.size + 1, 1, none⟩ (.slice a0 an ac)).setCell ⟨W.heap.size + 1, 2, none⟩ (.slice b0 bn bc)).setCell ⟨W.heap.size + 1, 3, none⟩ (.slice c0 cn cc)).setCell ⟨W.heap.size + 1, 4, none⟩ (.bool true) = w := ⟨_, rfl⟩
    have k9 : RtC W9 (W.heap.size + 1) n (a0, an, ac) (b0, bn, bc) (c0, cn, cc) true := by rw [← hW9]; exact K2.out.all n (a0, an, ac) (b0, bn, bc) (c0, cn, cc) true
    obtain ⟨r0, r1, r2, r3, r4, -⟩ := k9.cells
    have hB9 : Below W1.heap.size W1 W9 ∨ True := .inr trivial
    have HB9 : Hid (Below W.heap.size W W9) := Lib.hid (by rw [← hW9]; exact (((((HB1.out.setCell (p := ⟨W.heap.size + 1, 0, none⟩) (by simp) _).setCell (p := ⟨W.heap.size + 1, 1, none⟩) (by simp) _).setCell (p := ⟨W.heap.size + 1, 2, none⟩) (by simp) _).setCell (p := ⟨W.heap.size + 1, 3, none⟩) (by simp) _).setCell (p := ⟨W.heap.size + 1, 4, none⟩) (by simp) _))
    have HA9 : Hid (RtAt W9 (a0, an, ac) (b0, bn, bc) (c0, cn, cc) ((⟨n, T, R, C, true⟩ : RT), 0, 7).1) := Lib.hid (by
      rw [← hW9]
      have hk := fun t ht => rt_keep5 (t := t) K2.out ht n (a0, an, ac) (b0, bn, bc) (c0, cn, cc) true
      exact ⟨HA1.out.1.keep (hk _ (by decide)), HA1.out.2.1.keep (hk _ (by decide)), HA1.out.2.2.keep (hk _ (by decide))⟩)
    clear k9 hB9
    go_enter Try.func36, Try.ntmps36
    go_wp2_with fail
    exact bodyPost_ret (v := .tuple #[rtV n (a0, an, ac) (b0, bn, bc) (c0, cn, cc) true, .int .i64 0, .int .i64 7]) (by simp [results, Try.results36, go_sem, r0, r1, r2, r3, r4, rtV]) rfl ⟨_, by rw [HE.out], by rw [HE.out]; exact ⟨_, _, _, rfl, HA9.out⟩, HB9.out⟩
  | false =>
    by_cases hk : 1 ≤ s.size ∧ s.size ≤ 32
    · have hd : decide (1 ≤ s.size ∧ s.size ≤ 32) = true := decide_eq_true hk
      have HI1 := Lib.hid (refIn_any (l := C) s HA1.out.2.2 (by omega))
      have HIN0 : Hid True := Lib.hid trivial
      cases hin : inR s C with
      | true =>
        have HIN := Lib.hid hin
        rw [hin] at HI1
        clear k1 k2 hA hb1 hin p0 p1 p2 p3 p4 x0 x1 x2 x3 x4 y0 y1 y2 y3 y4
        obtain ⟨p0, p1, p2, p3, p4, -⟩ := K1.out.cells
        go_enter Try.func36, Try.ntmps36
        go_wp2_with fail
        refine HFV.out.mono ?_; rintro e w ⟨rfl, h⟩; rw [h, hd]; clear h w hd
        go_wp2_with fail
        refine HI1.out.mono ?_; rintro e w ⟨rfl, h⟩; rw [h]; clear h w
        clear p0 p1 p2 p3 p4
        obtain ⟨p0, p1, p2, p3, p4, -⟩ := K1.out.cells
        obtain ⟨x0, x1, x2, x3, x4, y0, y1, y2, y3, y4⟩ := K2.out.cells
        have HF1 := Lib.hid (refFind_any (l := T) s HA1.out.1 (by omega))
        cases hf : findR s T with
        | none =>
          have HE : Hid (G = (⟨n, T, R, C, false⟩, 0, 5)) := Lib.hid (by rw [← HG.out]; simp [getRT, readRT, okName, hk, HIN.out, hf])
          rw [hf] at HF1
          obtain ⟨W9, hW9⟩ : ∃ w, ((((W1.setCell ⟨W.heap.size + 1, 0, none⟩ (.int .i64 n)).setCell ⟨W.heap.size + 1, 1, none⟩ (.slice a0 an ac)).setCell ⟨W.heap.size + 1, 2, none⟩ (.slice b0 bn bc)).setCell ⟨W.heap.size + 1, 3, none⟩ (.slice c0 cn cc)).setCell ⟨W.heap.size + 1, 4, none⟩ (.bool false) = w := ⟨_, rfl⟩
          have k9 : RtC W9 (W.heap.size + 1) n (a0, an, ac) (b0, bn, bc) (c0, cn, cc) false := by rw [← hW9]; exact K2.out.all n (a0, an, ac) (b0, bn, bc) (c0, cn, cc) false
          obtain ⟨r0, r1, r2, r3, r4, -⟩ := k9.cells
          have hB9 : Below W1.heap.size W1 W9 ∨ True := .inr trivial
          have HB9 : Hid (Below W.heap.size W W9) := Lib.hid (by rw [← hW9]; exact (((((HB1.out.setCell (p := ⟨W.heap.size + 1, 0, none⟩) (by simp) _).setCell (p := ⟨W.heap.size + 1, 1, none⟩) (by simp) _).setCell (p := ⟨W.heap.size + 1, 2, none⟩) (by simp) _).setCell (p := ⟨W.heap.size + 1, 3, none⟩) (by simp) _).setCell (p := ⟨W.heap.size + 1, 4, none⟩) (by simp) _))
          have HA9 : Hid (RtAt W9 (a0, an, ac) (b0, bn, bc) (c0, cn, cc) ((⟨n, T, R, C, false⟩ : RT), 0, 5).1) := Lib.hid (by
            rw [← hW9]
            have hk := fun t ht => rt_keep5 (t := t) K2.out ht n (a0, an, ac) (b0, bn, bc) (c0, cn, cc) false
            exact ⟨HA1.out.1.keep (hk _ (by decide)), HA1.out.2.1.keep (hk _ (by decide)), HA1.out.2.2.keep (hk _ (by decide))⟩)
          clear k9 hB9
          go_wp2_with fail
          refine HF1.out.mono ?_; rintro e w ⟨rfl, h⟩; rw [h]; clear h w
          simp only [findV]
          go_wp2_with fail
          exact bodyPost_ret (v := .tuple #[rtV n (a0, an, ac) (b0, bn, bc) (c0, cn, cc) false, .int .i64 0, .int .i64 5]) (by simp [results, Try.results36, go_sem, r0, r1, r2, r3, r4, rtV]) rfl ⟨_, by rw [HE.out], by rw [HE.out]; exact ⟨_, _, _, rfl, HA9.out⟩, HB9.out⟩
        | some p =>
          have HE : Hid (G = (⟨n, T, R, C, false⟩, p.2, 0)) := Lib.hid (by rw [← HG.out]; simp [getRT, readRT, okName, hk, HIN.out, hf])
          rw [hf] at HF1
          obtain ⟨W9, hW9⟩ : ∃ w, ((((W1.setCell ⟨W.heap.size + 1, 0, none⟩ (.int .i64 n)).setCell ⟨W.heap.size + 1, 1, none⟩ (.slice a0 an ac)).setCell ⟨W.heap.size + 1, 2, none⟩ (.slice b0 bn bc)).setCell ⟨W.heap.size + 1, 3, none⟩ (.slice c0 cn cc)).setCell ⟨W.heap.size + 1, 4, none⟩ (.bool false) = w := ⟨_, rfl⟩
          have k9 : RtC W9 (W.heap.size + 1) n (a0, an, ac) (b0, bn, bc) (c0, cn, cc) false := by rw [← hW9]; exact K2.out.all n (a0, an, ac) (b0, bn, bc) (c0, cn, cc) false
          obtain ⟨r0, r1, r2, r3, r4, -⟩ := k9.cells
          have hB9 : Below W1.heap.size W1 W9 ∨ True := .inr trivial
          have HB9 : Hid (Below W.heap.size W W9) := Lib.hid (by rw [← hW9]; exact (((((HB1.out.setCell (p := ⟨W.heap.size + 1, 0, none⟩) (by simp) _).setCell (p := ⟨W.heap.size + 1, 1, none⟩) (by simp) _).setCell (p := ⟨W.heap.size + 1, 2, none⟩) (by simp) _).setCell (p := ⟨W.heap.size + 1, 3, none⟩) (by simp) _).setCell (p := ⟨W.heap.size + 1, 4, none⟩) (by simp) _))
          have HA9 : Hid (RtAt W9 (a0, an, ac) (b0, bn, bc) (c0, cn, cc) ((⟨n, T, R, C, false⟩ : RT), p.2, 0).1) := Lib.hid (by
            rw [← hW9]
            have hk := fun t ht => rt_keep5 (t := t) K2.out ht n (a0, an, ac) (b0, bn, bc) (c0, cn, cc) false
            exact ⟨HA1.out.1.keep (hk _ (by decide)), HA1.out.2.1.keep (hk _ (by decide)), HA1.out.2.2.keep (hk _ (by decide))⟩)
          clear k9 hB9
          go_wp2_with fail
          refine HF1.out.mono ?_; rintro e w ⟨rfl, h⟩; rw [h]; clear h w
          simp only [findV]
          go_wp2_with fail
          exact bodyPost_ret (v := .tuple #[rtV n (a0, an, ac) (b0, bn, bc) (c0, cn, cc) false, .int .i64 p.2, .int .i64 0]) (by simp [results, Try.results36, go_sem, r0, r1, r2, r3, r4, rtV]) rfl ⟨_, by rw [HE.out], by rw [HE.out]; exact ⟨_, _, _, rfl, HA9.out⟩, HB9.out⟩
      | false =>
        have HIN := Lib.hid hin; have HA0 := Lib.hid hA
        rw [hin] at HI1
        obtain ⟨wa, hwa⟩ : ∃ w, W1.alloc (.cells #[] 9) = w := ⟨_, rfl⟩
        have hba : Below W1.heap.size W1 wa := by rw [← hwa]; exact (Below.refl _ _).alloc (Nat.le_refl _) _
        have hSa : Sts W1.heap.size wa (.slice (some ⟨W1.heap.size, 0, none⟩) 0 0) [] := by rw [← hwa]; exact SlA.lit (l := []) encT_len rfl (by simp)
        have HSA := Lib.hid hSa; have HBA := Lib.hid (Below.step HB1.out hba); have HAA := Lib.hid (RtAt.below (t := ⟨n, T, R, C, false⟩) HA1.out hba)
        have HKA := Lib.hid (show RtC wa W.heap.size n (a0, an, ac) (b0, bn, bc) (c0, cn, cc) false from box_below hba K1.out); have HKB := Lib.hid (show RtC wa (W.heap.size + 1) 0 (none, 0, 0) (none, 0, 0) (none, 0, 0) false from box_below hba K2.out)
        have HZ := Lib.hid (show W1.heap.size ≤ wa.heap.size from hba.size)
        have HZ1 := Lib.hid (show W.heap.size + 1 < W1.heap.size from (Array.getElem?_eq_some_iff.1 K2.out).1)
        clear k1 k2 hA hb1 hin hba hSa
        obtain ⟨-, -, m2, -⟩ := HKA.out.cells
        clear q0 q1 q2 q3 q4 x0 x1 x2 x3 x4 y0 y1 y2 y3 y4
        go_enter Try.func36, Try.ntmps36
        go_wp2_with fail
        refine HFV.out.mono ?_; rintro e w ⟨rfl, h⟩; rw [h, hd]; clear h w hd
        go_wp2_with fail
        refine HI1.out.mono ?_; rintro e w ⟨rfl, h⟩; rw [h]; clear h w
        go_wp2_with (first
          | (at_builtin
             refine wp_cat (l2 := R) elemT encT_len rfl _ _ rfl rfl HSA.out rfl HAA.out.2.1 encT_one (by have := h2; simp; omega) HZ.out ?_
             intro v1 w1 hS1 hg1 hb1
             rw [List.nil_append] at hS1
             obtain ⟨va, vc, rfl⟩ := hS1.len
             have HS1 := Lib.hid hS1; have HB1' := Lib.hid hb1
             have HZ2 := Lib.hid (Nat.le_trans HZ.out hb1.size)
             clear hS1 hg1 hb1 m2)
          | (at_builtin
             refine wp_app1G (l := R) (w0 := w1) elemT encT_len rfl _ _ rfl rfl HS1.out s rfl rfl (encT_one s) (by have := h2; omega) HZ2.out ?_
             intro v2 w2 hS2 hg2 hb2
             obtain ⟨vb, vd, rfl⟩ := hS2.len
             rw [List.length_append, List.length_singleton] at hS2 ⊢
             have hb3 : Below W1.heap.size wa w2 := HB1'.out.trans hb2
             have HB2 := Lib.hid (HBA.out.trans (hb3.mono HB1.out.size))
             have k1 : RtC w2 W.heap.size n (a0, an, ac) (b0, bn, bc) (c0, cn, cc) false := (hb3.block _ (by have := HZ1.out; omega)).trans HKA.out
             have k2 : RtC w2 (W.heap.size + 1) 0 (none, 0, 0) (none, 0, 0) (none, 0, 0) false := (hb3.block _ HZ1.out).trans HKB.out
             obtain ⟨w3, hw3⟩ : ∃ w, w2.setCell ⟨W.heap.size, 2, none⟩ (.slice vb (R.length + 1) vd) = w := ⟨_, rfl⟩
             have hk3 := fun t ht => KeepT.setCell (nt := t) (a := ⟨W.heap.size, 2, none⟩) (v := .slice vb (R.length + 1) vd) k1 ht
             rw [hw3] at hk3
             have KX1 : Hid (RtC w3 W.heap.size n (a0, an, ac) (vb, R.length + 1, vd) (c0, cn, cc) false) := Lib.hid (by rw [← hw3]; exact k1.read (vb, R.length + 1, vd))
             have KX2 : Hid (RtC w3 (W.heap.size + 1) 0 (none, 0, 0) (none, 0, 0) (none, 0, 0) false) := Lib.hid (by rw [← hw3]; exact (Below.heap_setCell _ _ _ _ (by simp)).trans k2)
             have HBX : Hid (Below W.heap.size W w3) := Lib.hid (by rw [← hw3]; exact HB2.out.setCell (p := ⟨W.heap.size, 2, none⟩) (Nat.le_refl _) _)
             have hA2 := RtAt.below HA0.out HB2.out
             have HAX : Hid (RtAt w3 (a0, an, ac) (vb, R.length + 1, vd) (c0, cn, cc) (⟨n, T, R ++ [s], C, false⟩ : RT)) := Lib.hid ⟨hA2.1.keep (hk3 _ (by decide)), (hS2.mono (Nat.zero_le _)).keep (hk3 _ (by decide)), hA2.2.2.keep (hk3 _ (by decide))⟩
             obtain ⟨-, -, m2, -, -, -, -, f2, -⟩ := k1.cells
             obtain ⟨-, l1, -⟩ := KX1.out.cells
             clear hS2 hg2 hb2 hb3 k1 k2 hk3 hA2))
        clear m2 f2 hw3 l1 p0 p1 p2 p3 p4 hwa
        obtain ⟨p0, p1, p2, p3, p4, -⟩ := KX1.out.cells
        obtain ⟨x0, x1, x2, x3, x4, y0, y1, y2, y3, y4⟩ := KX2.out.cells
        have HF1 := Lib.hid (refFind_any (l := T) s HAX.out.1 (by omega))
        cases hf : findR s T with
        | none =>
          have HE : Hid (G = (⟨n, T, (R ++ [s]), C, false⟩, 0, 5)) := Lib.hid (by rw [← HG.out]; simp [getRT, readRT, okName, hk, HIN.out, hf])
          rw [hf] at HF1
          obtain ⟨W9, hW9⟩ : ∃ w, ((((w3.setCell ⟨W.heap.size + 1, 0, none⟩ (.int .i64 n)).setCell ⟨W.heap.size + 1, 1, none⟩ (.slice a0 an ac)).setCell ⟨W.heap.size + 1, 2, none⟩ (.slice vb (R.length+1) vd)).setCell ⟨W.heap.size + 1, 3, none⟩ (.slice c0 cn cc)).setCell ⟨W.heap.size + 1, 4, none⟩ (.bool false) = w := ⟨_, rfl⟩
          have k9 : RtC W9 (W.heap.size + 1) n (a0, an, ac) (vb, (R.length+1), vd) (c0, cn, cc) false := by rw [← hW9]; exact KX2.out.all n (a0, an, ac) (vb, (R.length+1), vd) (c0, cn, cc) false
          obtain ⟨r0, r1, r2, r3, r4, -⟩ := k9.cells
          have hB9 : Below w3.heap.size w3 W9 ∨ True := .inr trivial
          have HB9 : Hid (Below W.heap.size W W9) := Lib.hid (by rw [← hW9]; exact (((((HBX.out.setCell (p := ⟨W.heap.size + 1, 0, none⟩) (by simp) _).setCell (p := ⟨W.heap.size + 1, 1, none⟩) (by simp) _).setCell (p := ⟨W.heap.size + 1, 2, none⟩) (by simp) _).setCell (p := ⟨W.heap.size + 1, 3, none⟩) (by simp) _).setCell (p := ⟨W.heap.size + 1, 4, none⟩) (by simp) _))
          have HA9 : Hid (RtAt W9 (a0, an, ac) (vb, (R.length+1), vd) (c0, cn, cc) ((⟨n, T, (R ++ [s]), C, false⟩ : RT), 0, 5).1) := Lib.hid (by
            rw [← hW9]
            have hk := fun t ht => rt_keep5 (t := t) KX2.out ht n (a0, an, ac) (vb, (R.length+1), vd) (c0, cn, cc) false
            exact ⟨HAX.out.1.keep (hk _ (by decide)), HAX.out.2.1.keep (hk _ (by decide)), HAX.out.2.2.keep (hk _ (by decide))⟩)
          clear k9 hB9
          refine HF1.out.mono ?_; rintro e w ⟨rfl, h⟩; rw [h]; clear h w
          simp only [findV]
          go_wp2_with fail
          exact bodyPost_ret (v := .tuple #[rtV n (a0, an, ac) (vb, (R.length+1), vd) (c0, cn, cc) false, .int .i64 0, .int .i64 5]) (by simp [results, Try.results36, go_sem, r0, r1, r2, r3, r4, rtV]) rfl ⟨_, by rw [HE.out], by rw [HE.out]; exact ⟨_, _, _, rfl, HA9.out⟩, HB9.out⟩
        | some p =>
          have HE : Hid (G = (⟨n, T, (R ++ [s]), C, false⟩, p.2, 0)) := Lib.hid (by rw [← HG.out]; simp [getRT, readRT, okName, hk, HIN.out, hf])
          rw [hf] at HF1
          obtain ⟨W9, hW9⟩ : ∃ w, ((((w3.setCell ⟨W.heap.size + 1, 0, none⟩ (.int .i64 n)).setCell ⟨W.heap.size + 1, 1, none⟩ (.slice a0 an ac)).setCell ⟨W.heap.size + 1, 2, none⟩ (.slice vb (R.length+1) vd)).setCell ⟨W.heap.size + 1, 3, none⟩ (.slice c0 cn cc)).setCell ⟨W.heap.size + 1, 4, none⟩ (.bool false) = w := ⟨_, rfl⟩
          have k9 : RtC W9 (W.heap.size + 1) n (a0, an, ac) (vb, (R.length+1), vd) (c0, cn, cc) false := by rw [← hW9]; exact KX2.out.all n (a0, an, ac) (vb, (R.length+1), vd) (c0, cn, cc) false
          obtain ⟨r0, r1, r2, r3, r4, -⟩ := k9.cells
          have hB9 : Below w3.heap.size w3 W9 ∨ True := .inr trivial
          have HB9 : Hid (Below W.heap.size W W9) := Lib.hid (by rw [← hW9]; exact (((((HBX.out.setCell (p := ⟨W.heap.size + 1, 0, none⟩) (by simp) _).setCell (p := ⟨W.heap.size + 1, 1, none⟩) (by simp) _).setCell (p := ⟨W.heap.size + 1, 2, none⟩) (by simp) _).setCell (p := ⟨W.heap.size + 1, 3, none⟩) (by simp) _).setCell (p := ⟨W.heap.size + 1, 4, none⟩) (by simp) _))
          have HA9 : Hid (RtAt W9 (a0, an, ac) (vb, (R.length+1), vd) (c0, cn, cc) ((⟨n, T, (R ++ [s]), C, false⟩ : RT), p.2, 0).1) := Lib.hid (by
            rw [← hW9]
            have hk := fun t ht => rt_keep5 (t := t) KX2.out ht n (a0, an, ac) (vb, (R.length+1), vd) (c0, cn, cc) false
            exact ⟨HAX.out.1.keep (hk _ (by decide)), HAX.out.2.1.keep (hk _ (by decide)), HAX.out.2.2.keep (hk _ (by decide))⟩)
          clear k9 hB9
          refine HF1.out.mono ?_; rintro e w ⟨rfl, h⟩; rw [h]; clear h w
          simp only [findV]
          go_wp2_with fail
          exact bodyPost_ret (v := .tuple #[rtV n (a0, an, ac) (vb, (R.length+1), vd) (c0, cn, cc) false, .int .i64 p.2, .int .i64 0]) (by simp [results, Try.results36, go_sem, r0, r1, r2, r3, r4, rtV]) rfl ⟨_, by rw [HE.out], by rw [HE.out]; exact ⟨_, _, _, rfl, HA9.out⟩, HB9.out⟩
    · have hd : decide (1 ≤ s.size ∧ s.size ≤ 32) = false := decide_eq_false hk
      have HE : Hid (G = (⟨n, T, R, C, false⟩, 0, 13)) := Lib.hid (by rw [← HG.out]; simp [getRT, okName, hk])
      clear k1 k2 hA hb1
      obtain ⟨W9, hW9⟩ : ∃ w, ((((W1.setCell ⟨W.heap.size + 1, 0, none⟩ (.int .i64 n)).setCell ⟨W.heap.size + 1, 1, none⟩ (.slice a0 an ac)).setCell ⟨W.heap.size + 1, 2, none⟩ (.slice b0 bn bc)).setCell ⟨W.heap.size + 1, 3, none⟩ (.slice c0 cn cc)).setCell ⟨W.heap.size + 1, 4, none⟩ (.bool false) = w := ⟨_, rfl⟩
      have k9 : RtC W9 (W.heap.size + 1) n (a0, an, ac) (b0, bn, bc) (c0, cn, cc) false := by rw [← hW9]; exact K2.out.all n (a0, an, ac) (b0, bn, bc) (c0, cn, cc) false
      obtain ⟨r0, r1, r2, r3, r4, -⟩ := k9.cells
      have hB9 : Below W1.heap.size W1 W9 ∨ True := .inr trivial
      have HB9 : Hid (Below W.heap.size W W9) := Lib.hid (by rw [← hW9]; exact (((((HB1.out.setCell (p := ⟨W.heap.size + 1, 0, none⟩) (by simp) _).setCell (p := ⟨W.heap.size + 1, 1, none⟩) (by simp) _).setCell (p := ⟨W.heap.size + 1, 2, none⟩) (by simp) _).setCell (p := ⟨W.heap.size + 1, 3, none⟩) (by simp) _).setCell (p := ⟨W.heap.size + 1, 4, none⟩) (by simp) _))
      have HA9 : Hid (RtAt W9 (a0, an, ac) (b0, bn, bc) (c0, cn, cc) ((⟨n, T, R, C, false⟩ : RT), 0, 13).1) := Lib.hid (by
        rw [← hW9]
        have hk := fun t ht => rt_keep5 (t := t) K2.out ht n (a0, an, ac) (b0, bn, bc) (c0, cn, cc) false
        exact ⟨HA1.out.1.keep (hk _ (by decide)), HA1.out.2.1.keep (hk _ (by decide)), HA1.out.2.2.keep (hk _ (by decide))⟩)
      clear k9 hB9
      go_enter Try.func36, Try.ntmps36
      go_wp2_with fail
      refine HFV.out.mono ?_; rintro e w ⟨rfl, h⟩; rw [h, hd]; clear h w hd
      go_wp2_with fail
      exact bodyPost_ret (v := .tuple #[rtV n (a0, an, ac) (b0, bn, bc) (c0, cn, cc) false, .int .i64 0, .int .i64 13]) (by simp [results, Try.results36, go_sem, r0, r1, r2, r3, r4, rtV]) rfl ⟨_, by rw [HE.out], by rw [HE.out]; exact ⟨_, _, _, rfl, HA9.out⟩, HB9.out⟩
end S
end Go.Proofs.Ytlfodhejpbjfcaa
namespace Go.Proofs.Ytlfodhejpbjfcaa
open Go.RowKit
/-- A list whose block lay already. -/
theorem SlA.keep_up {α : Type} {B₀ n : Nat} {A B : World} {e : TypeId} {size : Nat} {enc : α → List Value} {v : Value} {l : List α} (h : SlA B₀ A e size enc v l) (hb : Below n A B) (hv : ∀ g, v.ownBlock = some g → g < n) : SlA B₀ B e size enc v l := by
  refine ⟨h.1, ?_⟩
  rcases h.2 with hn | ⟨g, cap, cur, rfl, hb0, hg, rest⟩
  · exact .inl hn
  · exact .inr ⟨g, cap, cur, rfl, hb0, (hb.block g (hv g rfl)).trans hg, rest⟩
theorem SlA.own_lt {α : Type} {B₀ : Nat} {A : World} {e : TypeId} {size : Nat} {enc : α → List Value} {v : Value} {l : List α} (h : SlA B₀ A e size enc v l) : ∀ g, v.ownBlock = some g → g < A.heap.size := by
  intro g hg
  rcases h.2 with ⟨rfl, -⟩ | ⟨g', cap, cur, rfl, hb0, hg', rest⟩
  · cases hg
  · cases hg; exact (Array.getElem?_eq_some_iff.1 hg').1
namespace S
attribute [local go_sem] Oper.semAt_some
theorem RtAt.lt {A : World} {a b c : Sl} {t : RT} (h : RtAt A a b c t) : (∀ g, (slV a).ownBlock = some g → g < A.heap.size) ∧ (∀ g, (slV b).ownBlock = some g → g < A.heap.size) ∧ ∀ g, (slV c).ownBlock = some g → g < A.heap.size := ⟨h.1.own_lt, h.2.1.own_lt, h.2.2.own_lt⟩
theorem getRT_eq (t : RT) (s : ByteArray) : (getRT t s).1 = ⟨t.began, t.sees, (getRT t s).1.read, t.changed, t.done⟩ ∧ (getRT t s).1.read.length ≤ t.read.length + 1 := by
  have hr : readRT t s = ⟨t.began, t.sees, (readRT t s).read, t.changed, t.done⟩ ∧ (readRT t s).read.length ≤ t.read.length + 1 := by
    unfold readRT
    split
    · exact ⟨rfl, by omega⟩
    · exact ⟨rfl, by simp⟩
  unfold getRT
  split
  · exact ⟨rfl, by simp⟩
  · split
    · split
      · exact hr
      · exact hr
    · exact ⟨rfl, by simp⟩
def finRT (t : RT) (s : ByteArray) : RT := if inR s t.changed then t else { t with changed := t.changed ++ [s] }
/-- The reference's Change. -/
def chgRT (t : RT) (s : ByteArray) (x : Int) (drop : Bool) : RT × Int :=
  if t.done then (t, 7) else if okName s then
    (if drop then (if (getRT t s).2.2 = 0 then (finRT { (getRT t s).1 with sees := dropR s (getRT t s).1.sees } s, 0) else ((getRT t s).1, (getRT t s).2.2))
      else (finRT { t with sees := putR s x t.sees } s, 0))
  else (t, 13)
set_option maxRecDepth 100000 in
set_option maxHeartbeats 8000000 in
theorem refPutC_any (s : ByteArray) (x : Int) (hs : s.size ≤ 9223372036854775807) {W : World} {v : Value} {t : RT} (h : RtIs W v t) (h1 : t.sees.length ≤ 90000) (h2 : t.read.length ≤ 90000) (h3 : t.changed.length ≤ 90000) :
    Calls Try.prog 37 #[v, .string s, .int .i64 x, .bool false] W fun e w' => ∃ v', e = .returned (.tuple #[v', .int .i64 (chgRT t s x false).2]) ∧ RtIs w' v' (chgRT t s x false).1 ∧ Below W.heap.size W w' := by
  obtain ⟨a, b, c, rfl, hA⟩ := h
  obtain ⟨n, T, R, C, d⟩ := t
  dsimp only at *
  obtain ⟨G, hG⟩ : ∃ G, chgRT ⟨n, T, R, C, d⟩ s x false = G := ⟨_, rfl⟩
  have HG := Lib.hid hG
  rw [hG]
  clear hG
  obtain ⟨W1, hW1⟩ : ∃ w, (W.alloc (.cells #[.int .i64 n, slV a, slV b, slV c, .bool d] 40)).alloc (.cells #[.int .i64 0, slV sl0, slV sl0, slV sl0, .bool false] 40) = w := ⟨_, rfl⟩
  have hb1 : Below W.heap.size W W1 := by rw [← hW1]; exact ((Below.refl _ W).alloc (Nat.le_refl _) _).alloc (by simp) _
  have k1 : RtC W1 W.heap.size n a b c d := by rw [← hW1]; exact (Below.heap_alloc _ _ _ (by simp)).trans (heap_new _ _)
  have k2 : RtC W1 (W.heap.size + 1) 0 sl0 sl0 sl0 false := by rw [← hW1]; exact heap_new1 _ _ _
  have HB1 := Lib.hid hb1; have K1 := Lib.hid k1; have K2 := Lib.hid k2; have HA1 := Lib.hid (hA.below hb1)
  unfold rtV
  obtain ⟨a0, an, ac⟩ := a
  obtain ⟨b0, bn, bc⟩ := b
  obtain ⟨c0, cn, cc⟩ := c
  simp only [slV, sl0] at *
  have HFV := Lib.hid (refValid_any W1 s hs)
  clear k1 k2 hb1 hA
  obtain ⟨p0, p1, p2, p3, p4, -⟩ := K1.out.cells
  cases d with
  | true =>
    have HE : Hid (G = (⟨n, T, R, C, true⟩, 7)) := Lib.hid (by rw [← HG.out]; rfl)
    obtain ⟨x0, x1, x2, x3, x4, y0, y1, y2, y3, y4⟩ := K2.out.cells
    obtain ⟨W9, hW9⟩ : ∃ w, ((((W1.setCell ⟨W.heap.size + 1, 0, none⟩ (.int .i64 n)).setCell ⟨W.heap.size + 1, 1, none⟩ (.slice a0 an ac)).setCell ⟨W.heap.size + 1, 2, none⟩ (.slice b0 bn bc)).setCell ⟨W.heap.size + 1, 3, none⟩ (.slice c0 cn cc)).setCell ⟨W.heap.size + 1, 4, none⟩ (.bool true) = w := ⟨_, rfl⟩
    have k9 : RtC W9 (W.heap.size + 1) n (a0, an, ac) (b0, bn, bc) (c0, cn, cc) true := by rw [← hW9]; exact K2.out.all n (a0, an, ac) (b0, bn, bc) (c0, cn, cc) true
    obtain ⟨r0, r1, r2, r3, r4, -⟩ := k9.cells
    have HB9 : Hid (Below W.heap.size W W9) := Lib.hid (by rw [← hW9]; exact (((((HB1.out.setCell (p := ⟨W.heap.size + 1, 0, none⟩) (by simp) _).setCell (p := ⟨W.heap.size + 1, 1, none⟩) (by simp) _).setCell (p := ⟨W.heap.size + 1, 2, none⟩) (by simp) _).setCell (p := ⟨W.heap.size + 1, 3, none⟩) (by simp) _).setCell (p := ⟨W.heap.size + 1, 4, none⟩) (by simp) _))
    have HA9 : Hid (RtAt W9 (a0, an, ac) (b0, bn, bc) (c0, cn, cc) (⟨n, T, R, C, true⟩ : RT)) := Lib.hid (by
      rw [← hW9]
      have hk := fun t ht => rt_keep5 (t := t) K2.out ht n (a0, an, ac) (b0, bn, bc) (c0, cn, cc) true
      exact ⟨HA1.out.1.keep (hk _ (by decide)), HA1.out.2.1.keep (hk _ (by decide)), HA1.out.2.2.keep (hk _ (by decide))⟩)
    clear k9
    go_enter Try.func37, Try.ntmps37
    go_wp2_with fail

    exact bodyPost_ret (v := .tuple #[rtV n (a0, an, ac) (b0, bn, bc) (c0, cn, cc) true, .int .i64 7]) (by simp [results, Try.results37, go_sem, r0, r1, r2, r3, r4, rtV]) rfl ⟨_, by rw [HE.out], by rw [HE.out]; exact ⟨_, _, _, rfl, HA9.out⟩, HB9.out⟩
  | false =>
    by_cases hk : 1 ≤ s.size ∧ s.size ≤ 32
    · have hd : decide (1 ≤ s.size ∧ s.size ≤ 32) = true := decide_eq_true hk
      go_enter Try.func37, Try.ntmps37
      go_wp2_with fail
      refine HFV.out.mono ?_; rintro e w ⟨rfl, h⟩; rw [h, hd]; clear h w hd
      go_wp2_with fail

      refine (refPut_any (l := T) s x HA1.out.1 (by omega)).mono ?_
      rintro e w4 ⟨v4, rfl, hP4, hb4⟩
      obtain ⟨⟨pa, pn, pc⟩, hv4, -⟩ := hP4.sl
      simp only [slV] at hv4
      subst hv4
      have k41 : RtC w4 W.heap.size n (a0, an, ac) (b0, bn, bc) (c0, cn, cc) false := box_below hb4 K1.out
      have k42 : RtC w4 (W.heap.size + 1) 0 (none, 0, 0) (none, 0, 0) (none, 0, 0) false := box_below hb4 K2.out
      have hA4 := RtAt.below HA1.out hb4
      obtain ⟨w5, hw5⟩ : ∃ w, w4.setCell ⟨W.heap.size, 1, none⟩ (.slice pa pn pc) = w := ⟨_, rfl⟩
      have hk5 := fun t ht => KeepT.setCell (nt := t) (a := ⟨W.heap.size, 1, none⟩) (v := .slice pa pn pc) k41 ht
      rw [hw5] at hk5
      have KP1 : Hid (RtC w5 W.heap.size n (pa, pn, pc) (b0, bn, bc) (c0, cn, cc) false) := Lib.hid (by rw [← hw5]; exact k41.sees (pa, pn, pc))
      have KP2 : Hid (RtC w5 (W.heap.size + 1) 0 (none, 0, 0) (none, 0, 0) (none, 0, 0) false) := Lib.hid (by rw [← hw5]; exact (Below.heap_setCell _ _ _ _ (by simp)).trans k42)
      have HBP : Hid (Below W.heap.size W w5) := Lib.hid (by rw [← hw5]; exact (Below.step HB1.out hb4).setCell (p := ⟨W.heap.size, 1, none⟩) (Nat.le_refl _) _)
      have HAP : Hid (RtAt w5 (pa, pn, pc) (b0, bn, bc) (c0, cn, cc) (⟨n, putR s x T, R, C, false⟩ : RT)) := Lib.hid ⟨hP4.keep (hk5 _ (by decide)), hA4.2.1.keep (hk5 _ (by decide)), hA4.2.2.keep (hk5 _ (by decide))⟩
      have HAXL := Lib.hid (RtAt.lt HAP.out)
      obtain ⟨-, s1, -, -, -, -, e1, -⟩ := k41.cells
      obtain ⟨z0, z1, z2, z3, z4, -⟩ := KP1.out.cells
      clear hP4 hb4 k41 k42 hA4 hk5 p0 p1 p2 p3 p4
      go_wp2_with fail
      clear s1 e1 hw5 z0 z1 z2 z3 z4

      have HI1 := Lib.hid (refIn_any (l := C) s HAP.out.2.2 (by omega))
      obtain ⟨t0, t1, t2, t3, t4, -⟩ := KP1.out.cells
      cases hin : inR s C with
      | true =>
        have HE : Hid (G = (⟨n, putR s x T, R, C, false⟩, 0)) := Lib.hid (by rw [← HG.out]; simp [chgRT, finRT, okName, hk, hin])
        rw [hin] at HI1
        have HIN := Lib.hid hin; clear hin
        obtain ⟨x0, x1, x2, x3, x4, y0, y1, y2, y3, y4⟩ := KP2.out.cells
        obtain ⟨W9, hW9⟩ : ∃ w, ((((w5.setCell ⟨W.heap.size + 1, 0, none⟩ (.int .i64 n)).setCell ⟨W.heap.size + 1, 1, none⟩ (.slice pa pn pc)).setCell ⟨W.heap.size + 1, 2, none⟩ (.slice b0 bn bc)).setCell ⟨W.heap.size + 1, 3, none⟩ (.slice c0 cn cc)).setCell ⟨W.heap.size + 1, 4, none⟩ (.bool false) = w := ⟨_, rfl⟩
        have k9 : RtC W9 (W.heap.size + 1) n (pa, pn, pc) (b0, bn, bc) (c0, cn, cc) false := by rw [← hW9]; exact KP2.out.all n (pa, pn, pc) (b0, bn, bc) (c0, cn, cc) false
        obtain ⟨r0, r1, r2, r3, r4, -⟩ := k9.cells
        have HB9 : Hid (Below W.heap.size W W9) := Lib.hid (by rw [← hW9]; exact (((((HBP.out.setCell (p := ⟨W.heap.size + 1, 0, none⟩) (by simp) _).setCell (p := ⟨W.heap.size + 1, 1, none⟩) (by simp) _).setCell (p := ⟨W.heap.size + 1, 2, none⟩) (by simp) _).setCell (p := ⟨W.heap.size + 1, 3, none⟩) (by simp) _).setCell (p := ⟨W.heap.size + 1, 4, none⟩) (by simp) _))
        have HA9 : Hid (RtAt W9 (pa, pn, pc) (b0, bn, bc) (c0, cn, cc) (⟨n, putR s x T, R, C, false⟩ : RT)) := Lib.hid (by
          rw [← hW9]
          have hk := fun t ht => rt_keep5 (t := t) KP2.out ht n (pa, pn, pc) (b0, bn, bc) (c0, cn, cc) false
          exact ⟨HAP.out.1.keep (hk _ (by decide)), HAP.out.2.1.keep (hk _ (by decide)), HAP.out.2.2.keep (hk _ (by decide))⟩)
        clear k9
        refine HI1.out.mono ?_; rintro e w ⟨rfl, h⟩; rw [h]; clear h w
        go_wp2_with fail
        exact bodyPost_ret (v := .tuple #[rtV n (pa, pn, pc) (b0, bn, bc) (c0, cn, cc) false, .int .i64 0]) (by simp [results, Try.results37, go_sem, r0, r1, r2, r3, r4, rtV]) rfl ⟨_, by rw [HE.out], by rw [HE.out]; exact ⟨_, _, _, rfl, HA9.out⟩, HB9.out⟩
      | false =>
        have HE : Hid (G = (⟨n, putR s x T, R, C ++ [s], false⟩, 0)) := Lib.hid (by rw [← HG.out]; simp [chgRT, finRT, okName, hk, hin])
        rw [hin] at HI1
        have HIN := Lib.hid hin; clear hin
        obtain ⟨wa, hwa⟩ : ∃ w, w5.alloc (.cells #[] 9) = w := ⟨_, rfl⟩
        have hba : Below w5.heap.size w5 wa := by rw [← hwa]; exact (Below.refl _ _).alloc (Nat.le_refl _) _
        have hSa : Sts w5.heap.size wa (.slice (some ⟨w5.heap.size, 0, none⟩) 0 0) [] := by rw [← hwa]; exact SlA.lit (l := []) encT_len rfl (by simp)
        have HSA := Lib.hid hSa; have HBA := Lib.hid (Below.step HBP.out hba); have HAA := Lib.hid (RtAt.below HAP.out hba)
        have HKA := Lib.hid (show RtC wa W.heap.size n (pa, pn, pc) (b0, bn, bc) (c0, cn, cc) false from box_below hba KP1.out); have HKB := Lib.hid (show RtC wa (W.heap.size + 1) 0 (none, 0, 0) (none, 0, 0) (none, 0, 0) false from box_below hba KP2.out)
        have HZ := Lib.hid (show w5.heap.size ≤ wa.heap.size from hba.size)
        have HZ1 := Lib.hid (show W.heap.size + 1 < w5.heap.size from (Array.getElem?_eq_some_iff.1 KP2.out).1)
        clear hba hSa
        obtain ⟨-, -, -, m3, -⟩ := HKA.out.cells

        refine HI1.out.mono ?_; rintro e w ⟨rfl, h⟩; rw [h]; clear h w
        clear t0 t1 t2 t3 t4
        go_wp2_with (first
          | (at_builtin
             refine wp_cat (l2 := C) elemT encT_len rfl _ _ rfl rfl HSA.out rfl HAA.out.2.2 encT_one (by simp; omega) HZ.out ?_
             intro v1 w1 hS1 hg1 hb1
             rw [List.nil_append] at hS1
             obtain ⟨va, vc, rfl⟩ := hS1.len
             have HS1 := Lib.hid hS1; have HB1' := Lib.hid hb1
             have HZ2 := Lib.hid (Nat.le_trans HZ.out hb1.size)
             clear hS1 hg1 hb1 m3)
          | (at_builtin
             refine wp_app1G (l := C) (w0 := w1) elemT encT_len rfl _ _ rfl rfl HS1.out s rfl rfl (encT_one s) (by omega) HZ2.out ?_
             intro v2 w2' hS2 hg2 hb2
             obtain ⟨vb, vd, rfl⟩ := hS2.len
             rw [List.length_append, List.length_singleton] at hS2 ⊢
             have hb3 : Below w5.heap.size wa w2' := HB1'.out.trans hb2
             have HB2' := Lib.hid (HBA.out.trans (hb3.mono HBP.out.size))
             have k1 : RtC w2' W.heap.size n (pa, pn, pc) (b0, bn, bc) (c0, cn, cc) false := (hb3.block _ (by have := HZ1.out; omega)).trans HKA.out
             have k2 : RtC w2' (W.heap.size + 1) 0 (none, 0, 0) (none, 0, 0) (none, 0, 0) false := (hb3.block _ HZ1.out).trans HKB.out
             obtain ⟨w3', hw3⟩ : ∃ w, w2'.setCell ⟨W.heap.size, 3, none⟩ (.slice vb (C.length + 1) vd) = w := ⟨_, rfl⟩
             have hk3 := fun t ht => KeepT.setCell (nt := t) (a := ⟨W.heap.size, 3, none⟩) (v := .slice vb (C.length + 1) vd) k1 ht
             rw [hw3] at hk3
             have KY1 : Hid (RtC w3' W.heap.size n (pa, pn, pc) (b0, bn, bc) (vb, C.length + 1, vd) false) := Lib.hid (by rw [← hw3]; exact k1.changed (vb, C.length + 1, vd))
             have KY2 : Hid (RtC w3' (W.heap.size + 1) 0 (none, 0, 0) (none, 0, 0) (none, 0, 0) false) := Lib.hid (by rw [← hw3]; exact (Below.heap_setCell _ _ _ _ (by simp)).trans k2)
             have HBY : Hid (Below W.heap.size W w3') := Lib.hid (by rw [← hw3]; exact HB2'.out.setCell (p := ⟨W.heap.size, 3, none⟩) (Nat.le_refl _) _)
             have hA2 : RtAt w2' (pa, pn, pc) (b0, bn, bc) (c0, cn, cc) ⟨n, putR s x T, R, C, false⟩ := ⟨(HAA.out.1.keep_up hb3 HAXL.out.1), (HAA.out.2.1.keep_up hb3 HAXL.out.2.1), (HAA.out.2.2.keep_up hb3 HAXL.out.2.2)⟩
             have HAY : Hid (RtAt w3' (pa, pn, pc) (b0, bn, bc) (vb, C.length + 1, vd) (⟨n, putR s x T, R, C ++ [s], false⟩ : RT)) := Lib.hid ⟨hA2.1.keep (hk3 _ (by decide)), hA2.2.1.keep (hk3 _ (by decide)), (hS2.mono (Nat.zero_le _)).keep (hk3 _ (by decide))⟩
             obtain ⟨-, -, -, m3, -, -, -, -, f3, -⟩ := k1.cells
             obtain ⟨l0, l1, l2, l3, l4, -⟩ := KY1.out.cells
             obtain ⟨x0, x1, x2, x3, x4, y0, y1, y2, y3, y4⟩ := KY2.out.cells
             obtain ⟨W9, hW9⟩ : ∃ w, ((((w3'.setCell ⟨W.heap.size + 1, 0, none⟩ (.int .i64 n)).setCell ⟨W.heap.size + 1, 1, none⟩ (.slice pa pn pc)).setCell ⟨W.heap.size + 1, 2, none⟩ (.slice b0 bn bc)).setCell ⟨W.heap.size + 1, 3, none⟩ (.slice vb (C.length + 1) vd)).setCell ⟨W.heap.size + 1, 4, none⟩ (.bool false) = w := ⟨_, rfl⟩
             clear hS2 hg2 hb2 hb3 k1 k2 hk3 hA2))
        have k9 : RtC W9 (W.heap.size + 1) n (pa, pn, pc) (b0, bn, bc) (vb, C.length + 1, vd) false := by rw [← hW9]; exact KY2.out.all n (pa, pn, pc) (b0, bn, bc) (vb, C.length + 1, vd) false
        obtain ⟨r0, r1, r2, r3, r4, -⟩ := k9.cells
        have HB9 : Hid (Below W.heap.size W W9) := Lib.hid (by rw [← hW9]; exact (((((HBY.out.setCell (p := ⟨W.heap.size + 1, 0, none⟩) (by simp) _).setCell (p := ⟨W.heap.size + 1, 1, none⟩) (by simp) _).setCell (p := ⟨W.heap.size + 1, 2, none⟩) (by simp) _).setCell (p := ⟨W.heap.size + 1, 3, none⟩) (by simp) _).setCell (p := ⟨W.heap.size + 1, 4, none⟩) (by simp) _))
        have HA9 : Hid (RtAt W9 (pa, pn, pc) (b0, bn, bc) (vb, C.length + 1, vd) ⟨n, putR s x T, R, C ++ [s], false⟩) := Lib.hid (by
          rw [← hW9]
          have hk := fun t ht => rt_keep5 (t := t) KY2.out ht n (pa, pn, pc) (b0, bn, bc) (vb, C.length + 1, vd) false
          exact ⟨HAY.out.1.keep (hk _ (by decide)), HAY.out.2.1.keep (hk _ (by decide)), HAY.out.2.2.keep (hk _ (by decide))⟩)
        exact bodyPost_ret (v := .tuple #[rtV n (pa, pn, pc) (b0, bn, bc) (vb, C.length + 1, vd) false, .int .i64 0]) (by simp [results, Try.results37, go_sem, r0, r1, r2, r3, r4, rtV]) rfl ⟨_, by rw [HE.out], by rw [HE.out]; exact ⟨_, _, _, rfl, HA9.out⟩, HB9.out⟩
    · have hd : decide (1 ≤ s.size ∧ s.size ≤ 32) = false := decide_eq_false hk
      have HE : Hid (G = (⟨n, T, R, C, false⟩, 13)) := Lib.hid (by rw [← HG.out]; simp [chgRT, okName, hk])
      obtain ⟨x0, x1, x2, x3, x4, y0, y1, y2, y3, y4⟩ := K2.out.cells
      obtain ⟨W9, hW9⟩ : ∃ w, ((((W1.setCell ⟨W.heap.size + 1, 0, none⟩ (.int .i64 n)).setCell ⟨W.heap.size + 1, 1, none⟩ (.slice a0 an ac)).setCell ⟨W.heap.size + 1, 2, none⟩ (.slice b0 bn bc)).setCell ⟨W.heap.size + 1, 3, none⟩ (.slice c0 cn cc)).setCell ⟨W.heap.size + 1, 4, none⟩ (.bool false) = w := ⟨_, rfl⟩
      have k9 : RtC W9 (W.heap.size + 1) n (a0, an, ac) (b0, bn, bc) (c0, cn, cc) false := by rw [← hW9]; exact K2.out.all n (a0, an, ac) (b0, bn, bc) (c0, cn, cc) false
      obtain ⟨r0, r1, r2, r3, r4, -⟩ := k9.cells
      have HB9 : Hid (Below W.heap.size W W9) := Lib.hid (by rw [← hW9]; exact (((((HB1.out.setCell (p := ⟨W.heap.size + 1, 0, none⟩) (by simp) _).setCell (p := ⟨W.heap.size + 1, 1, none⟩) (by simp) _).setCell (p := ⟨W.heap.size + 1, 2, none⟩) (by simp) _).setCell (p := ⟨W.heap.size + 1, 3, none⟩) (by simp) _).setCell (p := ⟨W.heap.size + 1, 4, none⟩) (by simp) _))
      have HA9 : Hid (RtAt W9 (a0, an, ac) (b0, bn, bc) (c0, cn, cc) (⟨n, T, R, C, false⟩ : RT)) := Lib.hid (by
        rw [← hW9]
        have hk := fun t ht => rt_keep5 (t := t) K2.out ht n (a0, an, ac) (b0, bn, bc) (c0, cn, cc) false
        exact ⟨HA1.out.1.keep (hk _ (by decide)), HA1.out.2.1.keep (hk _ (by decide)), HA1.out.2.2.keep (hk _ (by decide))⟩)
      clear k9
      go_enter Try.func37, Try.ntmps37
      go_wp2_with fail
      refine HFV.out.mono ?_; rintro e w ⟨rfl, h⟩; rw [h, hd]; clear h w hd
      go_wp2_with fail

      exact bodyPost_ret (v := .tuple #[rtV n (a0, an, ac) (b0, bn, bc) (c0, cn, cc) false, .int .i64 13]) (by simp [results, Try.results37, go_sem, r0, r1, r2, r3, r4, rtV]) rfl ⟨_, by rw [HE.out], by rw [HE.out]; exact ⟨_, _, _, rfl, HA9.out⟩, HB9.out⟩
set_option maxRecDepth 100000 in
set_option maxHeartbeats 8000000 in
theorem refDropC_any (s : ByteArray) (x : Int) (hs : s.size ≤ 9223372036854775807) {W : World} {v : Value} {t : RT} (h : RtIs W v t) (h1 : t.sees.length ≤ 90000) (h2 : t.read.length ≤ 90000) (h3 : t.changed.length ≤ 90000) :
    Calls Try.prog 37 #[v, .string s, .int .i64 x, .bool true] W fun e w' => ∃ v', e = .returned (.tuple #[v', .int .i64 (chgRT t s x true).2]) ∧ RtIs w' v' (chgRT t s x true).1 ∧ Below W.heap.size W w' := by
  obtain ⟨a, b, c, rfl, hA⟩ := h
  obtain ⟨n, T, R, C, d⟩ := t
  dsimp only at *
  obtain ⟨G, hG⟩ : ∃ G, chgRT ⟨n, T, R, C, d⟩ s x true = G := ⟨_, rfl⟩
  have HG := Lib.hid hG
  rw [hG]
  clear hG
  obtain ⟨W1, hW1⟩ : ∃ w, (W.alloc (.cells #[.int .i64 n, slV a, slV b, slV c, .bool d] 40)).alloc (.cells #[.int .i64 0, slV sl0, slV sl0, slV sl0, .bool false] 40) = w := ⟨_, rfl⟩
  have hb1 : Below W.heap.size W W1 := by rw [← hW1]; exact ((Below.refl _ W).alloc (Nat.le_refl _) _).alloc (by simp) _
  have k1 : RtC W1 W.heap.size n a b c d := by rw [← hW1]; exact (Below.heap_alloc _ _ _ (by simp)).trans (heap_new _ _)
  have k2 : RtC W1 (W.heap.size + 1) 0 sl0 sl0 sl0 false := by rw [← hW1]; exact heap_new1 _ _ _
  have HB1 := Lib.hid hb1; have K1 := Lib.hid k1; have K2 := Lib.hid k2; have HA1 := Lib.hid (hA.below hb1)
  unfold rtV
  obtain ⟨a0, an, ac⟩ := a
  obtain ⟨b0, bn, bc⟩ := b
  obtain ⟨c0, cn, cc⟩ := c
  simp only [slV, sl0] at *
  have HFV := Lib.hid (refValid_any W1 s hs)
  clear k1 k2 hb1 hA
  obtain ⟨p0, p1, p2, p3, p4, -⟩ := K1.out.cells
  cases d with
  | true =>
    have HE : Hid (G = (⟨n, T, R, C, true⟩, 7)) := Lib.hid (by rw [← HG.out]; rfl)
    obtain ⟨x0, x1, x2, x3, x4, y0, y1, y2, y3, y4⟩ := K2.out.cells
    obtain ⟨W9, hW9⟩ : ∃ w, ((((W1.setCell ⟨W.heap.size + 1, 0, none⟩ (.int .i64 n)).setCell ⟨W.heap.size + 1, 1, none⟩ (.slice a0 an ac)).setCell ⟨W.heap.size + 1, 2, none⟩ (.slice b0 bn bc)).setCell ⟨W.heap.size + 1, 3, none⟩ (.slice c0 cn cc)).setCell ⟨W.heap.size + 1, 4, none⟩ (.bool true) = w := ⟨_, rfl⟩
    have k9 : RtC W9 (W.heap.size + 1) n (a0, an, ac) (b0, bn, bc) (c0, cn, cc) true := by rw [← hW9]; exact K2.out.all n (a0, an, ac) (b0, bn, bc) (c0, cn, cc) true
    obtain ⟨r0, r1, r2, r3, r4, -⟩ := k9.cells
    have HB9 : Hid (Below W.heap.size W W9) := Lib.hid (by rw [← hW9]; exact (((((HB1.out.setCell (p := ⟨W.heap.size + 1, 0, none⟩) (by simp) _).setCell (p := ⟨W.heap.size + 1, 1, none⟩) (by simp) _).setCell (p := ⟨W.heap.size + 1, 2, none⟩) (by simp) _).setCell (p := ⟨W.heap.size + 1, 3, none⟩) (by simp) _).setCell (p := ⟨W.heap.size + 1, 4, none⟩) (by simp) _))
    have HA9 : Hid (RtAt W9 (a0, an, ac) (b0, bn, bc) (c0, cn, cc) (⟨n, T, R, C, true⟩ : RT)) := Lib.hid (by
      rw [← hW9]
      have hk := fun t ht => rt_keep5 (t := t) K2.out ht n (a0, an, ac) (b0, bn, bc) (c0, cn, cc) true
      exact ⟨HA1.out.1.keep (hk _ (by decide)), HA1.out.2.1.keep (hk _ (by decide)), HA1.out.2.2.keep (hk _ (by decide))⟩)
    clear k9
    go_enter Try.func37, Try.ntmps37
    go_wp2_with fail

    exact bodyPost_ret (v := .tuple #[rtV n (a0, an, ac) (b0, bn, bc) (c0, cn, cc) true, .int .i64 7]) (by simp [results, Try.results37, go_sem, r0, r1, r2, r3, r4, rtV]) rfl ⟨_, by rw [HE.out], by rw [HE.out]; exact ⟨_, _, _, rfl, HA9.out⟩, HB9.out⟩
  | false =>
    by_cases hk : 1 ≤ s.size ∧ s.size ≤ 32
    · have hd : decide (1 ≤ s.size ∧ s.size ≤ 32) = true := decide_eq_true hk
      obtain ⟨hge, hgl⟩ := getRT_eq ⟨n, T, R, C, false⟩ s
      obtain ⟨R', hR'⟩ : ∃ X, (getRT ⟨n, T, R, C, false⟩ s).1.read = X := ⟨_, rfl⟩
      obtain ⟨z, hz⟩ : ∃ X, (getRT ⟨n, T, R, C, false⟩ s).2.2 = X := ⟨_, rfl⟩
      obtain ⟨y, hy⟩ : ∃ X, (getRT ⟨n, T, R, C, false⟩ s).2.1 = X := ⟨_, rfl⟩
      rw [hR'] at hge hgl
      dsimp only at hge hgl
      have HCG := Lib.hid (refGet_any s hs (W := W1) (v := rtV n (a0, an, ac) (b0, bn, bc) (c0, cn, cc) false) (t := ⟨n, T, R, C, false⟩) ⟨_, _, _, rfl, HA1.out⟩ (by dsimp only; omega) (by dsimp only; omega) (by dsimp only; omega))
      rw [hge, hz, hy] at HCG
      have HGE := Lib.hid hge; have HZZ := Lib.hid hz
      clear hge hz hy hR'
      go_enter Try.func37, Try.ntmps37
      go_wp2_with fail
      refine HFV.out.mono ?_; rintro e w ⟨rfl, h⟩; rw [h, hd]; clear h w hd
      go_wp2_with fail
      refine HCG.out.mono ?_
      rintro e w2 ⟨v', rfl, hR2, hb2⟩
      obtain ⟨⟨a1, an1, ac1⟩, ⟨b1, bn1, bc1⟩, ⟨c1, cn1, cc1⟩, rfl, hA2⟩ := hR2
      unfold rtV
      simp only [slV] at *
      obtain ⟨wz, hwz⟩ : ∃ w, w2.alloc (.cells #[.int .i64 0, .slice none 0 0, .slice none 0 0, .slice none 0 0, .bool false] 40) = w := ⟨_, rfl⟩
      have hbz : Below w2.heap.size w2 wz := by rw [← hwz]; exact (Below.refl _ _).alloc (Nat.le_refl _) _
      have kz : RtC wz w2.heap.size 0 (none, 0, 0) (none, 0, 0) (none, 0, 0) false := by rw [← hwz]; exact heap_new _ _
      obtain ⟨x0, x1, x2, x3, x4, y0, y1, y2, y3, y4⟩ := kz.cells
      obtain ⟨w3, hw3⟩ : ∃ w, ((((wz.setCell ⟨w2.heap.size, 0, none⟩ (.int .i64 n)).setCell ⟨w2.heap.size, 1, none⟩ (.slice a1 an1 ac1)).setCell ⟨w2.heap.size, 2, none⟩ (.slice b1 bn1 bc1)).setCell ⟨w2.heap.size, 3, none⟩ (.slice c1 cn1 cc1)).setCell ⟨w2.heap.size, 4, none⟩ (.bool false) = w := ⟨_, rfl⟩
      have kd : RtC w3 w2.heap.size n (a1, an1, ac1) (b1, bn1, bc1) (c1, cn1, cc1) false := by rw [← hw3]; exact kz.all n (a1, an1, ac1) (b1, bn1, bc1) (c1, cn1, cc1) false
      have hb3 : Below w2.heap.size w2 w3 := by rw [← hw3]; exact (((((hbz.setCell (p := ⟨w2.heap.size, 0, none⟩) (Nat.le_refl _) _).setCell (p := ⟨w2.heap.size, 1, none⟩) (Nat.le_refl _) _).setCell (p := ⟨w2.heap.size, 2, none⟩) (Nat.le_refl _) _).setCell (p := ⟨w2.heap.size, 3, none⟩) (Nat.le_refl _) _).setCell (p := ⟨w2.heap.size, 4, none⟩) (Nat.le_refl _) _)
      have KD0 := Lib.hid kd
      have KD1 : Hid (RtC w3 W.heap.size n (a0, an, ac) (b0, bn, bc) (c0, cn, cc) false) := Lib.hid (box_below hb3 (box_below hb2 K1.out))
      have KD2 : Hid (RtC w3 (W.heap.size + 1) 0 (none, 0, 0) (none, 0, 0) (none, 0, 0) false) := Lib.hid (box_below hb3 (box_below hb2 K2.out))
      have HBD : Hid (Below W.heap.size W w3) := Lib.hid (Below.step HB1.out (Below.step hb2 hb3))
      have HAD : Hid (RtAt w3 (a1, an1, ac1) (b1, bn1, bc1) (c1, cn1, cc1) (⟨n, T, R', C, false⟩ : RT)) := Lib.hid (RtAt.below hA2 hb3)
      have HGW : Hid (W.heap.size + 1 < w2.heap.size) := Lib.hid (Nat.lt_of_lt_of_le (Array.getElem?_eq_some_iff.1 K2.out).1 hb2.size)
      obtain ⟨u0, u1, u2, u3, u4, -⟩ := kd.cells
      clear hA2 hbz kz kd hb3 hb2 p0 p1 p2 p3 p4
      by_cases hz0 : z = 0
      · subst hz0
        obtain ⟨v0, v1, v2, v3, v4, f0, f1, f2, f3, f4⟩ := KD1.out.cells
        obtain ⟨w4, hw4⟩ : ∃ w, ((((w3.setCell ⟨W.heap.size, 0, none⟩ (.int .i64 n)).setCell ⟨W.heap.size, 1, none⟩ (.slice a1 an1 ac1)).setCell ⟨W.heap.size, 2, none⟩ (.slice b1 bn1 bc1)).setCell ⟨W.heap.size, 3, none⟩ (.slice c1 cn1 cc1)).setCell ⟨W.heap.size, 4, none⟩ (.bool false) = w := ⟨_, rfl⟩
        have k4 : RtC w4 W.heap.size n (a1, an1, ac1) (b1, bn1, bc1) (c1, cn1, cc1) false := by rw [← hw4]; exact KD1.out.all n (a1, an1, ac1) (b1, bn1, bc1) (c1, cn1, cc1) false
        have hk4 := fun t ht => rt_keep5 (t := t) KD1.out ht n (a1, an1, ac1) (b1, bn1, bc1) (c1, cn1, cc1) false
        simp only [slV] at hk4
        rw [hw4] at hk4
        have k42 : RtC w4 (W.heap.size + 1) 0 (none, 0, 0) (none, 0, 0) (none, 0, 0) false := by
          rw [← hw4]
          exact (Below.heap_setCell _ _ _ _ (by simp)).trans ((Below.heap_setCell _ _ _ _ (by simp)).trans ((Below.heap_setCell _ _ _ _ (by simp)).trans ((Below.heap_setCell _ _ _ _ (by simp)).trans ((Below.heap_setCell _ _ _ _ (by simp)).trans KD2.out))))
        have HB4 : Hid (Below W.heap.size W w4) := Lib.hid (by rw [← hw4]; exact (((((HBD.out.setCell (p := ⟨W.heap.size, 0, none⟩) (Nat.le_refl _) _).setCell (p := ⟨W.heap.size, 1, none⟩) (Nat.le_refl _) _).setCell (p := ⟨W.heap.size, 2, none⟩) (Nat.le_refl _) _).setCell (p := ⟨W.heap.size, 3, none⟩) (Nat.le_refl _) _).setCell (p := ⟨W.heap.size, 4, none⟩) (Nat.le_refl _) _))
        have HA4 : Hid (RtAt w4 (a1, an1, ac1) (b1, bn1, bc1) (c1, cn1, cc1) (⟨n, T, R', C, false⟩ : RT)) := Lib.hid ⟨HAD.out.1.keep (hk4 _ (by decide)), HAD.out.2.1.keep (hk4 _ (by decide)), HAD.out.2.2.keep (hk4 _ (by decide))⟩
        have K41 := Lib.hid k4; have K42 := Lib.hid k42
        obtain ⟨g0, g1, -⟩ := k4.cells
        clear k4 k42 hk4
        go_wp2_with fail
        refine (refDrop_any (l := T) s HA4.out.1 (by omega)).mono ?_
        rintro e w5 ⟨v5, rfl, hP5, hb5⟩
        obtain ⟨⟨pa, pn, pc⟩, hv5, -⟩ := hP5.sl
        simp only [slV] at hv5
        subst hv5
        have k51 : RtC w5 W.heap.size n (a1, an1, ac1) (b1, bn1, bc1) (c1, cn1, cc1) false := box_below hb5 K41.out
        have k52 : RtC w5 (W.heap.size + 1) 0 (none, 0, 0) (none, 0, 0) (none, 0, 0) false := box_below hb5 K42.out
        have hA5 := RtAt.below HA4.out hb5
        clear x0 x1 x2 x3 x4 y0 y1 y2 y3 y4 u0 u1 u2 u3 u4 v0 v1 v2 v3 v4 f0 f1 f2 f3 f4 g0 g1 hw4 hw3 hwz
        obtain ⟨w6, hw6⟩ : ∃ w, w5.setCell ⟨W.heap.size, 1, none⟩ (.slice pa pn pc) = w := ⟨_, rfl⟩
        have hk6 := fun t ht => KeepT.setCell (nt := t) (a := ⟨W.heap.size, 1, none⟩) (v := .slice pa pn pc) k51 ht
        rw [hw6] at hk6
        have KP1 : Hid (RtC w6 W.heap.size n (pa, pn, pc) (b1, bn1, bc1) (c1, cn1, cc1) false) := Lib.hid (by rw [← hw6]; exact k51.sees (pa, pn, pc))
        have KP2 : Hid (RtC w6 (W.heap.size + 1) 0 (none, 0, 0) (none, 0, 0) (none, 0, 0) false) := Lib.hid (by rw [← hw6]; exact (Below.heap_setCell _ _ _ _ (by simp)).trans k52)
        have HBP : Hid (Below W.heap.size W w6) := Lib.hid (by rw [← hw6]; exact (HB4.out.trans (hb5.mono HB4.out.size)).setCell (p := ⟨W.heap.size, 1, none⟩) (Nat.le_refl _) _)
        have HAP : Hid (RtAt w6 (pa, pn, pc) (b1, bn1, bc1) (c1, cn1, cc1) (⟨n, dropR s T, R', C, false⟩ : RT)) := Lib.hid ⟨hP5.keep (hk6 _ (by decide)), hA5.2.1.keep (hk6 _ (by decide)), hA5.2.2.keep (hk6 _ (by decide))⟩
        have HAXL := Lib.hid (RtAt.lt HAP.out)
        obtain ⟨-, s1, -, -, -, -, e1, -⟩ := k51.cells
        obtain ⟨z0, z1, z2, z3, z4, -⟩ := KP1.out.cells
        clear hP5 hb5 k51 k52 hA5 hk6
        go_wp2_with fail
        clear s1 e1 hw6 z0 z1 z2 z3 z4
        have HI1 := Lib.hid (refIn_any (l := C) s HAP.out.2.2 (by omega))
        obtain ⟨t0, t1, t2, t3, t4, -⟩ := KP1.out.cells
        cases hin : inR s C with
        | true =>
          have HE : Hid (G = (⟨n, dropR s T, R', C, false⟩, 0)) := Lib.hid (by rw [← HG.out]; simp [chgRT, finRT, okName, hk, hin, HGE.out, HZZ.out])
          rw [hin] at HI1
          have HIN := Lib.hid hin; clear hin
          obtain ⟨x0, x1, x2, x3, x4, y0, y1, y2, y3, y4⟩ := KP2.out.cells
          obtain ⟨W9, hW9⟩ : ∃ w, ((((w6.setCell ⟨W.heap.size + 1, 0, none⟩ (.int .i64 n)).setCell ⟨W.heap.size + 1, 1, none⟩ (.slice pa pn pc)).setCell ⟨W.heap.size + 1, 2, none⟩ (.slice b1 bn1 bc1)).setCell ⟨W.heap.size + 1, 3, none⟩ (.slice c1 cn1 cc1)).setCell ⟨W.heap.size + 1, 4, none⟩ (.bool false) = w := ⟨_, rfl⟩
          have k9 : RtC W9 (W.heap.size + 1) n (pa, pn, pc) (b1, bn1, bc1) (c1, cn1, cc1) false := by rw [← hW9]; exact KP2.out.all n (pa, pn, pc) (b1, bn1, bc1) (c1, cn1, cc1) false
          obtain ⟨r0, r1, r2, r3, r4, -⟩ := k9.cells
          have HB9 : Hid (Below W.heap.size W W9) := Lib.hid (by rw [← hW9]; exact (((((HBP.out.setCell (p := ⟨W.heap.size + 1, 0, none⟩) (by simp) _).setCell (p := ⟨W.heap.size + 1, 1, none⟩) (by simp) _).setCell (p := ⟨W.heap.size + 1, 2, none⟩) (by simp) _).setCell (p := ⟨W.heap.size + 1, 3, none⟩) (by simp) _).setCell (p := ⟨W.heap.size + 1, 4, none⟩) (by simp) _))
          have HA9 : Hid (RtAt W9 (pa, pn, pc) (b1, bn1, bc1) (c1, cn1, cc1) (⟨n, dropR s T, R', C, false⟩ : RT)) := Lib.hid (by
            rw [← hW9]
            have hk := fun t ht => rt_keep5 (t := t) KP2.out ht n (pa, pn, pc) (b1, bn1, bc1) (c1, cn1, cc1) false
            exact ⟨HAP.out.1.keep (hk _ (by decide)), HAP.out.2.1.keep (hk _ (by decide)), HAP.out.2.2.keep (hk _ (by decide))⟩)
          clear k9
          refine HI1.out.mono ?_; rintro e w ⟨rfl, h⟩; rw [h]; clear h w
          go_wp2_with fail
          exact bodyPost_ret (v := .tuple #[rtV n (pa, pn, pc) (b1, bn1, bc1) (c1, cn1, cc1) false, .int .i64 0]) (by simp [results, Try.results37, go_sem, r0, r1, r2, r3, r4, rtV]) rfl ⟨_, by rw [HE.out], by rw [HE.out]; exact ⟨_, _, _, rfl, HA9.out⟩, HB9.out⟩
        | false =>
          have HE : Hid (G = (⟨n, dropR s T, R', C ++ [s], false⟩, 0)) := Lib.hid (by rw [← HG.out]; simp [chgRT, finRT, okName, hk, hin, HGE.out, HZZ.out])
          rw [hin] at HI1
          have HIN := Lib.hid hin; clear hin
          obtain ⟨wa, hwa⟩ : ∃ w, w6.alloc (.cells #[] 9) = w := ⟨_, rfl⟩
          have hba : Below w6.heap.size w6 wa := by rw [← hwa]; exact (Below.refl _ _).alloc (Nat.le_refl _) _
          have hSa : Sts w6.heap.size wa (.slice (some ⟨w6.heap.size, 0, none⟩) 0 0) [] := by rw [← hwa]; exact SlA.lit (l := []) encT_len rfl (by simp)
          have HSA := Lib.hid hSa; have HBA := Lib.hid (Below.step HBP.out hba); have HAA := Lib.hid (RtAt.below HAP.out hba)
          have HKA := Lib.hid (show RtC wa W.heap.size n (pa, pn, pc) (b1, bn1, bc1) (c1, cn1, cc1) false from box_below hba KP1.out); have HKB := Lib.hid (show RtC wa (W.heap.size + 1) 0 (none, 0, 0) (none, 0, 0) (none, 0, 0) false from box_below hba KP2.out)
          have HZ := Lib.hid (show w6.heap.size ≤ wa.heap.size from hba.size)
          have HZ1 := Lib.hid (show W.heap.size + 1 < w6.heap.size from (Array.getElem?_eq_some_iff.1 KP2.out).1)
          clear hba hSa
          obtain ⟨-, -, -, m3, -⟩ := HKA.out.cells

          refine HI1.out.mono ?_; rintro e w ⟨rfl, h⟩; rw [h]; clear h w
          clear t0 t1 t2 t3 t4
          go_wp2_with (first
            | (at_builtin
               refine wp_cat (l2 := C) elemT encT_len rfl _ _ rfl rfl HSA.out rfl HAA.out.2.2 encT_one (by simp; omega) HZ.out ?_
               intro v1 w1 hS1 hg1 hb1
               rw [List.nil_append] at hS1
               obtain ⟨va, vc, rfl⟩ := hS1.len
               have HS1 := Lib.hid hS1; have HB1' := Lib.hid hb1
               have HZ2 := Lib.hid (Nat.le_trans HZ.out hb1.size)
               clear hS1 hg1 hb1 m3)
            | (at_builtin
               refine wp_app1G (l := C) (w0 := w1) elemT encT_len rfl _ _ rfl rfl HS1.out s rfl rfl (encT_one s) (by omega) HZ2.out ?_
               intro v2 w2' hS2 hg2 hb2
               obtain ⟨vb, vd, rfl⟩ := hS2.len
               rw [List.length_append, List.length_singleton] at hS2 ⊢
               have hb3 : Below w6.heap.size wa w2' := HB1'.out.trans hb2
               have HB2' := Lib.hid (HBA.out.trans (hb3.mono HBP.out.size))
               have k1 : RtC w2' W.heap.size n (pa, pn, pc) (b1, bn1, bc1) (c1, cn1, cc1) false := (hb3.block _ (by have := HZ1.out; omega)).trans HKA.out
               have k2 : RtC w2' (W.heap.size + 1) 0 (none, 0, 0) (none, 0, 0) (none, 0, 0) false := (hb3.block _ HZ1.out).trans HKB.out
               obtain ⟨w3', hw3⟩ : ∃ w, w2'.setCell ⟨W.heap.size, 3, none⟩ (.slice vb (C.length + 1) vd) = w := ⟨_, rfl⟩
               have hk3 := fun t ht => KeepT.setCell (nt := t) (a := ⟨W.heap.size, 3, none⟩) (v := .slice vb (C.length + 1) vd) k1 ht
               rw [hw3] at hk3
               have KY1 : Hid (RtC w3' W.heap.size n (pa, pn, pc) (b1, bn1, bc1) (vb, C.length + 1, vd) false) := Lib.hid (by rw [← hw3]; exact k1.changed (vb, C.length + 1, vd))
               have KY2 : Hid (RtC w3' (W.heap.size + 1) 0 (none, 0, 0) (none, 0, 0) (none, 0, 0) false) := Lib.hid (by rw [← hw3]; exact (Below.heap_setCell _ _ _ _ (by simp)).trans k2)
               have HBY : Hid (Below W.heap.size W w3') := Lib.hid (by rw [← hw3]; exact HB2'.out.setCell (p := ⟨W.heap.size, 3, none⟩) (Nat.le_refl _) _)
               have hA2 : RtAt w2' (pa, pn, pc) (b1, bn1, bc1) (c1, cn1, cc1) ⟨n, dropR s T, R', C, false⟩ := ⟨(HAA.out.1.keep_up hb3 HAXL.out.1), (HAA.out.2.1.keep_up hb3 HAXL.out.2.1), (HAA.out.2.2.keep_up hb3 HAXL.out.2.2)⟩
               have HAY : Hid (RtAt w3' (pa, pn, pc) (b1, bn1, bc1) (vb, C.length + 1, vd) (⟨n, dropR s T, R', C ++ [s], false⟩ : RT)) := Lib.hid ⟨hA2.1.keep (hk3 _ (by decide)), hA2.2.1.keep (hk3 _ (by decide)), (hS2.mono (Nat.zero_le _)).keep (hk3 _ (by decide))⟩
               obtain ⟨-, -, -, m3, -, -, -, -, f3, -⟩ := k1.cells
               obtain ⟨l0, l1, l2, l3, l4, -⟩ := KY1.out.cells
               obtain ⟨x0, x1, x2, x3, x4, y0, y1, y2, y3, y4⟩ := KY2.out.cells
               obtain ⟨W9, hW9⟩ : ∃ w, ((((w3'.setCell ⟨W.heap.size + 1, 0, none⟩ (.int .i64 n)).setCell ⟨W.heap.size + 1, 1, none⟩ (.slice pa pn pc)).setCell ⟨W.heap.size + 1, 2, none⟩ (.slice b1 bn1 bc1)).setCell ⟨W.heap.size + 1, 3, none⟩ (.slice vb (C.length + 1) vd)).setCell ⟨W.heap.size + 1, 4, none⟩ (.bool false) = w := ⟨_, rfl⟩
               clear hS2 hg2 hb2 hb3 k1 k2 hk3 hA2))
          have k9 : RtC W9 (W.heap.size + 1) n (pa, pn, pc) (b1, bn1, bc1) (vb, C.length + 1, vd) false := by rw [← hW9]; exact KY2.out.all n (pa, pn, pc) (b1, bn1, bc1) (vb, C.length + 1, vd) false
          obtain ⟨r0, r1, r2, r3, r4, -⟩ := k9.cells
          have HB9 : Hid (Below W.heap.size W W9) := Lib.hid (by rw [← hW9]; exact (((((HBY.out.setCell (p := ⟨W.heap.size + 1, 0, none⟩) (by simp) _).setCell (p := ⟨W.heap.size + 1, 1, none⟩) (by simp) _).setCell (p := ⟨W.heap.size + 1, 2, none⟩) (by simp) _).setCell (p := ⟨W.heap.size + 1, 3, none⟩) (by simp) _).setCell (p := ⟨W.heap.size + 1, 4, none⟩) (by simp) _))
          have HA9 : Hid (RtAt W9 (pa, pn, pc) (b1, bn1, bc1) (vb, C.length + 1, vd) ⟨n, dropR s T, R', C ++ [s], false⟩) := Lib.hid (by
            rw [← hW9]
            have hk := fun t ht => rt_keep5 (t := t) KY2.out ht n (pa, pn, pc) (b1, bn1, bc1) (vb, C.length + 1, vd) false
            exact ⟨HAY.out.1.keep (hk _ (by decide)), HAY.out.2.1.keep (hk _ (by decide)), HAY.out.2.2.keep (hk _ (by decide))⟩)
          exact bodyPost_ret (v := .tuple #[rtV n (pa, pn, pc) (b1, bn1, bc1) (vb, C.length + 1, vd) false, .int .i64 0]) (by simp [results, Try.results37, go_sem, r0, r1, r2, r3, r4, rtV]) rfl ⟨_, by rw [HE.out], by rw [HE.out]; exact ⟨_, _, _, rfl, HA9.out⟩, HB9.out⟩
      · have hzb : (z != 0) = true := by simpa using hz0
        have HE : Hid (G = (⟨n, T, R', C, false⟩, z)) := Lib.hid (by rw [← HG.out]; simp [chgRT, okName, hk, HGE.out, HZZ.out, hz0])
        clear hz0
        obtain ⟨x0, x1, x2, x3, x4, y0, y1, y2, y3, y4⟩ := KD2.out.cells
        obtain ⟨W9, hW9⟩ : ∃ w, ((((w3.setCell ⟨W.heap.size + 1, 0, none⟩ (.int .i64 n)).setCell ⟨W.heap.size + 1, 1, none⟩ (.slice a1 an1 ac1)).setCell ⟨W.heap.size + 1, 2, none⟩ (.slice b1 bn1 bc1)).setCell ⟨W.heap.size + 1, 3, none⟩ (.slice c1 cn1 cc1)).setCell ⟨W.heap.size + 1, 4, none⟩ (.bool false) = w := ⟨_, rfl⟩
        have k9 : RtC W9 (W.heap.size + 1) n (a1, an1, ac1) (b1, bn1, bc1) (c1, cn1, cc1) false := by rw [← hW9]; exact KD2.out.all n (a1, an1, ac1) (b1, bn1, bc1) (c1, cn1, cc1) false
        obtain ⟨r0, r1, r2, r3, r4, -⟩ := k9.cells
        have HB9 : Hid (Below W.heap.size W W9) := Lib.hid (by rw [← hW9]; exact (((((HBD.out.setCell (p := ⟨W.heap.size + 1, 0, none⟩) (by simp) _).setCell (p := ⟨W.heap.size + 1, 1, none⟩) (by simp) _).setCell (p := ⟨W.heap.size + 1, 2, none⟩) (by simp) _).setCell (p := ⟨W.heap.size + 1, 3, none⟩) (by simp) _).setCell (p := ⟨W.heap.size + 1, 4, none⟩) (by simp) _))
        have HA9 : Hid (RtAt W9 (a1, an1, ac1) (b1, bn1, bc1) (c1, cn1, cc1) (⟨n, T, R', C, false⟩ : RT)) := Lib.hid (by
          rw [← hW9]
          have hk := fun t ht => rt_keep5 (t := t) KD2.out ht n (a1, an1, ac1) (b1, bn1, bc1) (c1, cn1, cc1) false
          exact ⟨HAD.out.1.keep (hk _ (by decide)), HAD.out.2.1.keep (hk _ (by decide)), HAD.out.2.2.keep (hk _ (by decide))⟩)
        clear k9
        go_wp2_with fail
        exact bodyPost_ret (v := .tuple #[rtV n (a1, an1, ac1) (b1, bn1, bc1) (c1, cn1, cc1) false, .int .i64 z]) (by simp [results, Try.results37, go_sem, r0, r1, r2, r3, r4, rtV]) rfl ⟨_, by rw [HE.out], by rw [HE.out]; exact ⟨_, _, _, rfl, HA9.out⟩, HB9.out⟩
    · have hd : decide (1 ≤ s.size ∧ s.size ≤ 32) = false := decide_eq_false hk
      have HE : Hid (G = (⟨n, T, R, C, false⟩, 13)) := Lib.hid (by rw [← HG.out]; simp [chgRT, okName, hk])
      obtain ⟨x0, x1, x2, x3, x4, y0, y1, y2, y3, y4⟩ := K2.out.cells
      obtain ⟨W9, hW9⟩ : ∃ w, ((((W1.setCell ⟨W.heap.size + 1, 0, none⟩ (.int .i64 n)).setCell ⟨W.heap.size + 1, 1, none⟩ (.slice a0 an ac)).setCell ⟨W.heap.size + 1, 2, none⟩ (.slice b0 bn bc)).setCell ⟨W.heap.size + 1, 3, none⟩ (.slice c0 cn cc)).setCell ⟨W.heap.size + 1, 4, none⟩ (.bool false) = w := ⟨_, rfl⟩
      have k9 : RtC W9 (W.heap.size + 1) n (a0, an, ac) (b0, bn, bc) (c0, cn, cc) false := by rw [← hW9]; exact K2.out.all n (a0, an, ac) (b0, bn, bc) (c0, cn, cc) false
      obtain ⟨r0, r1, r2, r3, r4, -⟩ := k9.cells
      have HB9 : Hid (Below W.heap.size W W9) := Lib.hid (by rw [← hW9]; exact (((((HB1.out.setCell (p := ⟨W.heap.size + 1, 0, none⟩) (by simp) _).setCell (p := ⟨W.heap.size + 1, 1, none⟩) (by simp) _).setCell (p := ⟨W.heap.size + 1, 2, none⟩) (by simp) _).setCell (p := ⟨W.heap.size + 1, 3, none⟩) (by simp) _).setCell (p := ⟨W.heap.size + 1, 4, none⟩) (by simp) _))
      have HA9 : Hid (RtAt W9 (a0, an, ac) (b0, bn, bc) (c0, cn, cc) (⟨n, T, R, C, false⟩ : RT)) := Lib.hid (by
        rw [← hW9]
        have hk := fun t ht => rt_keep5 (t := t) K2.out ht n (a0, an, ac) (b0, bn, bc) (c0, cn, cc) false
        exact ⟨HA1.out.1.keep (hk _ (by decide)), HA1.out.2.1.keep (hk _ (by decide)), HA1.out.2.2.keep (hk _ (by decide))⟩)
      clear k9
      go_enter Try.func37, Try.ntmps37
      go_wp2_with fail
      refine HFV.out.mono ?_; rintro e w ⟨rfl, h⟩; rw [h, hd]; clear h w hd
      go_wp2_with fail

      exact bodyPost_ret (v := .tuple #[rtV n (a0, an, ac) (b0, bn, bc) (c0, cn, cc) false, .int .i64 13]) (by simp [results, Try.results37, go_sem, r0, r1, r2, r3, r4, rtV]) rfl ⟨_, by rw [HE.out], by rw [HE.out]; exact ⟨_, _, _, rfl, HA9.out⟩, HB9.out⟩
end S
end Go.Proofs.Ytlfodhejpbjfcaa
