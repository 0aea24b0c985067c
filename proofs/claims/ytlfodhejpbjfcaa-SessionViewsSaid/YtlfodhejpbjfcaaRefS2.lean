/- The reference's transactions: Get, Change. -/
import Derived.Test.YtlfodhejpbjfcaaRefS1
import Derived.Test.YtlfodhejpbjfcaaSess5
import Derived.Test.YtlfodhejpbjfcaaMake
namespace Go.Proofs.Ytlfodhejpbjfcaa
open Go.RowKit
theorem heap_new1 (W : World) (o o' : Obj) : ((W.alloc o).alloc o').heap[W.heap.size + 1]? = some o' := by
  have := heap_new (W.alloc o) o'; rwa [World.size_alloc] at this
/-- A slice's three words. -/
abbrev Sl := Option Addr × Nat × Nat
abbrev slV (s : Sl) : Value := .slice s.1 s.2.1 s.2.2
theorem SlA.sl {α : Type} {B₀ : Nat} {W : World} {e : TypeId} {size : Nat} {enc : α → List Value} {v : Value} {l : List α} (h : SlA B₀ W e size enc v l) : ∃ s : Sl, v = slV s ∧ s.2.1 = l.length := by
  obtain ⟨a, c, rfl⟩ := h.len
  exact ⟨(a, l.length, c), rfl, rfl⟩
theorem SlA.keep {α : Type} {B₀ : Nat} {A B : World} {e : TypeId} {size : Nat} {enc : α → List Value} {v : Value} {l : List α} (h : SlA B₀ A e size enc v l) (hk : KeepT e A B) : SlA B₀ B e size enc v l := by
  refine ⟨h.1, ?_⟩
  rcases h.2 with hn | ⟨g, cap, cur, hv, hb, hg, rest⟩
  · exact .inl hn
  · exact .inr ⟨g, cap, cur, hv, hb, hk _ _ _ hg, rest⟩
namespace S
attribute [local go_sem] Oper.semAt_some

/-- The reference's transaction. -/
structure RT where
  began : Int
  sees : List (ByteArray × Int)
  read : List ByteArray
  changed : List ByteArray
  done : Bool
def rtV (n : Int) (a b c : Sl) (d : Bool) : Value := .agg #[.int .i64 n, slV a, slV b, slV c, .bool d]
def RtAt (W : World) (a b c : Sl) (t : RT) : Prop := Prs 0 W (slV a) t.sees ∧ Sts 0 W (slV b) t.read ∧ Sts 0 W (slV c) t.changed
/-- v is the reference's transaction t. -/
def RtIs (W : World) (v : Value) (t : RT) : Prop := ∃ a b c, v = rtV t.began a b c t.done ∧ RtAt W a b c t
theorem RtAt.below {A B : World} {a b c : Sl} {t : RT} (h : RtAt A a b c t) (hb : Below A.heap.size A B) : RtAt B a b c t := ⟨h.1.below hb, h.2.1.below hb, h.2.2.below hb⟩
theorem RtIs.below {A B : World} {v : Value} {t : RT} (h : RtIs A v t) (hb : Below A.heap.size A B) : RtIs B v t := by
  obtain ⟨a, b, c, e, h⟩ := h
  exact ⟨a, b, c, e, h.below hb⟩
theorem RtIs.keep {A B : World} {v : Value} {t : RT} (h : RtIs A v t) (h1 : KeepT 49 A B) (h2 : KeepT 9 A B) : RtIs B v t := by
  obtain ⟨a, b, c, e, h3, h4, h5⟩ := h
  exact ⟨a, b, c, e, h3.keep h1, h4.keep h2, h5.keep h2⟩

def RtC (W : World) (g : Nat) (n : Int) (a b c : Sl) (d : Bool) : Prop := W.heap[g]? = some (.cells #[.int .i64 n, slV a, slV b, slV c, .bool d] 40 (0, 0))
section
variable {W : World} {g : Nat} {n : Int} {a b c : Sl} {d : Bool}
theorem RtC.cells (h : RtC W g n a b c d) : W.cell? ⟨g, 0, none⟩ = some (.int .i64 n) ∧ W.cell? ⟨g, 1, none⟩ = some (slV a) ∧ W.cell? ⟨g, 2, none⟩ = some (slV b) ∧ W.cell? ⟨g, 3, none⟩ = some (slV c) ∧ W.cell? ⟨g, 4, none⟩ = some (.bool d) ∧
    W.frozen? ⟨g, 0, none⟩ = false ∧ W.frozen? ⟨g, 1, none⟩ = false ∧ W.frozen? ⟨g, 2, none⟩ = false ∧ W.frozen? ⟨g, 3, none⟩ = false ∧ W.frozen? ⟨g, 4, none⟩ = false := by
  unfold RtC at h
  simp [World.cell?, World.frozen?, h]
theorem RtC.all (h : RtC W g n a b c d) (n' : Int) (a' b' c' : Sl) (d' : Bool) : RtC (((((W.setCell ⟨g, 0, none⟩ (.int .i64 n')).setCell ⟨g, 1, none⟩ (slV a')).setCell ⟨g, 2, none⟩ (slV b')).setCell ⟨g, 3, none⟩ (slV c')).setCell ⟨g, 4, none⟩ (.bool d')) g n' a' b' c' d' := by
  unfold RtC at h ⊢
  rw [heap_set0 _ (heap_set0 _ (heap_set0 _ (heap_set0 _ (heap_set0 _ h))))]; rfl
theorem RtC.read (h : RtC W g n a b c d) (b' : Sl) : RtC (W.setCell ⟨g, 2, none⟩ (slV b')) g n a b' c d := by
  unfold RtC at h ⊢
  rw [heap_set0 _ h]; rfl
theorem RtC.changed (h : RtC W g n a b c d) (c' : Sl) : RtC (W.setCell ⟨g, 3, none⟩ (slV c')) g n a b c' d := by
  unfold RtC at h ⊢
  rw [heap_set0 _ h]; rfl
theorem RtC.sees (h : RtC W g n a b c d) (a' : Sl) : RtC (W.setCell ⟨g, 1, none⟩ (slV a')) g n a' b c d := by
  unfold RtC at h ⊢
  rw [heap_set0 _ h]; rfl
end
theorem encT_one (y : ByteArray) : ∀ u ∈ encT y, u.oneCell' = true := by
  intro u hu
  simp only [encT, List.mem_singleton] at hu
  subst hu; rfl
/-- A store into a block of another type. -/
theorem rt_keep5 {W : World} {g : Nat} {n : Int} {a b c : Sl} {d : Bool} {t : TypeId} (h : RtC W g n a b c d) (ht : 40 ≠ t) (n' : Int) (a' b' c' : Sl) (d' : Bool) :
    KeepT t W (((((W.setCell ⟨g, 0, none⟩ (.int .i64 n')).setCell ⟨g, 1, none⟩ (slV a')).setCell ⟨g, 2, none⟩ (slV b')).setCell ⟨g, 3, none⟩ (slV c')).setCell ⟨g, 4, none⟩ (.bool d')) := by
  unfold RtC at h
  have e1 := heap_set0 (i := 0) (.int .i64 n') h
  have e2 := heap_set0 (i := 1) (slV a') e1
  have e3 := heap_set0 (i := 2) (slV b') e2
  have e4 := heap_set0 (i := 3) (slV c') e3
  exact ((((KeepT.setCell (a := ⟨g, 0, none⟩) h ht).trans (KeepT.setCell (a := ⟨g, 1, none⟩) e1 ht)).trans (KeepT.setCell (a := ⟨g, 2, none⟩) e2 ht)).trans (KeepT.setCell (a := ⟨g, 3, none⟩) e3 ht)).trans (KeepT.setCell (a := ⟨g, 4, none⟩) e4 ht)
def readRT (t : RT) (s : ByteArray) : RT := if inR s t.changed then t else { t with read := t.read ++ [s] }
/-- The reference's Get. -/
def getRT (t : RT) (s : ByteArray) : RT × Int × Int :=
  if t.done then (t, 0, 7) else if okName s then (match findR s t.sees with | some p => (readRT t s, p.2, 0) | none => (readRT t s, 0, 5)) else (t, 0, 13)
def sl0 : Sl := (none, 0, 0)
theorem elemT' : Elem Try.prog 38 9 1 16 := elemT
set_option maxRecDepth 100000 in
set_option maxHeartbeats 4000000 in
theorem refGet_any (s : ByteArray) (hs : s.size ≤ 9223372036854775807) {W : World} {v : Value} {t : RT} (h : RtIs W v t) (h1 : t.sees.length ≤ 100000) (h2 : t.read.length ≤ 100000) (h3 : t.changed.length ≤ 100000) :
    Calls Try.prog 36 #[v, .string s] W fun e w' => ∃ v', e = .returned (.tuple #[v', .int .i64 (getRT t s).2.1, .int .i64 (getRT t s).2.2]) ∧ RtIs w' v' (getRT t s).1 ∧ Below W.heap.size W w' := by
  obtain ⟨a, b, c, rfl, hA⟩ := h
  obtain ⟨n, T, R, C, d⟩ := t
  dsimp only at *
  obtain ⟨G, hG⟩ : ∃ G, getRT ⟨n, T, R, C, d⟩ s = G := ⟨_, rfl⟩
  have HG := Lib.hid hG
  rw [hG]
  clear hG
  obtain ⟨W1, hW1⟩ : ∃ w, (W.alloc (.cells #[.int .i64 n, slV a, slV b, slV c, .bool d] 40)).alloc (.cells #[.int .i64 0, slV sl0, slV sl0, slV sl0, .bool false] 40) = w := ⟨_, rfl⟩
  have hb1 : Below W.heap.size W W1 := by rw [← hW1]; exact ((Below.refl _ W).alloc (Nat.le_refl _) _).alloc (by simp) _
  have k1 : RtC W1 W.heap.size n a b c d := by rw [← hW1]; exact (Below.heap_alloc _ _ _ (by simp)).trans (heap_new _ _)
  have k2 : RtC W1 (W.heap.size + 1) 0 sl0 sl0 sl0 false := by rw [← hW1]; exact heap_new1 _ _ _
  have HB1 := Lib.hid hb1; have K1 := Lib.hid k1; have K2 := Lib.hid k2; have HA1 := Lib.hid (hA.below hb1)
  obtain ⟨p0, p1, p2, p3, p4, q0, q1, q2, q3, q4⟩ := k1.cells
  obtain ⟨x0, x1, x2, x3, x4, y0, y1, y2, y3, y4⟩ := k2.cells
  unfold rtV
  obtain ⟨a0, an, ac⟩ := a
  obtain ⟨b0, bn, bc⟩ := b
  obtain ⟨c0, cn, cc⟩ := c
  simp only [slV, sl0] at *
  have HFV := Lib.hid (refValid_any W1 s hs)
  cases d with
  | true =>
    have HE : Hid (G = (⟨n, T, R, C, true⟩, 0, 7)) := Lib.hid (by rw [← HG.out]; rfl)
    clear k1 k2 hA hb1
    obtain ⟨W9, hW9⟩ : ∃ w, ((((W1.setCell ⟨W.heap.size + 1, 0, none⟩ (.int .i64 n)).setCell ⟨W.heap.size + 1, 1, none⟩ (.slice a0 an ac)).setCell ⟨W.heap.size + 1, 2, none⟩ (.slice b0 bn bc)).setCell ⟨W.heap.size + 1, 3, none⟩ (.slice c0 cn cc)).setCell ⟨W.heap.size + 1, 4, none⟩ (.bool true) = w := ⟨_, rfl⟩
    have k9 : RtC W9 (W.heap.size + 1) n (a0, an, ac) (b0, bn, bc) (c0, cn, cc) true := by rw [← hW9]; exact K2.out.all n (a0, an, ac) (b0, bn, bc) (c0, cn, cc) true
    obtain ⟨r0, r1, r2, r3, r4, -⟩ := k9.cells
    have hB9 : Below W1.heap.size W1 W9 ∨ True := .inr trivial
    have HB9 : Hid (Below W.heap.size W W9) := Lib.hid (by rw [← hW9]; exact (((((HB1.out.setCell (p := ⟨W.heap.size + 1, 0, none⟩) (by simp) _).setCell (p := ⟨W.heap.size + 1, 1, none⟩) (by simp) _).setCell (p := ⟨W.heap.size + 1, 2, none⟩) (by simp) _).setCell (p := ⟨W.heap.size + 1, 3, none⟩) (by simp) _).setCell (p := ⟨W.heap.size + 1, 4, none⟩) (by simp) _))
    have HA9 : Hid (RtAt W9 (a0, an, ac) (b0, bn, bc) (c0, cn, cc) ((⟨n, T, R, C, true⟩ : RT), 0, 7).1) := Lib.hid (by
      rw [← hW9]
      have hk := fun t ht => rt_keep5 (t := t) K2.out ht n (a0, an, ac) (b0, bn, bc) (c0, cn, cc) true
      exact ⟨HA1.out.1.keep (hk _ (by decide)), HA1.out.2.1.keep (hk _ (by decide)), HA1.out.2.2.keep (hk _ (by decide))⟩)
    clear k9 hB9
    go_enter Try.func36, Try.ntmps36
    go_wp2_with fail
    exact bodyPost_ret (v := .tuple #[rtV n (a0, an, ac) (b0, bn, bc) (c0, cn, cc) true, .int .i64 0, .int .i64 7]) (by simp [results, Try.results36, go_sem, r0, r1, r2, r3, r4, rtV]) rfl ⟨_, by rw [HE.out], by rw [HE.out]; exact ⟨_, _, _, rfl, HA9.out⟩, HB9.out⟩
  | false =>
    by_cases hk : 1 ≤ s.size ∧ s.size ≤ 32
    · have hd : decide (1 ≤ s.size ∧ s.size ≤ 32) = true := decide_eq_true hk
      have HI1 := Lib.hid (refIn_any (l := C) s HA1.out.2.2 (by omega))
      have HIN0 : Hid True := Lib.hid trivial
      cases hin : inR s C with
      | true =>
        have HIN := Lib.hid hin
        rw [hin] at HI1
        clear k1 k2 hA hb1 hin p0 p1 p2 p3 p4 x0 x1 x2 x3 x4 y0 y1 y2 y3 y4
        obtain ⟨p0, p1, p2, p3, p4, -⟩ := K1.out.cells
        go_enter Try.func36, Try.ntmps36
        go_wp2_with fail
        refine HFV.out.mono ?_; rintro e w ⟨rfl, h⟩; rw [h, hd]; clear h w hd
        go_wp2_with fail
        refine HI1.out.mono ?_; rintro e w ⟨rfl, h⟩; rw [h]; clear h w
        clear p0 p1 p2 p3 p4
        obtain ⟨p0, p1, p2, p3, p4, -⟩ := K1.out.cells
        obtain ⟨x0, x1, x2, x3, x4, y0, y1, y2, y3, y4⟩ := K2.out.cells
        have HF1 := Lib.hid (refFind_any (l := T) s HA1.out.1 (by omega))
        cases hf : findR s T with
        | none =>
          have HE : Hid (G = (⟨n, T, R, C, false⟩, 0, 5)) := Lib.hid (by rw [← HG.out]; simp [getRT, readRT, okName, hk, HIN.out, hf])
          rw [hf] at HF1
          obtain ⟨W9, hW9⟩ : ∃ w, ((((W1.setCell ⟨W.heap.size + 1, 0, none⟩ (.int .i64 n)).setCell ⟨W.heap.size + 1, 1, none⟩ (.slice a0 an ac)).setCell ⟨W.heap.size + 1, 2, none⟩ (.slice b0 bn bc)).setCell ⟨W.heap.size + 1, 3, none⟩ (.slice c0 cn cc)).setCell ⟨W.heap.size + 1, 4, none⟩ (.bool false) = w := ⟨_, rfl⟩
          have k9 : RtC W9 (W.heap.size + 1) n (a0, an, ac) (b0, bn, bc) (c0, cn, cc) false := by rw [← hW9]; exact K2.out.all n (a0, an, ac) (b0, bn, bc) (c0, cn, cc) false
          obtain ⟨r0, r1, r2, r3, r4, -⟩ := k9.cells
          have hB9 : Below W1.heap.size W1 W9 ∨ True := .inr trivial
          have HB9 : Hid (Below W.heap.size W W9) := Lib.hid (by rw [← hW9]; exact (((((HB1.out.setCell (p := ⟨W.heap.size + 1, 0, none⟩) (by simp) _).setCell (p := ⟨W.heap.size + 1, 1, none⟩) (by simp) _).setCell (p := ⟨W.heap.size + 1, 2, none⟩) (by simp) _).setCell (p := ⟨W.heap.size + 1, 3, none⟩) (by simp) _).setCell (p := ⟨W.heap.size + 1, 4, none⟩) (by simp) _))
          have HA9 : Hid (RtAt W9 (a0, an, ac) (b0, bn, bc) (c0, cn, cc) ((⟨n, T, R, C, false⟩ : RT), 0, 5).1) := Lib.hid (by
            rw [← hW9]
            have hk := fun t ht => rt_keep5 (t := t) K2.out ht n (a0, an, ac) (b0, bn, bc) (c0, cn, cc) false
            exact ⟨HA1.out.1.keep (hk _ (by decide)), HA1.out.2.1.keep (hk _ (by decide)), HA1.out.2.2.keep (hk _ (by decide))⟩)
          clear k9 hB9
          go_wp2_with fail
          refine HF1.out.mono ?_; rintro e w ⟨rfl, h⟩; rw [h]; clear h w
          simp only [findV]
          go_wp2_with fail
          exact bodyPost_ret (v := .tuple #[rtV n (a0, an, ac) (b0, bn, bc) (c0, cn, cc) false, .int .i64 0, .int .i64 5]) (by simp [results, Try.results36, go_sem, r0, r1, r2, r3, r4, rtV]) rfl ⟨_, by rw [HE.out], by rw [HE.out]; exact ⟨_, _, _, rfl, HA9.out⟩, HB9.out⟩
        | some p =>
          have HE : Hid (G = (⟨n, T, R, C, false⟩, p.2, 0)) := Lib.hid (by rw [← HG.out]; simp [getRT, readRT, okName, hk, HIN.out, hf])
          rw [hf] at HF1
          obtain ⟨W9, hW9⟩ : ∃ w, ((((W1.setCell ⟨W.heap.size + 1, 0, none⟩ (.int .i64 n)).setCell ⟨W.heap.size + 1, 1, none⟩ (.slice a0 an ac)).setCell ⟨W.heap.size + 1, 2, none⟩ (.slice b0 bn bc)).setCell ⟨W.heap.size + 1, 3, none⟩ (.slice c0 cn cc)).setCell ⟨W.heap.size + 1, 4, none⟩ (.bool false) = w := ⟨_, rfl⟩
          have k9 : RtC W9 (W.heap.size + 1) n (a0, an, ac) (b0, bn, bc) (c0, cn, cc) false := by rw [← hW9]; exact K2.out.all n (a0, an, ac) (b0, bn, bc) (c0, cn, cc) false
          obtain ⟨r0, r1, r2, r3, r4, -⟩ := k9.cells
          have hB9 : Below W1.heap.size W1 W9 ∨ True := .inr trivial
          have HB9 : Hid (Below W.heap.size W W9) := Lib.hid (by rw [← hW9]; exact (((((HB1.out.setCell (p := ⟨W.heap.size + 1, 0, none⟩) (by simp) _).setCell (p := ⟨W.heap.size + 1, 1, none⟩) (by simp) _).setCell (p := ⟨W.heap.size + 1, 2, none⟩) (by simp) _).setCell (p := ⟨W.heap.size + 1, 3, none⟩) (by simp) _).setCell (p := ⟨W.heap.size + 1, 4, none⟩) (by simp) _))
          have HA9 : Hid (RtAt W9 (a0, an, ac) (b0, bn, bc) (c0, cn, cc) ((⟨n, T, R, C, false⟩ : RT), p.2, 0).1) := Lib.hid (by
            rw [← hW9]
            have hk := fun t ht => rt_keep5 (t := t) K2.out ht n (a0, an, ac) (b0, bn, bc) (c0, cn, cc) false
            exact ⟨HA1.out.1.keep (hk _ (by decide)), HA1.out.2.1.keep (hk _ (by decide)), HA1.out.2.2.keep (hk _ (by decide))⟩)
          clear k9 hB9
          go_wp2_with fail
          refine HF1.out.mono ?_; rintro e w ⟨rfl, h⟩; rw [h]; clear h w
          simp only [findV]
          go_wp2_with fail
          exact bodyPost_ret (v := .tuple #[rtV n (a0, an, ac) (b0, bn, bc) (c0, cn, cc) false, .int .i64 p.2, .int .i64 0]) (by simp [results, Try.results36, go_sem, r0, r1, r2, r3, r4, rtV]) rfl ⟨_, by rw [HE.out], by rw [HE.out]; exact ⟨_, _, _, rfl, HA9.out⟩, HB9.out⟩
      | false =>
        have HIN := Lib.hid hin; have HA0 := Lib.hid hA
        rw [hin] at HI1
        obtain ⟨wa, hwa⟩ : ∃ w, W1.alloc (.cells #[] 9) = w := ⟨_, rfl⟩
        have hba : Below W1.heap.size W1 wa := by rw [← hwa]; exact (Below.refl _ _).alloc (Nat.le_refl _) _
        have hSa : Sts W1.heap.size wa (.slice (some ⟨W1.heap.size, 0, none⟩) 0 0) [] := by rw [← hwa]; exact SlA.lit (l := []) encT_len rfl (by simp)
        have HSA := Lib.hid hSa; have HBA := Lib.hid (Below.step HB1.out hba); have HAA := Lib.hid (RtAt.below (t := ⟨n, T, R, C, false⟩) HA1.out hba)
        have HKA := Lib.hid (show RtC wa W.heap.size n (a0, an, ac) (b0, bn, bc) (c0, cn, cc) false from box_below hba K1.out); have HKB := Lib.hid (show RtC wa (W.heap.size + 1) 0 (none, 0, 0) (none, 0, 0) (none, 0, 0) false from box_below hba K2.out)
        have HZ := Lib.hid (show W1.heap.size ≤ wa.heap.size from hba.size)
        have HZ1 := Lib.hid (show W.heap.size + 1 < W1.heap.size from (Array.getElem?_eq_some_iff.1 K2.out).1)
        clear k1 k2 hA hb1 hin hba hSa
        obtain ⟨-, -, m2, -⟩ := HKA.out.cells
        clear q0 q1 q2 q3 q4 x0 x1 x2 x3 x4 y0 y1 y2 y3 y4
        go_enter Try.func36, Try.ntmps36
        go_wp2_with fail
        refine HFV.out.mono ?_; rintro e w ⟨rfl, h⟩; rw [h, hd]; clear h w hd
        go_wp2_with fail
        refine HI1.out.mono ?_; rintro e w ⟨rfl, h⟩; rw [h]; clear h w
        go_wp2_with (first
          | (at_builtin
             refine wp_cat (l2 := R) elemT encT_len rfl _ _ rfl rfl HSA.out rfl HAA.out.2.1 encT_one (by have := h2; simp; omega) HZ.out ?_
             intro v1 w1 hS1 hg1 hb1
             rw [List.nil_append] at hS1
             obtain ⟨va, vc, rfl⟩ := hS1.len
             have HS1 := Lib.hid hS1; have HB1' := Lib.hid hb1
             have HZ2 := Lib.hid (Nat.le_trans HZ.out hb1.size)
             clear hS1 hg1 hb1 m2)
          | (at_builtin
             refine wp_app1G (l := R) (w0 := w1) elemT encT_len rfl _ _ rfl rfl HS1.out s rfl rfl (encT_one s) (by have := h2; omega) HZ2.out ?_
             intro v2 w2 hS2 hg2 hb2
             obtain ⟨vb, vd, rfl⟩ := hS2.len
             rw [List.length_append, List.length_singleton] at hS2 ⊢
             have hb3 : Below W1.heap.size wa w2 := HB1'.out.trans hb2
             have HB2 := Lib.hid (HBA.out.trans (hb3.mono HB1.out.size))
             have k1 : RtC w2 W.heap.size n (a0, an, ac) (b0, bn, bc) (c0, cn, cc) false := (hb3.block _ (by have := HZ1.out; omega)).trans HKA.out
             have k2 : RtC w2 (W.heap.size + 1) 0 (none, 0, 0) (none, 0, 0) (none, 0, 0) false := (hb3.block _ HZ1.out).trans HKB.out
             obtain ⟨w3, hw3⟩ : ∃ w, w2.setCell ⟨W.heap.size, 2, none⟩ (.slice vb (R.length + 1) vd) = w := ⟨_, rfl⟩
             have hk3 := fun t ht => KeepT.setCell (nt := t) (a := ⟨W.heap.size, 2, none⟩) (v := .slice vb (R.length + 1) vd) k1 ht
             rw [hw3] at hk3
             have KX1 : Hid (RtC w3 W.heap.size n (a0, an, ac) (vb, R.length + 1, vd) (c0, cn, cc) false) := Lib.hid (by rw [← hw3]; exact k1.read (vb, R.length + 1, vd))
             have KX2 : Hid (RtC w3 (W.heap.size + 1) 0 (none, 0, 0) (none, 0, 0) (none, 0, 0) false) := Lib.hid (by rw [← hw3]; exact (Below.heap_setCell _ _ _ _ (by simp)).trans k2)
             have HBX : Hid (Below W.heap.size W w3) := Lib.hid (by rw [← hw3]; exact HB2.out.setCell (p := ⟨W.heap.size, 2, none⟩) (Nat.le_refl _) _)
             have hA2 := RtAt.below HA0.out HB2.out
             have HAX : Hid (RtAt w3 (a0, an, ac) (vb, R.length + 1, vd) (c0, cn, cc) (⟨n, T, R ++ [s], C, false⟩ : RT)) := Lib.hid ⟨hA2.1.keep (hk3 _ (by decide)), (hS2.mono (Nat.zero_le _)).keep (hk3 _ (by decide)), hA2.2.2.keep (hk3 _ (by decide))⟩
             obtain ⟨-, -, m2, -, -, -, -, f2, -⟩ := k1.cells
             obtain ⟨-, l1, -⟩ := KX1.out.cells
             clear hS2 hg2 hb2 hb3 k1 k2 hk3 hA2))
        clear m2 f2 hw3 l1 p0 p1 p2 p3 p4 hwa
        obtain ⟨p0, p1, p2, p3, p4, -⟩ := KX1.out.cells
        obtain ⟨x0, x1, x2, x3, x4, y0, y1, y2, y3, y4⟩ := KX2.out.cells
        have HF1 := Lib.hid (refFind_any (l := T) s HAX.out.1 (by omega))
        cases hf : findR s T with
        | none =>
          have HE : Hid (G = (⟨n, T, (R ++ [s]), C, false⟩, 0, 5)) := Lib.hid (by rw [← HG.out]; simp [getRT, readRT, okName, hk, HIN.out, hf])
          rw [hf] at HF1
          obtain ⟨W9, hW9⟩ : ∃ w, ((((w3.setCell ⟨W.heap.size + 1, 0, none⟩ (.int .i64 n)).setCell ⟨W.heap.size + 1, 1, none⟩ (.slice a0 an ac)).setCell ⟨W.heap.size + 1, 2, none⟩ (.slice vb (R.length+1) vd)).setCell ⟨W.heap.size + 1, 3, none⟩ (.slice c0 cn cc)).setCell ⟨W.heap.size + 1, 4, none⟩ (.bool false) = w := ⟨_, rfl⟩
          have k9 : RtC W9 (W.heap.size + 1) n (a0, an, ac) (vb, (R.length+1), vd) (c0, cn, cc) false := by rw [← hW9]; exact KX2.out.all n (a0, an, ac) (vb, (R.length+1), vd) (c0, cn, cc) false
          obtain ⟨r0, r1, r2, r3, r4, -⟩ := k9.cells
          have hB9 : Below w3.heap.size w3 W9 ∨ True := .inr trivial
          have HB9 : Hid (Below W.heap.size W W9) := Lib.hid (by rw [← hW9]; exact (((((HBX.out.setCell (p := ⟨W.heap.size + 1, 0, none⟩) (by simp) _).setCell (p := ⟨W.heap.size + 1, 1, none⟩) (by simp) _).setCell (p := ⟨W.heap.size + 1, 2, none⟩) (by simp) _).setCell (p := ⟨W.heap.size + 1, 3, none⟩) (by simp) _).setCell (p := ⟨W.heap.size + 1, 4, none⟩) (by simp) _))
          have HA9 : Hid (RtAt W9 (a0, an, ac) (vb, (R.length+1), vd) (c0, cn, cc) ((⟨n, T, (R ++ [s]), C, false⟩ : RT), 0, 5).1) := Lib.hid (by
            rw [← hW9]
            have hk := fun t ht => rt_keep5 (t := t) KX2.out ht n (a0, an, ac) (vb, (R.length+1), vd) (c0, cn, cc) false
            exact ⟨HAX.out.1.keep (hk _ (by decide)), HAX.out.2.1.keep (hk _ (by decide)), HAX.out.2.2.keep (hk _ (by decide))⟩)
          clear k9 hB9
          refine HF1.out.mono ?_; rintro e w ⟨rfl, h⟩; rw [h]; clear h w
          simp only [findV]
          go_wp2_with fail
          exact bodyPost_ret (v := .tuple #[rtV n (a0, an, ac) (vb, (R.length+1), vd) (c0, cn, cc) false, .int .i64 0, .int .i64 5]) (by simp [results, Try.results36, go_sem, r0, r1, r2, r3, r4, rtV]) rfl ⟨_, by rw [HE.out], by rw [HE.out]; exact ⟨_, _, _, rfl, HA9.out⟩, HB9.out⟩
        | some p =>
          have HE : Hid (G = (⟨n, T, (R ++ [s]), C, false⟩, p.2, 0)) := Lib.hid (by rw [← HG.out]; simp [getRT, readRT, okName, hk, HIN.out, hf])
          rw [hf] at HF1
          obtain ⟨W9, hW9⟩ : ∃ w, ((((w3.setCell ⟨W.heap.size + 1, 0, none⟩ (.int .i64 n)).setCell ⟨W.heap.size + 1, 1, none⟩ (.slice a0 an ac)).setCell ⟨W.heap.size + 1, 2, none⟩ (.slice vb (R.length+1) vd)).setCell ⟨W.heap.size + 1, 3, none⟩ (.slice c0 cn cc)).setCell ⟨W.heap.size + 1, 4, none⟩ (.bool false) = w := ⟨_, rfl⟩
          have k9 : RtC W9 (W.heap.size + 1) n (a0, an, ac) (vb, (R.length+1), vd) (c0, cn, cc) false := by rw [← hW9]; exact KX2.out.all n (a0, an, ac) (vb, (R.length+1), vd) (c0, cn, cc) false
          obtain ⟨r0, r1, r2, r3, r4, -⟩ := k9.cells
          have hB9 : Below w3.heap.size w3 W9 ∨ True := .inr trivial
          have HB9 : Hid (Below W.heap.size W W9) := Lib.hid (by rw [← hW9]; exact (((((HBX.out.setCell (p := ⟨W.heap.size + 1, 0, none⟩) (by simp) _).setCell (p := ⟨W.heap.size + 1, 1, none⟩) (by simp) _).setCell (p := ⟨W.heap.size + 1, 2, none⟩) (by simp) _).setCell (p := ⟨W.heap.size + 1, 3, none⟩) (by simp) _).setCell (p := ⟨W.heap.size + 1, 4, none⟩) (by simp) _))
          have HA9 : Hid (RtAt W9 (a0, an, ac) (vb, (R.length+1), vd) (c0, cn, cc) ((⟨n, T, (R ++ [s]), C, false⟩ : RT), p.2, 0).1) := Lib.hid (by
            rw [← hW9]
            have hk := fun t ht => rt_keep5 (t := t) KX2.out ht n (a0, an, ac) (vb, (R.length+1), vd) (c0, cn, cc) false
            exact ⟨HAX.out.1.keep (hk _ (by decide)), HAX.out.2.1.keep (hk _ (by decide)), HAX.out.2.2.keep (hk _ (by decide))⟩)
          clear k9 hB9
          refine HF1.out.mono ?_; rintro e w ⟨rfl, h⟩; rw [h]; clear h w
          simp only [findV]
          go_wp2_with fail
          exact bodyPost_ret (v := .tuple #[rtV n (a0, an, ac) (vb, (R.length+1), vd) (c0, cn, cc) false, .int .i64 p.2, .int .i64 0]) (by simp [results, Try.results36, go_sem, r0, r1, r2, r3, r4, rtV]) rfl ⟨_, by rw [HE.out], by rw [HE.out]; exact ⟨_, _, _, rfl, HA9.out⟩, HB9.out⟩
    · have hd : decide (1 ≤ s.size ∧ s.size ≤ 32) = false := decide_eq_false hk
      have HE : Hid (G = (⟨n, T, R, C, false⟩, 0, 13)) := Lib.hid (by rw [← HG.out]; simp [getRT, okName, hk])
      clear k1 k2 hA hb1
      obtain ⟨W9, hW9⟩ : ∃ w, ((((W1.setCell ⟨W.heap.size + 1, 0, none⟩ (.int .i64 n)).setCell ⟨W.heap.size + 1, 1, none⟩ (.slice a0 an ac)).setCell ⟨W.heap.size + 1, 2, none⟩ (.slice b0 bn bc)).setCell ⟨W.heap.size + 1, 3, none⟩ (.slice c0 cn cc)).setCell ⟨W.heap.size + 1, 4, none⟩ (.bool false) = w := ⟨_, rfl⟩
      have k9 : RtC W9 (W.heap.size + 1) n (a0, an, ac) (b0, bn, bc) (c0, cn, cc) false := by rw [← hW9]; exact K2.out.all n (a0, an, ac) (b0, bn, bc) (c0, cn, cc) false
      obtain ⟨r0, r1, r2, r3, r4, -⟩ := k9.cells
      have hB9 : Below W1.heap.size W1 W9 ∨ True := .inr trivial
      have HB9 : Hid (Below W.heap.size W W9) := Lib.hid (by rw [← hW9]; exact (((((HB1.out.setCell (p := ⟨W.heap.size + 1, 0, none⟩) (by simp) _).setCell (p := ⟨W.heap.size + 1, 1, none⟩) (by simp) _).setCell (p := ⟨W.heap.size + 1, 2, none⟩) (by simp) _).setCell (p := ⟨W.heap.size + 1, 3, none⟩) (by simp) _).setCell (p := ⟨W.heap.size + 1, 4, none⟩) (by simp) _))
      have HA9 : Hid (RtAt W9 (a0, an, ac) (b0, bn, bc) (c0, cn, cc) ((⟨n, T, R, C, false⟩ : RT), 0, 13).1) := Lib.hid (by
        rw [← hW9]
        have hk := fun t ht => rt_keep5 (t := t) K2.out ht n (a0, an, ac) (b0, bn, bc) (c0, cn, cc) false
        exact ⟨HA1.out.1.keep (hk _ (by decide)), HA1.out.2.1.keep (hk _ (by decide)), HA1.out.2.2.keep (hk _ (by decide))⟩)
      clear k9 hB9
      go_enter Try.func36, Try.ntmps36
      go_wp2_with fail
      refine HFV.out.mono ?_; rintro e w ⟨rfl, h⟩; rw [h, hd]; clear h w hd
      go_wp2_with fail
      exact bodyPost_ret (v := .tuple #[rtV n (a0, an, ac) (b0, bn, bc) (c0, cn, cc) false, .int .i64 0, .int .i64 13]) (by simp [results, Try.results36, go_sem, r0, r1, r2, r3, r4, rtV]) rfl ⟨_, by rw [HE.out], by rw [HE.out]; exact ⟨_, _, _, rfl, HA9.out⟩, HB9.out⟩
end S
end Go.Proofs.Ytlfodhejpbjfcaa
