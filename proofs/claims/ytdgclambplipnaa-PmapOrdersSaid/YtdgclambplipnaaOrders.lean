/- PmapOrders: the walk. -/
import Derived.Test.YtdgclambplipnaaPlaysii
import Derived.Test.YtdgclambplipnaaAwake
import Derived.Test.YtdgclambplipnaaChanged
import Derived.Test.YtdgclambplipnaaOrdPlain
import Derived.Test.YtdgclambplipnaaNums
import Derived.Test.YtdgclambplipnaaDropii
import Derived.Test.YtdgclambplipnaaTail
import Derived.Test.YtdgclambplipnaaOwn
import Derived.Outline
namespace Go.Proofs.Ytdgclambplipnaa
open Go.RowKit
namespace ii
attribute [local go_sem] Oper.semAt_some

theorem MB.put {A : World} {B : Nat} {U : Tr Int Int} {q q0 : Option Addr} (h1 : A.heap[B]? = some (.cells #[.pointer q0] 26 (0, 0))) (hq : Is A q U) : MB (A.setCell ⟨B, 0, none⟩ (.pointer q)) B U :=
  ⟨q, box_set _ h1, hq.keep (KeepT.setCell (a := ⟨B, 0, none⟩) h1 (by decide))⟩
theorem MB.other {A : World} {B B' : Nat} {T : Tr Int Int} {q q' : Option Addr} (h : MB A B T) (hb : A.heap[B']? = some (.cells #[.pointer q'] 26 (0, 0))) (hne : B ≠ B') : MB (A.setCell ⟨B', 0, none⟩ (.pointer q)) B T := by
  obtain ⟨q0, h1, h2⟩ := h
  exact ⟨q0, (Below.heap_setCell _ _ _ _ hne).trans h1, h2.keep (KeepT.setCell (a := ⟨B', 0, none⟩) hb (by decide))⟩
/-- A map in its box, with its keys. -/
def KB (W : World) (B : Nat) (S : Int → Prop) (i : Nat) : Prop := ∃ T, MB W B T ∧ KS T.toList S ∧ T.sz ≤ i
theorem KB.below {A W : World} {B i : Nat} {S : Int → Prop} (h : KB A B S i) (hb : Below A.heap.size A W) : KB W B S i := by
  obtain ⟨T, h1, h2⟩ := h
  exact ⟨T, h1.below hb, h2⟩
theorem KB.other {A : World} {B B' i : Nat} {S : Int → Prop} {q q' : Option Addr} (h : KB A B S i) (hb : A.heap[B']? = some (.cells #[.pointer q'] 26 (0, 0))) (hne : B ≠ B') : KB (A.setCell ⟨B', 0, none⟩ (.pointer q)) B S i := by
  obtain ⟨T, h1, h2⟩ := h
  exact ⟨T, h1.other hb hne, h2⟩
theorem KS.putF {T : Tr Int Int} {S S' : Int → Prop} {k : Int} {i : Nat} (h : KS T.toList S) (hs : T.sz ≤ i) (e : ∀ x, (x = k ∨ S x) ↔ S' x) : KS (putF lt k (hf k) T).toList S' ∧ (putF lt k (hf k) T).sz ≤ (i + 1 : Nat) := by
  rw [putF_toList st k (hf k) T h.1]
  exact ⟨(h.put k).cong e, by have := putF_sz lt k (hf k) T; omega⟩
theorem half_in {x : Int} (h : -9223372036854775808 ≤ x ∧ x ≤ 9223372036854775807) : IntKind.i64.wrap (x.tdiv 2) = x.tdiv 2 := by
  have e : x.tdiv 2 = if 0 ≤ x then x / 2 else -((-x) / 2) := by
    by_cases h0 : 0 ≤ x
    · rw [if_pos h0, Int.tdiv_eq_ediv_of_nonneg h0]
    · rw [if_neg h0]
      have h1 := Int.neg_tdiv (a := -x) (b := 2)
      rw [Int.neg_neg] at h1
      rw [h1, Int.tdiv_eq_ediv_of_nonneg (by omega)]
  exact wrap_in (by rw [e]; split <;> omega) (by rw [e]; split <;> omega)

set_option maxRecDepth 100000 in
set_option maxHeartbeats 4000000 in
theorem orders_any {W : World} {v : Value} {L : List Int} (hL : RowAt (Value.int .i64) W v L) (hok : ∀ x ∈ L, -9223372036854775808 ≤ x ∧ x ≤ 9223372036854775807) (s k : Int) (hs0 : 0 ≤ s) (hs1 : s < 256) :
    Calls Try.prog 10 #[v, .int .u8 s, .int .i64 k] W fun e w' => e = .returned (.bool true) ∧ Below W.heap.size W w' := by
  have HF : ∀ f, Fence.wide.fn f := fun _ => trivial
  obtain ⟨a, cap, rfl, hc1, hc2, hcells⟩ := hL
  have HM := Lib.hid hcells; have HOK := Lib.hid hok
  clear hcells hok
  unfold maxLen at hc2
  by_cases hlen : 200 < L.length
  · have h1i : (200 : Int) < (L.length : Int) := by omega
    clear HM HOK
    go_enter Try.func10, Try.ntmps10
    go_wp2_with fail
    refine (awake_any W).mono ?_; rintro e w1 ⟨rfl, b1⟩
    have HB1 := Lib.hid b1; clear b1
    go_wp2_with fail
    refine (awake_any w1).mono ?_; rintro e w2 ⟨rfl, b2⟩
    have HB2 := Lib.hid (Below.step HB1.out b2); clear b2
    go_wp2_with fail
    go_ret
    exact ⟨rfl, HB2.out⟩
  · have h1i : ¬ (200 : Int) < (L.length : Int) := by omega
    have h1d : decide ((200 : Int) < (L.length : Int)) = false := decide_eq_false h1i
    have hl : L.length ≤ 200 := by omega
    clear hlen
    obtain ⟨S, rfl⟩ : ∃ S : Nat, s = (S : Int) := ⟨s.toNat, by omega⟩
    go_enter Try.func10, Try.ntmps10
    go_wp2_with fail
    refine (awake_any W).mono ?_; rintro e w1 ⟨rfl, b1⟩
    have HB1 := Lib.hid b1; clear b1
    obtain ⟨w2, hw2⟩ : ∃ w2, (w1.alloc (.cells #[.pointer none] 26)).alloc (.cells #[.pointer none] 26) = w2 := ⟨_, rfl⟩
    have nil_kb : ∀ (B : Nat) (S : Int → Prop), (∀ k, False ↔ S k) → w2.heap[B]? = some (.cells #[.pointer none] 26 (0, 0)) → KB w2 B S 0 := fun B S e h => ⟨.nil, ⟨none, h, rfl⟩, by simp only [Tr.toList]; exact KS.nil.cong e, by simp [Tr.sz]⟩
    have HKA : Hid (KB w2 w1.heap.size (SA L 0) 0) := Lib.hid (nil_kb _ _ (SA_zero L) (by rw [← hw2]; exact (Below.heap_alloc _ _ _ (by simp)).trans (heap_new _ _)))
    have HKB : Hid (KB w2 (w1.heap.size + 1) (SB L S 0) 0) := Lib.hid (nil_kb _ _ (SB_zero L S) (by rw [← hw2]; have := heap_new (w1.alloc (.cells #[.pointer none] 26)) (.cells #[.pointer none] 26); rwa [World.size_alloc] at this))
    have hb2' : Below w1.heap.size w1 w2 := by rw [← hw2]; exact ((Below.refl _ w1).alloc (Nat.le_refl _) _).alloc (by simp) _
    have HB2 := Lib.hid (Below.step HB1.out hb2')
    have HG := Lib.hid HB1.out.size
    clear nil_kb hb2' h1i h1d
    go_wp2_with fail
    clear hw2
    generalize w1.heap.size = g at *
    go_loopw [27] (fun c wr => ∃ j : Nat, j ≤ L.length ∧ c = .int .i64 j ∧ KB wr g (SA L j) j ∧ KB wr (g + 1) (SB L S j) j ∧ Below W.heap.size W wr) (fun c _ => L.length - (intOf c).toNat)
    case atStart => exact ⟨0, by omega, rfl, HKA.out, HKB.out, HB2.out⟩
    case round =>
      obtain ⟨j, hj, rfl, hA, hB, hW⟩ := hrel
      have HA := Lib.hid hA; have HB := Lib.hid hB; have HW := Lib.hid hW
      clear hA hB hW HKA HKB HB2
      by_cases hlt : j < L.length
      · have hl3 : (j : Int) < (L.length : Int) := by omega
        have hl4 : (0 : Int) ≤ (j : Int) := by omega
        obtain ⟨b, rfl, d0⟩ := HM.out j hlt
        have hx := HOK.out _ (List.getElem_mem hlt)
        have hes := SA_succ L hlt
        generalize L[j] = x at *
        have hw1 := half_in hx
        obtain ⟨TA, ⟨qa, ha1, ha2⟩, hka, hsa⟩ := HA.out
        have k1 : ∀ w, Below wr.heap.size wr w → w.cell? (b.add j) = some (.int .i64 x) := fun w h => cell_below d0 (HW.out.trans (h.mono HW.out.size))
        have k2 : ∀ w, Below wr.heap.size wr w → w.cell? ⟨g, 0, none⟩ = some (.pointer qa) := fun w h => box_cell (box_below h ha1)
        have B0 : Below wr.heap.size wr wr.drew := (Below.refl _ _).drew
        have HTA := Lib.hid (ha2.below B0); have HKA := Lib.hid hka; have HES := Lib.hid hes; have HBX := Lib.hid ha1
        clear d0 hes ha1 ha2 hka hx
        go_wp2_with fail
        refine wp_region_anyNP (Below wr.heap.size wr) (by kernel_rfl) ?_
        refine AnyH.take (i := 0) (d := some 30) (v := ?_) (by kernel_rfl) rfl rfl HF (fun _ _ _ h => h) (.inl ⟨by rfl, ?_⟩) (by first | assumption | rfl) ?_
        rotate_left
        · intro w hS; try subst hS
          go_simp; try with_reducible rfl
        try simp only [Act.put, List.setIfInBounds_toArray, List.set_cons_zero, List.set_cons_succ]
        refine AnyH.take (i := 1) (d := some 31) (v := ?_) (by kernel_rfl) rfl rfl HF (fun _ _ _ h => h) (.inl ⟨by rfl, ?_⟩) (by first | assumption | rfl) ?_
        rotate_left
        · intro w hS; try subst hS
          go_simp; try with_reducible rfl
        try simp only [Act.put, List.setIfInBounds_toArray, List.set_cons_zero, List.set_cons_succ]
        refine AnyH.take (i := 2) (d := some 32) (v := ?_) (by kernel_rfl) rfl rfl HF (fun _ _ _ h => h) (.inl ⟨by rfl, ?_⟩) (by first | assumption | rfl) ?_
        rotate_left
        · intro w hS; try subst hS
          go_simp; try with_reducible rfl
        try simp only [Act.put, List.setIfInBounds_toArray, List.set_cons_zero, List.set_cons_succ]
        refine AnyH.take (i := 3) (d := some 33) (v := ?_) (by kernel_rfl) rfl rfl HF (fun _ _ _ h => h) (.inl ⟨by rfl, ?_⟩) (by first | assumption | rfl) ?_
        rotate_left
        · intro w hS; try subst hS
          go_simp; try with_reducible rfl
        try simp only [Act.put, List.setIfInBounds_toArray, List.set_cons_zero, List.set_cons_succ]
        refine AnyH.take (i := 4) (d := some 34) (v := ?_) (by kernel_rfl) rfl rfl HF (fun _ _ _ h => h) (.inl ⟨by rfl, ?_⟩) (by first | assumption | rfl) ?_
        rotate_left
        · intro w hS; try subst hS
          go_simp; try with_reducible rfl
        try simp only [Act.put, List.setIfInBounds_toArray, List.set_cons_zero, List.set_cons_succ]
        refine AnyH.take (i := 5) (d := some 35) (v := ?_) (by kernel_rfl) rfl rfl HF (fun _ _ _ h => h) (.inl ⟨by rfl, ?_⟩) (by first | assumption | rfl) ?_
        rotate_left
        · intro w hS; try subst hS
          go_simp; try with_reducible rfl
        try simp only [Act.put, List.setIfInBounds_toArray, List.set_cons_zero, List.set_cons_succ]
        refine AnyH.take (i := 6) (d := some 36) (v := ?_) (by kernel_rfl) rfl rfl HF (fun _ _ _ h => h) (.inl ⟨by rfl, ?_⟩) (by first | assumption | rfl) ?_
        rotate_left
        · intro w hS; try subst hS
          go_simp; try with_reducible rfl
        try simp only [Act.put, List.setIfInBounds_toArray, List.set_cons_zero, List.set_cons_succ]
        refine AnyH.take (i := 7) (d := some 37) (v := ?_) (by kernel_rfl) rfl rfl HF (fun _ _ _ h => h) (.inl ⟨by rfl, ?_⟩) (by first | assumption | rfl) ?_
        rotate_left
        · intro w hS; try subst hS
          go_simp; try with_reducible rfl
        try simp only [Act.put, List.setIfInBounds_toArray, List.set_cons_zero, List.set_cons_succ]
        refine AnyH.take (i := 8) (d := some 38) (v := ?_) (by kernel_rfl) rfl rfl HF (fun _ _ _ h => h) (.inl ⟨by rfl, ?_⟩) (by first | assumption | rfl) ?_
        rotate_left
        · intro w hS; try subst hS
          go_simp; try with_reducible rfl
        try simp only [Act.put, List.setIfInBounds_toArray, List.set_cons_zero, List.set_cons_succ]
        refine AnyH.take (i := 9) (d := some 39) (v := ?_) (by kernel_rfl) rfl rfl HF (fun _ _ _ h => h) (.inl ⟨by rfl, ?_⟩) (by first | assumption | rfl) ?_
        rotate_left
        · intro w hS; try subst hS
          go_simp; try with_reducible rfl
        try simp only [Act.put, List.setIfInBounds_toArray, List.set_cons_zero, List.set_cons_succ]
        refine AnyH.tailL 10 (by kernel_rfl) ?_
        simp only [List.drop_succ_cons, List.drop_zero]
        gi_wp2_with fail
        refine ⟨rfl, callsIn_wide.2 ((Put_any x (x.tdiv 2) HTA.out (by omega)).mono ?_)⟩
        rintro e w3 ⟨q2, rfl, hT2, b3⟩
        have b3 := Below.step B0 b3
        have x1 := box_below b3 HBX.out
        have c1 := box_cell x1; have f1 := box_frozen x1
        have HA4 : Hid (KB (w3.setCell ⟨g, 0, none⟩ (.pointer q2)) g (SA L (j + 1)) (j + 1)) := Lib.hid ⟨_, MB.put x1 hT2, HKA.out.putF hsa HES.out⟩
        have HB4 : Hid (KB (w3.setCell ⟨g, 0, none⟩ (.pointer q2)) (g + 1) (SB L S j) j) := Lib.hid ((HB.out.below b3).other x1 (by omega))
        have HW4 : Hid (Below W.heap.size W (w3.setCell ⟨g, 0, none⟩ (.pointer q2))) := Lib.hid ((Below.step HW.out b3).setCell (p := ⟨g, 0, none⟩) HG.out _)
        clear hT2 b3 B0 k1 k2 hw1 x1 HA HB HW HTA HKA HES HBX hsa
        gi_wp2_with fail
        refine NP.normal ?_
        clear c1 f1
        obtain ⟨w4, hw4⟩ : ∃ w4, w3.setCell ⟨g, 0, none⟩ (.pointer q2) = w4 := ⟨_, rfl⟩
        rw [hw4] at HA4 HB4 HW4 ⊢
        clear hw4
        obtain ⟨r, hr⟩ : ∃ r, (j + S) % L.length = r := ⟨_, rfl⟩
        have hrl : r < L.length := by rw [← hr]; exact Nat.mod_lt _ (by omega)
        have hri : ((j : Int) + (S : Int)) % (L.length : Int) = (r : Int) := by rw [← hr]; simp
        have hz1 : ((L.length : Int) == 0) = false := beq_eq_false_iff_ne.2 (by omega)
        have hz2 : (L.length : Int) ≠ 0 := by omega
        have hz3 : (0 : Int) ≤ (S : Int) := by omega
        go_wp2_with fail
        simp only [hri]
        clear hri hz1 hz2
        obtain ⟨q, hq⟩ : ∃ q, q = L.length - 1 - r := ⟨_, rfl⟩
        have hql : q < L.length := by omega
        have hqi : (L.length : Int) - 1 - (r : Int) = (q : Int) := by omega
        have hq0 : (0 : Int) ≤ (q : Int) := by omega
        have hq1 : (q : Int) < (L.length : Int) := by omega
        have hw2 : IntKind.i64.wrap ((L.length : Int) - 1) = (L.length : Int) - 1 := wrap_in (by omega) (by omega)
        have hw3 : IntKind.i64.wrap ((L.length : Int) - 1 - (r : Int)) = (q : Int) := by rw [hqi]; exact wrap_in (by omega) (by omega)
        obtain ⟨b', e, d1⟩ := HM.out q hql
        cases e
        have hy := HOK.out _ (List.getElem_mem hql)
        have hes := SB_succ L S (j := j) (q := q) (by rw [hr]; exact hq) hql
        generalize L[q] = y at *
        have hw1 := half_in hy
        obtain ⟨TB, ⟨qb, hb1, hb2⟩, hkb, hsb⟩ := HB4.out
        have k1 : ∀ w, Below w4.heap.size w4 w → w.cell? (b.add q) = some (.int .i64 y) := fun w h => cell_below d1 (HW4.out.trans (h.mono HW4.out.size))
        have k2 : ∀ w, Below w4.heap.size w4 w → w.cell? ⟨g + 1, 0, none⟩ = some (.pointer qb) := fun w h => box_cell (box_below h hb1)
        have B0 : Below w4.heap.size w4 w4.drew := (Below.refl _ _).drew
        have HTB := Lib.hid (hb2.below B0); have HKB := Lib.hid hkb; have HES := Lib.hid hes; have HBX := Lib.hid hb1
        clear d1 hes hb1 hb2 hkb hy hqi hr hrl hq hql
        refine wp_region_anyNP (Below w4.heap.size w4) (by kernel_rfl) ?_
        refine AnyH.take (i := 0) (d := some 47) (v := ?_) (by kernel_rfl) rfl rfl HF (fun _ _ _ h => h) (.inl ⟨by rfl, ?_⟩) (by first | assumption | rfl) ?_
        rotate_left
        · intro w hS; try subst hS
          go_simp; try with_reducible rfl
        try simp only [Act.put, List.setIfInBounds_toArray, List.set_cons_zero, List.set_cons_succ]
        refine AnyH.take (i := 1) (d := some 48) (v := ?_) (by kernel_rfl) rfl rfl HF (fun _ _ _ h => h) (.inl ⟨by rfl, ?_⟩) (by first | assumption | rfl) ?_
        rotate_left
        · intro w hS; try subst hS
          go_simp; try with_reducible rfl
        try simp only [Act.put, List.setIfInBounds_toArray, List.set_cons_zero, List.set_cons_succ]
        refine AnyH.take (i := 2) (d := some 49) (v := ?_) (by kernel_rfl) rfl rfl HF (fun _ _ _ h => h) (.inl ⟨by rfl, ?_⟩) (by first | assumption | rfl) ?_
        rotate_left
        · intro w hS; try subst hS
          go_simp; try with_reducible rfl
        try simp only [Act.put, List.setIfInBounds_toArray, List.set_cons_zero, List.set_cons_succ]
        refine AnyH.take (i := 3) (d := some 50) (v := ?_) (by kernel_rfl) rfl rfl HF (fun _ _ _ h => h) (.inl ⟨by rfl, ?_⟩) (by first | assumption | rfl) ?_
        rotate_left
        · intro w hS; try subst hS
          go_simp; try with_reducible rfl
        try simp only [Act.put, List.setIfInBounds_toArray, List.set_cons_zero, List.set_cons_succ]
        refine AnyH.take (i := 4) (d := some 51) (v := ?_) (by kernel_rfl) rfl rfl HF (fun _ _ _ h => h) (.inl ⟨by rfl, ?_⟩) (by first | assumption | rfl) ?_
        rotate_left
        · intro w hS; try subst hS
          go_simp; try with_reducible rfl
        try simp only [Act.put, List.setIfInBounds_toArray, List.set_cons_zero, List.set_cons_succ]
        refine AnyH.take (i := 5) (d := some 52) (v := ?_) (by kernel_rfl) rfl rfl HF (fun _ _ _ h => h) (.inl ⟨by rfl, ?_⟩) (by first | assumption | rfl) ?_
        rotate_left
        · intro w hS; try subst hS
          go_simp; try with_reducible rfl
        try simp only [Act.put, List.setIfInBounds_toArray, List.set_cons_zero, List.set_cons_succ]
        refine AnyH.take (i := 6) (d := some 53) (v := ?_) (by kernel_rfl) rfl rfl HF (fun _ _ _ h => h) (.inl ⟨by rfl, ?_⟩) (by first | assumption | rfl) ?_
        rotate_left
        · intro w hS; try subst hS
          go_simp; try with_reducible rfl
        try simp only [Act.put, List.setIfInBounds_toArray, List.set_cons_zero, List.set_cons_succ]
        refine AnyH.take (i := 7) (d := some 54) (v := ?_) (by kernel_rfl) rfl rfl HF (fun _ _ _ h => h) (.inl ⟨by rfl, ?_⟩) (by first | assumption | rfl) ?_
        rotate_left
        · intro w hS; try subst hS
          go_simp; try with_reducible rfl
        try simp only [Act.put, List.setIfInBounds_toArray, List.set_cons_zero, List.set_cons_succ]
        refine AnyH.take (i := 8) (d := some 55) (v := ?_) (by kernel_rfl) rfl rfl HF (fun _ _ _ h => h) (.inl ⟨by rfl, ?_⟩) (by first | assumption | rfl) ?_
        rotate_left
        · intro w hS; try subst hS
          go_simp; try with_reducible rfl
        try simp only [Act.put, List.setIfInBounds_toArray, List.set_cons_zero, List.set_cons_succ]
        refine AnyH.take (i := 9) (d := some 56) (v := ?_) (by kernel_rfl) rfl rfl HF (fun _ _ _ h => h) (.inl ⟨by rfl, ?_⟩) (by first | assumption | rfl) ?_
        rotate_left
        · intro w hS; try subst hS
          go_simp; try with_reducible rfl
        try simp only [Act.put, List.setIfInBounds_toArray, List.set_cons_zero, List.set_cons_succ]
        refine AnyH.take (i := 10) (d := some 57) (v := ?_) (by kernel_rfl) rfl rfl HF (fun _ _ _ h => h) (.inl ⟨by rfl, ?_⟩) (by first | assumption | rfl) ?_
        rotate_left
        · intro w hS; try subst hS
          go_simp; try with_reducible rfl
        try simp only [Act.put, List.setIfInBounds_toArray, List.set_cons_zero, List.set_cons_succ]
        refine AnyH.take (i := 11) (d := some 58) (v := ?_) (by kernel_rfl) rfl rfl HF (fun _ _ _ h => h) (.inl ⟨by rfl, ?_⟩) (by first | assumption | rfl) ?_
        rotate_left
        · intro w hS; try subst hS
          go_simp; try with_reducible rfl
        try simp only [Act.put, List.setIfInBounds_toArray, List.set_cons_zero, List.set_cons_succ]
        refine AnyH.take (i := 12) (d := some 59) (v := ?_) (by kernel_rfl) rfl rfl HF (fun _ _ _ h => h) (.inl ⟨by rfl, ?_⟩) (by first | assumption | rfl) ?_
        rotate_left
        · intro w hS; try subst hS
          go_simp; try with_reducible rfl
        try simp only [Act.put, List.setIfInBounds_toArray, List.set_cons_zero, List.set_cons_succ]
        refine AnyH.take (i := 13) (d := some 60) (v := ?_) (by kernel_rfl) rfl rfl HF (fun _ _ _ h => h) (.inl ⟨by rfl, ?_⟩) (by first | assumption | rfl) ?_
        rotate_left
        · intro w hS; try subst hS
          go_simp; try with_reducible rfl
        try simp only [Act.put, List.setIfInBounds_toArray, List.set_cons_zero, List.set_cons_succ]
        refine AnyH.take (i := 14) (d := some 61) (v := ?_) (by kernel_rfl) rfl rfl HF (fun _ _ _ h => h) (.inl ⟨by rfl, ?_⟩) (by first | assumption | rfl) ?_
        rotate_left
        · intro w hS; try subst hS
          go_simp; try with_reducible rfl
        try simp only [Act.put, List.setIfInBounds_toArray, List.set_cons_zero, List.set_cons_succ]
        refine AnyH.take (i := 15) (d := some 62) (v := ?_) (by kernel_rfl) rfl rfl HF (fun _ _ _ h => h) (.inl ⟨by rfl, ?_⟩) (by first | assumption | rfl) ?_
        rotate_left
        · intro w hS; try subst hS
          go_simp; try with_reducible rfl
        try simp only [Act.put, List.setIfInBounds_toArray, List.set_cons_zero, List.set_cons_succ]
        refine AnyH.tailL 16 (by kernel_rfl) ?_
        simp only [List.drop_succ_cons, List.drop_zero]
        clear hw2 hw3
        gi_wp2_with fail
        refine ⟨rfl, callsIn_wide.2 ((Put_any y (y.tdiv 2) HTB.out (by omega)).mono ?_)⟩
        rintro e w5 ⟨q5, rfl, hT5, b5⟩
        have b5 := Below.step B0 b5
        have x1 := box_below b5 HBX.out
        have c1 := box_cell x1; have f1 := box_frozen x1
        have HB6 : Hid (KB (w5.setCell ⟨g + 1, 0, none⟩ (.pointer q5)) (g + 1) (SB L S (j + 1)) (j + 1)) := Lib.hid ⟨_, MB.put x1 hT5, HKB.out.putF hsb HES.out⟩
        have HA6 : Hid (KB (w5.setCell ⟨g + 1, 0, none⟩ (.pointer q5)) g (SA L (j + 1)) (j + 1)) := Lib.hid ((HA4.out.below b5).other x1 (by omega))
        have HW6 : Hid (Below W.heap.size W (w5.setCell ⟨g + 1, 0, none⟩ (.pointer q5))) := Lib.hid ((Below.step HW4.out b5).setCell (p := ⟨g + 1, 0, none⟩) (Nat.le_trans HG.out (Nat.le_succ g)) _)
        clear hT5 b5 B0 k1 k2 hw1 x1 HA4 HB4 HW4 HTB HKB HES HBX hsb
        gi_wp2_with fail
        refine NP.normal ?_
        clear c1 f1
        go_wp2_with fail
        go_roundw
        case rel => exact ⟨j + 1, by omega, by go_num, HA6.out, HB6.out, HW6.out⟩
        case measure => simp [intOf]; omega
      · obtain rfl : j = L.length := by omega
        obtain ⟨TA, ⟨qa, ha1, ha2⟩, hka, hsa⟩ := HA.out
        obtain ⟨TB, ⟨qb, hb1, hb2⟩, hkb, hsb⟩ := HB.out
        have heq : TA.toList = TB.toList := hka.uniq (hkb.cong (SB_SA L S))
        have hse : TA.sz = TB.sz := by rw [Tr.sz_eq, Tr.sz_eq, heq]
        have HEQ := Lib.hid heq
        have k1 : ∀ w, Below wr.heap.size wr w → w.cell? ⟨g, 0, none⟩ = some (.pointer qa) := fun w h => box_cell (box_below h ha1)
        have k2 : ∀ w, Below wr.heap.size wr w → w.cell? ⟨g + 1, 0, none⟩ = some (.pointer qb) := fun w h => box_cell (box_below h hb1)
        have B0 : Below wr.heap.size wr wr.drew := (Below.refl _ _).drew
        have HTA := Lib.hid ha2; have HTB := Lib.hid hb2; have HKA := Lib.hid hka; have HA1 := Lib.hid ha1
        clear heq ha1 ha2 hb1 hb2 hka hkb HA HB HM HOK
        go_wp2_with fail
        refine wp_region_anyNP (Below wr.heap.size wr) (by kernel_rfl) ?_
        refine AnyH.take (i := 0) (d := some 65) (v := ?_) (by kernel_rfl) rfl rfl HF (fun _ _ _ h => h) (.inl ⟨by rfl, ?_⟩) (by first | assumption | rfl) ?_
        rotate_left
        · intro w hS; try subst hS
          go_simp; try with_reducible rfl
        try simp only [Act.put, List.setIfInBounds_toArray, List.set_cons_zero, List.set_cons_succ]
        refine AnyH.take (i := 1) (d := some 66) (v := ?_) (by kernel_rfl) rfl rfl HF (fun _ _ _ h => h) (.inl ⟨by rfl, ?_⟩) (by first | assumption | rfl) ?_
        rotate_left
        · intro w hS; try subst hS
          go_simp; try with_reducible rfl
        try simp only [Act.put, List.setIfInBounds_toArray, List.set_cons_zero, List.set_cons_succ]
        refine AnyH.one (i := 2) (by kernel_rfl) (by kernel_rfl) rfl HF (by rfl) (fun K hK => ?_)
        go_simp
        first | ((with_reducible refine And.intro ?hdep ?_); (case hdep => first | rfl | (intro h; cases h))) | skip
        refine callsIn_wide.2 ((changed_any (HTA.out.below B0) (HTB.out.below B0) (by have h1 := Tr.sz_eq TA; have h2 := Tr.sz_eq TB; omega)).mono ?_)
        rintro e w3 ⟨r3, rfl, hS3, b3⟩
        rw [HEQ.out, chg_self] at hS3
        obtain ⟨a3, c3, hv3⟩ := hS3.len
        simp only [List.length_nil] at hv3
        subst hv3
        have B3 : Below wr.heap.size wr w3 := Below.step B0 b3
        clear hS3 b3
        refine hK _ _ B3 ?_
        clear hK K
        try simp only [Act.put, List.setIfInBounds_toArray, List.set_cons_zero, List.set_cons_succ]
        refine AnyH.take (i := 3) (d := some 68) (v := ?_) (by kernel_rfl) rfl rfl HF (fun _ _ _ h => h) (.inl ⟨by rfl, ?_⟩) (by first | assumption | rfl) ?_
        rotate_left
        · intro w hS; try subst hS
          go_simp; try with_reducible rfl
        try simp only [Act.put, List.setIfInBounds_toArray, List.set_cons_zero, List.set_cons_succ]
        refine AnyH.take (i := 4) (d := some 69) (v := ?_) (by kernel_rfl) rfl rfl HF (fun _ _ _ h => h) (.inl ⟨by rfl, ?_⟩) (by first | assumption | rfl) ?_
        rotate_left
        · intro w hS; try subst hS
          go_simp; try with_reducible rfl
        try simp only [Act.put, List.setIfInBounds_toArray, List.set_cons_zero, List.set_cons_succ]
        refine AnyH.take (i := 5) (d := some 70) (v := ?_) (by kernel_rfl) rfl rfl HF (fun _ _ _ h => h) (.inl ⟨by rfl, ?_⟩) (by first | assumption | rfl) ?_
        rotate_left
        · intro w hS; try subst hS
          go_simp; try with_reducible rfl
        try simp only [Act.put, List.setIfInBounds_toArray, List.set_cons_zero, List.set_cons_succ]
        refine AnyH.take (i := 6) (d := some 71) (v := ?_) (by kernel_rfl) rfl rfl HF (fun _ _ _ h => h) (.inl ⟨by rfl, ?_⟩) (by first | assumption | rfl) ?_
        rotate_left
        · intro w hS; try subst hS
          go_simp; try with_reducible rfl
        try simp only [Act.put, List.setIfInBounds_toArray, List.set_cons_zero, List.set_cons_succ]
        refine AnyH.take (i := 8) (d := some 73) (v := ?_) (by kernel_rfl) rfl rfl HF (fun _ _ _ h => h) (.inl ⟨by rfl, ?_⟩) (by first | assumption | rfl) ?_
        rotate_left
        · intro w hS; try subst hS
          go_simp; try with_reducible rfl
        try simp only [Act.put, List.setIfInBounds_toArray, List.set_cons_zero, List.set_cons_succ]
        refine AnyH.one (i := 7) (by kernel_rfl) (by kernel_rfl) rfl HF (by rfl) (fun K hK => ?_)
        go_simp
        first | ((with_reducible refine And.intro ?hdep ?_); (case hdep => first | rfl | (intro h; cases h))) | skip
        refine callsIn_wide.2 ((Len_any (HTA.out.below B3)).mono ?_)
        rintro e w4 ⟨rfl, b4⟩
        have B4 : Below wr.heap.size wr w4 := Below.step B3 b4
        clear b4
        refine hK _ _ B4 ?_
        clear hK K
        try simp only [Act.put, List.setIfInBounds_toArray, List.set_cons_zero, List.set_cons_succ]
        refine AnyH.one (i := 9) (by kernel_rfl) (by kernel_rfl) rfl HF (by rfl) (fun K hK => ?_)
        go_simp
        first | ((with_reducible refine And.intro ?hdep ?_); (case hdep => first | rfl | (intro h; cases h))) | skip
        refine callsIn_wide.2 ((Len_any (HTB.out.below B4)).mono ?_)
        rintro e w5 ⟨he, b5⟩
        rw [← hse] at he
        subst he
        have B5 : Below wr.heap.size wr w5 := Below.step B4 b5
        clear b5
        refine hK _ _ B5 ?_
        clear hK K
        try simp only [Act.put, List.setIfInBounds_toArray, List.set_cons_zero, List.set_cons_succ]
        refine AnyH.take (i := 10) (d := some 75) (v := ?_) (by kernel_rfl) rfl rfl HF (fun _ _ _ h => h) (.inl ⟨by rfl, ?_⟩) (by first | assumption | rfl) ?_
        rotate_left
        · intro w hS; try subst hS
          go_simp; try with_reducible rfl
        try simp only [Act.put, List.setIfInBounds_toArray, List.set_cons_zero, List.set_cons_succ]
        refine AnyH.take (i := 11) (d := some 76) (v := ?_) (by kernel_rfl) rfl rfl HF (fun _ _ _ h => h) (.inl ⟨by rfl, ?_⟩) (by first | assumption | rfl) ?_
        rotate_left
        · intro w hS; try subst hS
          go_simp; try with_reducible rfl
        try simp only [Act.put, List.setIfInBounds_toArray, List.set_cons_zero, List.set_cons_succ]
        refine AnyH.done (by kernel_rfl) ?_
        have HX5 := Lib.hid (box_below B5 HA1.out); have HT5 := Lib.hid (HTA.out.below B5); have HW5 := Lib.hid (Below.step HW.out B5)
        have c5 := box_cell HX5.out
        have hsz : TA.sz ≤ 200 := by omega
        clear k1 k2 B0 B3 B4 B5 HTA HTB HA1 HW hse hsa hsb
        refine NP.normal ?_
        go_wp2_with fail
        refine (Get_any k HT5.out).mono ?_
        rintro e w6 ⟨rfl, b6⟩
        have HFT := Lib.hid (findF_top st k TA HKA.out.1)
        have HX6 := Lib.hid (box_below b6 HX5.out); have HT6 := Lib.hid (HT5.out.below b6); have HW6 := Lib.hid (Below.step HW5.out b6)
        have c6 := box_cell HX6.out
        clear b6 HX5 HT5 HW5 c5
        generalize findF lt k TA = F at *
        cases F with
        | node l nk nv r =>
          simp only [getV]
          go_wp2_with fail
          refine (Put_any k 7 HT6.out (by omega)).mono ?_
          rintro e w7 ⟨q7, rfl, hT7, b7⟩
          have HT7 := Lib.hid hT7; have B7 := Lib.hid b7
          clear hT7 b7
          go_wp2_with fail
          refine (Drop_any k HT7.out (by have := putF_sz lt k 7 TA; omega)).mono ?_
          rintro e w8 ⟨q8, rfl, hT8, b8⟩
          obtain ⟨w9, hw9⟩ : ∃ w9, w8.alloc (.cells #[.pointer q8] 26) = w9 := ⟨_, rfl⟩
          have b9 : Below w8.heap.size w8 w9 := by rw [← hw9]; exact (Below.refl _ _).alloc (Nat.le_refl _) _
          have x9 : w9.heap[w8.heap.size]? = some (.cells #[.pointer q8] 26 (0, 0)) := by rw [← hw9]; exact heap_new _ _
          have b69 : Below w6.heap.size w6 w9 := Below.step B7.out (Below.step b8 b9)
          have HX9 := Lib.hid x9; have HT9 := Lib.hid (hT8.below b9); have HA9 := Lib.hid (box_below b69 HX6.out); have HTA9 := Lib.hid (HT6.out.below b69); have HW9 := Lib.hid (Below.step HW6.out b69)
          clear hT8 b8 b9 x9 b69 B7 HT6 HX6 HW6 c6 HT7
          go_wp2_with fail
          try rw [hw9]
          clear hw9
          obtain ⟨G, hG⟩ : ∃ G, w8.heap.size = G := ⟨_, rfl⟩
          rw [hG] at HX9 ⊢
          clear hG
          have B0 : Below w9.heap.size w9 w9.drew := (Below.refl _ _).drew
          refine wp_region_anyNP (Below w9.heap.size w9) (by kernel_rfl) ?_
          refine AnyH.take (i := 0) (d := some 88) (v := ?_) (by kernel_rfl) rfl rfl HF (fun _ _ _ h => h) (.inl ⟨by rfl, ?_⟩) (by first | assumption | rfl) ?_
          rotate_left
          · intro w hS; try subst hS
            go_simp; try with_reducible rfl
          try simp only [Act.put, List.setIfInBounds_toArray, List.set_cons_zero, List.set_cons_succ]
          refine AnyH.take (i := 1) (d := some 89) (v := ?_) (by kernel_rfl) rfl rfl HF (fun _ _ _ h => h) (.inl ⟨by rfl, ?_⟩) (by first | assumption | rfl) ?_
          rotate_left
          · intro w hS; try subst hS
            go_simp; try with_reducible rfl
          try simp only [Act.put, List.setIfInBounds_toArray, List.set_cons_zero, List.set_cons_succ]
          refine AnyH.take (i := 2) (d := some 90) (v := undef) (by kernel_rfl) rfl rfl HF (fun _ _ _ h => h) (.inr ⟨by rfl, rfl⟩) (by first | assumption | rfl) ?_
          try simp only [Act.put, List.setIfInBounds_toArray, List.set_cons_zero, List.set_cons_succ]
          refine AnyH.take (i := 3) (d := some 91) (v := undef) (by kernel_rfl) rfl rfl HF (fun _ _ _ h => h) (.inr ⟨by rfl, rfl⟩) (by first | assumption | rfl) ?_
          try simp only [Act.put, List.setIfInBounds_toArray, List.set_cons_zero, List.set_cons_succ]
          refine AnyH.take (i := 4) (d := some 92) (v := undef) (by kernel_rfl) rfl rfl HF (fun _ _ _ h => h) (.inr ⟨by rfl, rfl⟩) (by first | assumption | rfl) ?_
          try simp only [Act.put, List.setIfInBounds_toArray, List.set_cons_zero, List.set_cons_succ]
          refine AnyH.take (i := 5) (d := some 93) (v := undef) (by kernel_rfl) rfl rfl HF (fun _ _ _ h => h) (.inr ⟨by rfl, rfl⟩) (by first | assumption | rfl) ?_
          try simp only [Act.put, List.setIfInBounds_toArray, List.set_cons_zero, List.set_cons_succ]
          refine AnyH.take (i := 6) (d := some 94) (v := undef) (by kernel_rfl) rfl rfl HF (fun _ _ _ h => h) (.inr ⟨by rfl, rfl⟩) (by first | assumption | rfl) ?_
          try simp only [Act.put, List.setIfInBounds_toArray, List.set_cons_zero, List.set_cons_succ]
          refine AnyH.take (i := 7) (d := some 95) (v := undef) (by kernel_rfl) rfl rfl HF (fun _ _ _ h => h) (.inr ⟨by rfl, rfl⟩) (by first | assumption | rfl) ?_
          try simp only [Act.put, List.setIfInBounds_toArray, List.set_cons_zero, List.set_cons_succ]
          refine AnyH.take (i := 8) (d := some 96) (v := undef) (by kernel_rfl) rfl rfl HF (fun _ _ _ h => h) (.inr ⟨by rfl, rfl⟩) (by first | assumption | rfl) ?_
          try simp only [Act.put, List.setIfInBounds_toArray, List.set_cons_zero, List.set_cons_succ]
          refine AnyH.take (i := 9) (d := some 97) (v := undef) (by kernel_rfl) rfl rfl HF (fun _ _ _ h => h) (.inr ⟨by rfl, rfl⟩) (by first | assumption | rfl) ?_
          try simp only [Act.put, List.setIfInBounds_toArray, List.set_cons_zero, List.set_cons_succ]
          refine AnyH.take (i := 10) (d := some 98) (v := undef) (by kernel_rfl) rfl rfl HF (fun _ _ _ h => h) (.inr ⟨by rfl, rfl⟩) (by first | assumption | rfl) ?_
          try simp only [Act.put, List.setIfInBounds_toArray, List.set_cons_zero, List.set_cons_succ]
          refine AnyH.take (i := 11) (d := some 99) (v := undef) (by kernel_rfl) rfl rfl HF (fun _ _ _ h => h) (.inr ⟨by rfl, rfl⟩) (by first | assumption | rfl) ?_
          try simp only [Act.put, List.setIfInBounds_toArray, List.set_cons_zero, List.set_cons_succ]
          refine AnyH.take (i := 12) (d := some 100) (v := undef) (by kernel_rfl) rfl rfl HF (fun _ _ _ h => h) (.inr ⟨by rfl, rfl⟩) (by first | assumption | rfl) ?_
          try simp only [Act.put, List.setIfInBounds_toArray, List.set_cons_zero, List.set_cons_succ]
          refine AnyH.take (i := 13) (d := some 101) (v := undef) (by kernel_rfl) rfl rfl HF (fun _ _ _ h => h) (.inr ⟨by rfl, rfl⟩) (by first | assumption | rfl) ?_
          try simp only [Act.put, List.setIfInBounds_toArray, List.set_cons_zero, List.set_cons_succ]
          refine AnyH.take (i := 14) (d := some 102) (v := ?_) (by kernel_rfl) rfl rfl HF (fun _ _ _ h => h) (.inl ⟨by rfl, ?_⟩) (by first | assumption | rfl) ?_
          rotate_left
          · intro w hS; try subst hS
            go_simp; try with_reducible rfl
          try simp only [Act.put, List.setIfInBounds_toArray, List.set_cons_zero, List.set_cons_succ]
          refine AnyH.take (i := 15) (d := some 6) (v := ?_) (by kernel_rfl) rfl rfl HF (fun _ _ _ h => h) (.inl ⟨by rfl, ?_⟩) (by first | assumption | rfl) ?_
          rotate_left
          · intro w hS; try subst hS
            go_simp; try with_reducible rfl
          try simp only [Act.put, List.setIfInBounds_toArray, List.set_cons_zero, List.set_cons_succ]
          refine AnyH.done (by kernel_rfl) ?_
          refine NP.normal ?_
          go_wp2_with fail
          go_ret
          exact ⟨rfl, Below.step HW9.out B0⟩
        | nil =>
          simp only [getV]
          go_wp2_with fail
          refine (Put_any k 7 HT6.out (by omega)).mono ?_
          rintro e w7 ⟨q7, rfl, hT7, b7⟩
          have HT7 := Lib.hid hT7; have B7 := Lib.hid b7
          clear hT7 b7
          go_wp2_with fail
          refine (Drop_any k HT7.out (by have := putF_sz lt k 7 TA; omega)).mono ?_
          rintro e w8 ⟨q8, rfl, hT8, b8⟩
          obtain ⟨w9, hw9⟩ : ∃ w9, w8.alloc (.cells #[.pointer q8] 26) = w9 := ⟨_, rfl⟩
          have b9 : Below w8.heap.size w8 w9 := by rw [← hw9]; exact (Below.refl _ _).alloc (Nat.le_refl _) _
          have x9 : w9.heap[w8.heap.size]? = some (.cells #[.pointer q8] 26 (0, 0)) := by rw [← hw9]; exact heap_new _ _
          have b69 : Below w6.heap.size w6 w9 := Below.step B7.out (Below.step b8 b9)
          have HX9 := Lib.hid x9; have HT9 := Lib.hid (hT8.below b9); have HA9 := Lib.hid (box_below b69 HX6.out); have HTA9 := Lib.hid (HT6.out.below b69); have HW9 := Lib.hid (Below.step HW6.out b69)
          clear hT8 b8 b9 x9 b69 B7 HT6 HX6 HW6 c6 HT7
          go_wp2_with fail
          try rw [hw9]
          clear hw9
          obtain ⟨G, hG⟩ : ∃ G, w8.heap.size = G := ⟨_, rfl⟩
          rw [hG] at HX9 ⊢
          clear hG
          have hno := HKA.out.absent HFT.out.symm
          have hC : (dropM lt k (putF lt k 7 TA)).toList = TA.toList := by
            rw [dropM_toList st k _ (by rw [putF_toList st k 7 TA HKA.out.1]; exact insL_sorted st HKA.out.1), putF_toList st k 7 TA HKA.out.1]
            exact HKA.out.back hno
          have hCs : (dropM lt k (putF lt k 7 TA)).sz = TA.sz := by rw [Tr.sz_eq, Tr.sz_eq, hC]
          generalize dropM lt k (putF lt k 7 TA) = TC at *
          have HC := Lib.hid hC
          have k1 : ∀ w, Below w9.heap.size w9 w → w.cell? ⟨g, 0, none⟩ = some (.pointer qa) := fun w h => box_cell (box_below h HA9.out)
          have k2 : ∀ w, Below w9.heap.size w9 w → w.cell? ⟨G, 0, none⟩ = some (.pointer q8) := fun w h => box_cell (box_below h HX9.out)
          have B0 : Below w9.heap.size w9 w9.drew := (Below.refl _ _).drew
          clear hno hC
          refine wp_region_anyNP (Below w9.heap.size w9) (by kernel_rfl) ?_
          refine AnyH.take (i := 0) (d := some 88) (v := ?_) (by kernel_rfl) rfl rfl HF (fun _ _ _ h => h) (.inl ⟨by rfl, ?_⟩) (by first | assumption | rfl) ?_
          rotate_left
          · intro w hS; try subst hS
            go_simp; try with_reducible rfl
          try simp only [Act.put, List.setIfInBounds_toArray, List.set_cons_zero, List.set_cons_succ]
          refine AnyH.take (i := 1) (d := some 89) (v := ?_) (by kernel_rfl) rfl rfl HF (fun _ _ _ h => h) (.inl ⟨by rfl, ?_⟩) (by first | assumption | rfl) ?_
          rotate_left
          · intro w hS; try subst hS
            go_simp; try with_reducible rfl
          try simp only [Act.put, List.setIfInBounds_toArray, List.set_cons_zero, List.set_cons_succ]
          refine AnyH.take (i := 2) (d := some 90) (v := ?_) (by kernel_rfl) rfl rfl HF (fun _ _ _ h => h) (.inl ⟨by rfl, ?_⟩) (by first | assumption | rfl) ?_
          rotate_left
          · intro w hS; try subst hS
            go_simp; try with_reducible rfl
          try simp only [Act.put, List.setIfInBounds_toArray, List.set_cons_zero, List.set_cons_succ]
          refine AnyH.take (i := 3) (d := some 91) (v := ?_) (by kernel_rfl) rfl rfl HF (fun _ _ _ h => h) (.inl ⟨by rfl, ?_⟩) (by first | assumption | rfl) ?_
          rotate_left
          · intro w hS; try subst hS
            go_simp; try with_reducible rfl
          try simp only [Act.put, List.setIfInBounds_toArray, List.set_cons_zero, List.set_cons_succ]
          refine AnyH.one (i := 4) (by kernel_rfl) (by kernel_rfl) rfl HF (by rfl) (fun K hK => ?_)
          go_simp
          first | ((with_reducible refine And.intro ?hdep ?_); (case hdep => first | rfl | (intro h; cases h))) | skip
          refine callsIn_wide.2 ((changed_any (HTA9.out.below B0) (HT9.out.below B0) (by have h1 := Tr.sz_eq TA; have h2 := Tr.sz_eq TC; omega)).mono ?_)
          rintro e w3 ⟨r3, rfl, hS3, b3⟩
          rw [HC.out, chg_self] at hS3
          obtain ⟨a3, c3, hv3⟩ := hS3.len
          simp only [List.length_nil] at hv3
          subst hv3
          have B3 : Below w9.heap.size w9 w3 := Below.step B0 b3
          clear hS3 b3
          refine hK _ _ B3 ?_
          clear hK K
          try simp only [Act.put, List.setIfInBounds_toArray, List.set_cons_zero, List.set_cons_succ]
          refine AnyH.take (i := 5) (d := some 93) (v := ?_) (by kernel_rfl) rfl rfl HF (fun _ _ _ h => h) (.inl ⟨by rfl, ?_⟩) (by first | assumption | rfl) ?_
          rotate_left
          · intro w hS; try subst hS
            go_simp; try with_reducible rfl
          try simp only [Act.put, List.setIfInBounds_toArray, List.set_cons_zero, List.set_cons_succ]
          refine AnyH.take (i := 6) (d := some 94) (v := ?_) (by kernel_rfl) rfl rfl HF (fun _ _ _ h => h) (.inl ⟨by rfl, ?_⟩) (by first | assumption | rfl) ?_
          rotate_left
          · intro w hS; try subst hS
            go_simp; try with_reducible rfl
          try simp only [Act.put, List.setIfInBounds_toArray, List.set_cons_zero, List.set_cons_succ]
          refine AnyH.take (i := 7) (d := some 95) (v := ?_) (by kernel_rfl) rfl rfl HF (fun _ _ _ h => h) (.inl ⟨by rfl, ?_⟩) (by first | assumption | rfl) ?_
          rotate_left
          · intro w hS; try subst hS
            go_simp; try with_reducible rfl
          try simp only [Act.put, List.setIfInBounds_toArray, List.set_cons_zero, List.set_cons_succ]
          refine AnyH.take (i := 8) (d := some 96) (v := ?_) (by kernel_rfl) rfl rfl HF (fun _ _ _ h => h) (.inl ⟨by rfl, ?_⟩) (by first | assumption | rfl) ?_
          rotate_left
          · intro w hS; try subst hS
            go_simp; try with_reducible rfl
          try simp only [Act.put, List.setIfInBounds_toArray, List.set_cons_zero, List.set_cons_succ]
          refine AnyH.take (i := 10) (d := some 98) (v := ?_) (by kernel_rfl) rfl rfl HF (fun _ _ _ h => h) (.inl ⟨by rfl, ?_⟩) (by first | assumption | rfl) ?_
          rotate_left
          · intro w hS; try subst hS
            go_simp; try with_reducible rfl
          try simp only [Act.put, List.setIfInBounds_toArray, List.set_cons_zero, List.set_cons_succ]
          refine AnyH.one (i := 9) (by kernel_rfl) (by kernel_rfl) rfl HF (by rfl) (fun K hK => ?_)
          go_simp
          first | ((with_reducible refine And.intro ?hdep ?_); (case hdep => first | rfl | (intro h; cases h))) | skip
          refine callsIn_wide.2 ((Len_any (HT9.out.below B3)).mono ?_)
          rintro e w4 ⟨he, b4⟩
          rw [hCs] at he
          subst he
          have B4 : Below w9.heap.size w9 w4 := Below.step B3 b4
          clear b4
          refine hK _ _ B4 ?_
          clear hK K
          try simp only [Act.put, List.setIfInBounds_toArray, List.set_cons_zero, List.set_cons_succ]
          refine AnyH.one (i := 11) (by kernel_rfl) (by kernel_rfl) rfl HF (by rfl) (fun K hK => ?_)
          go_simp
          first | ((with_reducible refine And.intro ?hdep ?_); (case hdep => first | rfl | (intro h; cases h))) | skip
          refine callsIn_wide.2 ((Len_any (HTA9.out.below B4)).mono ?_)
          rintro e w5 ⟨rfl, b5⟩
          have B5 : Below w9.heap.size w9 w5 := Below.step B4 b5
          clear b5
          refine hK _ _ B5 ?_
          clear hK K
          try simp only [Act.put, List.setIfInBounds_toArray, List.set_cons_zero, List.set_cons_succ]
          refine AnyH.take (i := 12) (d := some 100) (v := ?_) (by kernel_rfl) rfl rfl HF (fun _ _ _ h => h) (.inl ⟨by rfl, ?_⟩) (by first | assumption | rfl) ?_
          rotate_left
          · intro w hS; try subst hS
            go_simp; try with_reducible rfl
          try simp only [Act.put, List.setIfInBounds_toArray, List.set_cons_zero, List.set_cons_succ]
          refine AnyH.take (i := 13) (d := some 101) (v := ?_) (by kernel_rfl) rfl rfl HF (fun _ _ _ h => h) (.inl ⟨by rfl, ?_⟩) (by first | assumption | rfl) ?_
          rotate_left
          · intro w hS; try subst hS
            go_simp; try with_reducible rfl
          try simp only [Act.put, List.setIfInBounds_toArray, List.set_cons_zero, List.set_cons_succ]
          refine AnyH.take (i := 14) (d := some 102) (v := ?_) (by kernel_rfl) rfl rfl HF (fun _ _ _ h => h) (.inl ⟨by rfl, ?_⟩) (by first | assumption | rfl) ?_
          rotate_left
          · intro w hS; try subst hS
            go_simp; try with_reducible rfl
          try simp only [Act.put, List.setIfInBounds_toArray, List.set_cons_zero, List.set_cons_succ]
          refine AnyH.take (i := 15) (d := some 6) (v := ?_) (by kernel_rfl) rfl rfl HF (fun _ _ _ h => h) (.inl ⟨by rfl, ?_⟩) (by first | assumption | rfl) ?_
          rotate_left
          · intro w hS; try subst hS
            go_simp; try with_reducible rfl
          try simp only [Act.put, List.setIfInBounds_toArray, List.set_cons_zero, List.set_cons_succ]
          refine AnyH.done (by kernel_rfl) ?_
          refine NP.normal ?_
          go_wp2_with fail
          go_ret
          exact ⟨rfl, Below.step HW9.out B5⟩
end ii
end Go.Proofs.Ytdgclambplipnaa
