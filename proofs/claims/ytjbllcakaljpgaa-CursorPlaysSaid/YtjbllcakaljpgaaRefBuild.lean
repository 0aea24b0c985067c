/- The reference's Build. -/
import Derived.Test.YtjbllcakaljpgaaRefOne
import Derived.Test.YtjbllcakaljpgaaMake
import Derived.Test.YtjbllcakaljpgaaTwo
namespace Go.Proofs.Ytjbllcakaljpgaa
open Go.RowKit
theorem cell_on {A C : World} {a : Addr} {v : Value} (h : A.cell? a = some v) (hb : Below A.heap.size A C) : C.cell? a = some v := by
  have h2 := h
  unfold World.cell? at h ⊢
  cases hh : A.heap[a.block]? with
  | none => rw [hh] at h; cases h
  | some o =>
    rw [hb.block a.block (Array.getElem?_eq_some_iff.1 hh).1]
    exact h
namespace M
attribute [local go_sem] Oper.semAt_some
/-- Five cells of a Make from an address on. -/
def MkAt (W : World) (b : Addr) (m : Mk) : Prop := W.cell? b = some (.int .i64 m.kind) ∧ W.cell? ⟨b.block, b.off + 1, none⟩ = some (.int .u8 m.letter) ∧ W.cell? ⟨b.block, b.off + 2, none⟩ = some (.int .i64 m.left) ∧ W.cell? ⟨b.block, b.off + 3, none⟩ = some (.int .i64 m.right) ∧ W.cell? ⟨b.block, b.off + 4, none⟩ = some (.int .i64 m.times)
theorem MkAt.on {A C : World} {b : Addr} {m : Mk} (h : MkAt A b m) (hb : Below A.heap.size A C) : MkAt C b m := ⟨cell_on h.1 hb, cell_on h.2.1 hb, cell_on h.2.2.1 hb, cell_on h.2.2.2.1 hb, cell_on h.2.2.2.2 hb⟩
/-- A slice of Makes, wherever it lies. -/
def RowMk (W : World) (v : Value) (M : List Mk) : Prop :=
  ∃ a cap, v = .slice a M.length cap ∧ M.length ≤ cap ∧ cap ≤ maxLen ∧ (∀ m ∈ M, m.letter < 256 ∧ m.times ≤ 9223372036854775807) ∧ ∀ (i : Nat) (h : i < M.length), ∃ b, a = some b ∧ MkAt W (b.add (i * 5)) M[i]
theorem RowMk.below {A C : World} {v : Value} {M : List Mk} (h : RowMk A v M) (hb : Below A.heap.size A C) : RowMk C v M := by
  obtain ⟨a, cap, rfl, h1, h2, h3, h⟩ := h
  exact ⟨a, cap, rfl, h1, h2, h3, fun i hi => (h i hi).imp fun b hh => ⟨hh.1, hh.2.on hb⟩⟩
theorem Wf.lens {E : List En} (h : Wf E) : ∀ x ∈ lens E, 0 < x ∧ x ≤ 1152921504606846976 := by
  intro x hx
  obtain ⟨e, he, rfl⟩ := List.mem_map.1 hx
  obtain ⟨i, hi, rfl⟩ := List.mem_iff_getElem.1 he
  obtain ⟨a, b, c, -⟩ := h.get (i + 1) (by omega) (by omega)
  rw [entAt_some (by omega) (by omega)] at a
  simp only [Nat.add_sub_cancel] at a
  rw [a]
  exact ⟨c, b⟩
theorem RsC.kt {W : World} {g : Nat} {a b : Value} (h : RsC W g a b) (a' b' : Value) {t : TypeId} (ht : 61 ≠ t) : KeepT t W ((W.setCell ⟨g, 0, none⟩ a').setCell ⟨g, 1, none⟩ b') :=
  (KeepT.setCell (a := ⟨g, 0, none⟩) h ht).trans (KeepT.setCell (a := ⟨g, 1, none⟩) (show (W.setCell ⟨g, 0, none⟩ a').heap[g]? = _ from heap_set0 _ h) ht)
theorem RsC.ot {W : World} {g k : Nat} {a b : Value} (h : RsC W g a b) (hg : g ≠ k) (x' y' : Value) : RsC ((W.setCell ⟨k, 0, none⟩ x').setCell ⟨k, 1, none⟩ y') g a b := set_other hg (set_other hg h)
set_option maxRecDepth 100000 in
set_option maxHeartbeats 8000000 in
theorem refBuild_any {W : World} {v : Value} {M : List Mk} (hM : RowMk W v M) (hl : M.length ≤ 1000) :
    Calls Try.prog 27 #[v] W fun e w' => ∃ v' u' rv, e = .returned (.tuple #[.agg #[v', u'], rv]) ∧ Rus 0 w' v' ((bldF M [] [0]).1.map En.ru) ∧ Lns 0 w' u' (lens (bldF M [] [0]).1) ∧ Ids 0 w' rv (bldF M [] [0]).2 ∧ Below W.heap.size W w' := by
  have HF : ∀ f, Fence.wide.fn f := fun _ => trivial
  have H := Lib.hid hM
  obtain ⟨a, cap, rfl, hc1, hc2, hlt, -⟩ := hM
  unfold maxLen at hc2
  obtain ⟨BB, hBB⟩ : ∃ A, bldF M [] [0] = A := ⟨_, rfl⟩
  have HBB := Lib.hid hBB
  rw [hBB]
  clear hBB hlt
  obtain ⟨W1, hW1⟩ : ∃ w, (W.alloc (.cells #[.slice none 0 0, .slice none 0 0] 61)).alloc (.cells #[.slice none 0 0, .slice none 0 0] 61) = w := ⟨_, rfl⟩
  have b1 : Below W.heap.size W W1 := by rw [← hW1]; exact ((Below.refl _ W).alloc (Nat.le_refl _) _).alloc (by simp) _
  have s1 : W1.heap.size = W.heap.size + 2 := by rw [← hW1]; simp
  have k1 : RsC W1 W.heap.size (.slice none 0 0) (.slice none 0 0) := by
    rw [← hW1]
    have := heap_new' W (.cells #[.slice none 0 0, .slice none 0 0] 61)
    exact below_block ((Below.refl _ _).alloc (Nat.le_refl _) _) this
  have k2 : RsC W1 (W.heap.size + 1) (.slice none 0 0) (.slice none 0 0) := by
    rw [← hW1]
    have := heap_new' (W.alloc (.cells #[.slice none 0 0, .slice none 0 0] 61)) (.cells #[.slice none 0 0, .slice none 0 0] 61)
    rw [World.size_alloc] at this
    exact this
  obtain ⟨g0, g1, f0, f1⟩ := k2.cells
  obtain ⟨Wb, hWb⟩ : ∃ w, (W1.setCell ⟨W.heap.size + 1, 0, none⟩ (.slice none 0 0)).setCell ⟨W.heap.size + 1, 1, none⟩ (.slice none 0 0) = w := ⟨_, rfl⟩
  have k1b : RsC Wb W.heap.size (.slice none 0 0) (.slice none 0 0) := by rw [← hWb]; exact set_other (by omega) (set_other (by omega) k1)
  have k2b : RsC Wb (W.heap.size + 1) (.slice none 0 0) (.slice none 0 0) := by rw [← hWb]; exact k2.set _ _
  have bb : Below W.heap.size W Wb := by rw [← hWb]; exact (b1.setCell (p := ⟨W.heap.size + 1, 0, none⟩) (by simp) _).setCell (p := ⟨W.heap.size + 1, 1, none⟩) (by simp) _
  have sb : Wb.heap.size = W.heap.size + 2 := by rw [← hWb]; simp [s1]
  obtain ⟨W2, hW2⟩ : ∃ w, Wb.alloc (.cells #[.int .i64 0] 26) = w := ⟨_, rfl⟩
  have b2 : Below Wb.heap.size Wb W2 := by rw [← hW2]; exact (Below.refl _ _).alloc (Nat.le_refl _) _
  have HI : Hid (Ids W.heap.size W2 (.slice (some ⟨Wb.heap.size, 0, none⟩) 1 1) [0]) := Lib.hid (by rw [← hW2]; exact SlA.mono (SlA.lit (l := [0]) encLn_len rfl (by simp; unfold maxLen; omega)) (by omega))
  have K1 := Lib.hid (show RsC W2 W.heap.size _ _ from below_block b2 k1b); have K2 := Lib.hid (show RsC W2 (W.heap.size + 1) _ _ from below_block b2 k2b); have B2 := Lib.hid (Below.after bb b2)
  rw [sb] at HI
  clear b1 b2 k1 k2 bb k1b k2b
  go_enter Try.func27, Try.ntmps27
  go_wp2_with fail
  clear hW1 hWb hW2
  go_loopw [5, 6] (fun rv c wr => ∃ (i : Nat) (E : List En) (S : List Nat) (v u : Value), i ≤ M.length ∧ c = .int .i64 i ∧ Wf E ∧ bldF (M.drop i) E S = BB ∧ (∀ x ∈ S, x ≤ E.length) ∧ S.length = i + 1 ∧ E.length ≤ i ∧ RsC wr (W.heap.size + 1) v u ∧ Rus 0 wr v (E.map En.ru) ∧ Lns 0 wr u (lens E) ∧ Ids W.heap.size wr rv S ∧ RsC wr W.heap.size (.slice none 0 0) (.slice none 0 0) ∧ Below W.heap.size W wr) (fun _ c _ => M.length - (intOf c).toNat)
  case atStart => exact ⟨0, [], [0], _, _, by omega, rfl, .nil, HBB.out, by simp, rfl, by simp, K2.out, SlA.nil _ _ _ _ _, SlA.nil _ _ _ _ _, HI.out, K1.out, B2.out⟩
  case round =>
    obtain ⟨i, E, S, v, u, hi, rfl, hwf, hbl, hSb, hSn, hEn, hk2, hR, hL, hI, hk1, hB⟩ := hrel
    obtain ⟨va, vc, rfl⟩ := hR.len
    obtain ⟨ua, uc, rfl⟩ := hL.len
    obtain ⟨ra, rc, rfl⟩ := hI.len
    have hl1 : (E.map En.ru).length = E.length := by simp
    have hl2 : (lens E).length = E.length := by simp [lens]
    rw [hl1] at hk2 hR
    rw [hl2] at hk2 hL
    obtain ⟨nE, hnE⟩ : ∃ n, E.length = n := ⟨_, rfl⟩
    obtain ⟨nS, hnS⟩ : ∃ n, S.length = n := ⟨_, rfl⟩
    rw [hnE] at hk2 hR hL hSb hEn
    rw [hnS] at hI hSn ⊢
    have HWF := Lib.hid hwf; have HBL := Lib.hid hbl; have HSB := Lib.hid hSb; have HB := Lib.hid hB; have HK1 := Lib.hid hk1; have HK2 := Lib.hid hk2; have HR := Lib.hid hR; have HL := Lib.hid hL; have HI := Lib.hid hI; have HNE := Lib.hid hnE; have HNS := Lib.hid hnS; have HSN := Lib.hid hSn
    clear hwf hbl hSb hB hk1 hk2 hR hL hI hnE hnS hl1 hl2 hSn
    by_cases hlt : i < M.length
    · have hlt2 : (i : Int) < (M.length : Int) := by omega
      have hlt3 : (0 : Int) ≤ (i : Int) := by omega
      obtain ⟨a', cap', ha', -, -, hmb, hMi⟩ := H.out
      simp only [Value.slice.injEq] at ha'
      obtain ⟨rfl, -, rfl⟩ := ha'
      obtain ⟨b, rfl, hm⟩ := hMi i hlt
      have hdr : M.drop i = M[i] :: M.drop (i + 1) := List.drop_eq_getElem_cons hlt
      have hml := (hmb _ (List.getElem_mem hlt)).1
      have HBL2 := Lib.hid (show bldF (M[i] :: M.drop (i + 1)) E S = BB by rw [← hdr]; exact HBL.out)
      generalize M[i] = m at *
      have hz0 : ∀ w, Below wr.heap.size wr w → w.cell? ⟨W.heap.size + 1, 0, none⟩ = some (.slice va nE vc) := fun w hw => (RsC.cells (below_block hw HK2.out)).1
      have hz1 : ∀ w, Below wr.heap.size wr w → w.cell? ⟨W.heap.size + 1, 1, none⟩ = some (.slice ua nE uc) := fun w hw => (RsC.cells (below_block hw HK2.out)).2.1
      have x0 : ∀ w, Below wr.heap.size wr w → w.cell? (b.add (i * 5)) = some (.int .i64 m.kind) := fun w hw => (hm.on (Below.after HB.out hw)).1
      have x1 : ∀ w, Below wr.heap.size wr w → w.cell? ⟨(b.add (i * 5)).block, (b.add (i * 5)).off + 1, none⟩ = some (.int .u8 m.letter) := fun w hw => (hm.on (Below.after HB.out hw)).2.1
      have x2 : ∀ w, Below wr.heap.size wr w → w.cell? ⟨(b.add (i * 5)).block, (b.add (i * 5)).off + 2, none⟩ = some (.int .i64 m.left) := fun w hw => (hm.on (Below.after HB.out hw)).2.2.1
      have x3 : ∀ w, Below wr.heap.size wr w → w.cell? ⟨(b.add (i * 5)).block, (b.add (i * 5)).off + 3, none⟩ = some (.int .i64 m.right) := fun w hw => (hm.on (Below.after HB.out hw)).2.2.2.1
      have x4 : ∀ w, Below wr.heap.size wr w → w.cell? ⟨(b.add (i * 5)).block, (b.add (i * 5)).off + 4, none⟩ = some (.int .i64 m.times) := fun w hw => (hm.on (Below.after HB.out hw)).2.2.2.2
      have HONE : Hid (∀ w, Below wr.heap.size wr w → Calls Try.prog 50 #[.agg #[.slice va nE vc, .slice ua nE uc], mkV m, .slice ra nS rc] w (OneP w (((oneF E S m).1.map En.ru, lens (oneF E S m).1), (oneF E S m).2))) := Lib.hid (fun w hw => by
        have hl1 : (E.map En.ru).length = nE := by simp [HNE.out]
        have hl2 : (lens E).length = nE := by simp [lens, HNE.out]
        have hS' := HSN.out
        have h := refOne_any (SlA.below HR.out hw) (SlA.below HL.out hw) (SlA.below HI.out hw) m hml (by rw [hl1, hl2]) (by omega) HWF.out.lens (by rw [HNS.out]; omega) (by rw [HNS.out]; omega) (by rw [hl2]; exact HSB.out)
        rw [one_same HWF.out (by rw [HNE.out]; exact HSB.out)] at h
        exact h)
      have HNX : Hid (Wf (oneF E S m).1 ∧ (oneF E S m).1.length ≤ nE + 1 ∧ nE ≤ (oneF E S m).1.length ∧ (oneF E S m).2 ≤ (oneF E S m).1.length ∧ bldF (M.drop (i + 1)) (oneF E S m).1 (S ++ [(oneF E S m).2]) = BB) := Lib.hid (by
        obtain ⟨q1, q2, q3, q4⟩ := oneF_wf HWF.out (R := S) (by rw [HNE.out]; exact HSB.out) (m := m) hml
        rw [HNE.out] at q2 q3
        exact ⟨q1, q2, q3, q4, HBL2.out⟩)
      generalize oneF E S m = A at *
      obtain ⟨E', id⟩ := A
      dsimp only at HONE HNX
      obtain ⟨wd, hwd⟩ : ∃ w, wr.drew = w := ⟨_, rfl⟩
      have S0 : Below wr.heap.size wr wd := by rw [← hwd]; exact (Below.refl _ _).drew
      clear hmb hMi hdr hml hm
      go_wp2_with fail
      refine wp_region_anyH (Below wr.heap.size wr) (by kernel_rfl) ?_
      rw [hwd]
      clear hwd
      refine AnyH.take (i := 0) (d := some 18) (v := ?_) (by kernel_rfl) rfl rfl HF (fun _ _ _ h => h) (.inl ⟨by rfl, ?_⟩) (by first | assumption | rfl) ?_
      rotate_left
      · intro w hS; try subst hS
        go_simp; try with_reducible rfl
      try simp only [Act.put, List.setIfInBounds_toArray, List.set_cons_zero, List.set_cons_succ]
      refine AnyH.take (i := 1) (d := some 19) (v := ?_) (by kernel_rfl) rfl rfl HF (fun _ _ _ h => h) (.inl ⟨by rfl, ?_⟩) (by first | assumption | rfl) ?_
      rotate_left
      · intro w hS; try subst hS
        go_simp; try with_reducible rfl
      try simp only [Act.put, List.setIfInBounds_toArray, List.set_cons_zero, List.set_cons_succ]
      refine AnyH.take (i := 2) (d := some 20) (v := ?_) (by kernel_rfl) rfl rfl HF (fun _ _ _ h => h) (.inl ⟨by rfl, ?_⟩) (by first | assumption | rfl) ?_
      rotate_left
      · intro w hS; try subst hS
        go_simp; try with_reducible rfl
      try simp only [Act.put, List.setIfInBounds_toArray, List.set_cons_zero, List.set_cons_succ]
      refine AnyH.take (i := 3) (d := some 21) (v := ?_) (by kernel_rfl) rfl rfl HF (fun _ _ _ h => h) (.inl ⟨by rfl, ?_⟩) (by first | assumption | rfl) ?_
      rotate_left
      · intro w hS; try subst hS
        go_simp; try with_reducible rfl
      try simp only [Act.put, List.setIfInBounds_toArray, List.set_cons_zero, List.set_cons_succ]
      refine AnyH.take (i := 4) (d := some 22) (v := ?_) (by kernel_rfl) rfl rfl HF (fun _ _ _ h => h) (.inl ⟨by rfl, ?_⟩) (by first | assumption | rfl) ?_
      rotate_left
      · intro w hS; try subst hS
        go_simp; try with_reducible rfl
      try simp only [Act.put, List.setIfInBounds_toArray, List.set_cons_zero, List.set_cons_succ]
      refine AnyH.take (i := 5) (d := some 23) (v := ?_) (by kernel_rfl) rfl rfl HF (fun _ _ _ h => h) (.inl ⟨by rfl, ?_⟩) (by first | assumption | rfl) ?_
      rotate_left
      · intro w hS; try subst hS
        go_simp; try with_reducible rfl
      try simp only [Act.put, List.setIfInBounds_toArray, List.set_cons_zero, List.set_cons_succ]
      refine AnyH.two (i := 6) (j := 10) (by kernel_rfl) (by kernel_rfl) rfl rfl HF (by rfl) (by rfl) (fun K hK => ?_) (fun K hK => ?_)
      · go_simp
        refine ⟨rfl, callsIn_wide.2 ((HONE.out _ S0).mono ?_)⟩
        rintro e w3 ⟨v', u', rfl, hR', hL', h3⟩
        obtain ⟨va', vc', rfl⟩ := hR'.len
        obtain ⟨ua', uc', rfl⟩ := hL'.len
        have hl1 : (E'.map En.ru).length = E'.length := by simp
        have hl2 : (lens E').length = E'.length := by simp [lens]
        dsimp only at hR' hL' hl1 hl2 ⊢
        rw [hl1] at hR' ⊢
        rw [hl2] at hL' ⊢
        obtain ⟨nE', hnE'⟩ : ∃ n, E'.length = n := ⟨_, rfl⟩
        rw [hnE'] at hR' hL' ⊢
        have S3 := Below.after S0 h3
        refine hK _ _ S3 ?_
        clear hK K
        try simp only [Act.put, List.setIfInBounds_toArray, List.set_cons_zero, List.set_cons_succ]
        have hB10 : RsC (w3.alloc (.cells #[.slice none 0 0, .slice none 0 0] 61)) w3.heap.size (.slice none 0 0) (.slice none 0 0) := heap_new' _ _
        have hb10 : Below w3.heap.size w3 (w3.alloc (.cells #[.slice none 0 0, .slice none 0 0] 61)) := (Below.refl _ _).alloc (Nat.le_refl _) _
        obtain ⟨B, hBe⟩ : ∃ B, w3.heap.size = B := ⟨_, rfl⟩
        have hBn : wr.heap.size ≤ B := by rw [← hBe]; exact S3.size
        obtain ⟨w, hw⟩ : ∃ w, w3.alloc (.cells #[.slice none 0 0, .slice none 0 0] 61) = w := ⟨_, rfl⟩
        rw [hw, hBe] at hB10
        rw [hw] at hb10
        have hS : Below wr.heap.size wr w := Below.after S3 hb10
        have hBx := hB10
        have hR' := SlA.below hR' hb10
        have hL' := SlA.below hL' hb10
        have HS3' := Lib.hid S3
        clear hb10 h3 hB10
        have hBW : W.heap.size + 1 ≠ B := by
          have := (Array.getElem?_eq_some_iff.1 HK2.out).1
          omega
        have hBW0 : W.heap.size ≠ B := by
          have := (Array.getElem?_eq_some_iff.1 HK1.out).1
          omega
        obtain ⟨g0, g1, f0, f1⟩ := hBx.cells
        obtain ⟨w2, hw2⟩ : ∃ z, (w.setCell ⟨B, 0, none⟩ (.slice va' nE' vc')).setCell ⟨B, 1, none⟩ (.slice ua' nE' uc') = z := ⟨_, rfl⟩
        have n2 : RsC w2 B (.slice va' nE' vc') (.slice ua' nE' uc') := by rw [← hw2]; exact hBx.set _ _
        have m2 : RsC w2 (W.heap.size + 1) (.slice va nE vc) (.slice ua nE uc) := by rw [← hw2]; exact RsC.ot (below_block hS HK2.out) hBW _ _
        have l2 : RsC w2 W.heap.size (.slice none 0 0) (.slice none 0 0) := by rw [← hw2]; exact RsC.ot (below_block hS HK1.out) hBW0 _ _
        have kt2 : ∀ t, 61 ≠ t → KeepT t w w2 := fun t ht => by rw [← hw2]; exact hBx.kt _ _ ht
        have S2 : Below wr.heap.size wr w2 := by rw [← hw2]; exact (hS.setCell (p := ⟨B, 0, none⟩) hBn _).setCell (p := ⟨B, 1, none⟩) hBn _
        obtain ⟨p0, p1, -, -⟩ := n2.cells
        obtain ⟨q0, q1, e0, e1⟩ := m2.cells
        obtain ⟨w3, hw3⟩ : ∃ z, (w2.setCell ⟨W.heap.size + 1, 0, none⟩ (.slice va' nE' vc')).setCell ⟨W.heap.size + 1, 1, none⟩ (.slice ua' nE' uc') = z := ⟨_, rfl⟩
        have kt3 : ∀ t, 61 ≠ t → KeepT t w w3 := fun t ht => by rw [← hw3]; exact (kt2 t ht).trans (m2.kt _ _ ht)
        have M3 : Hid (RsC w3 (W.heap.size + 1) (.slice va' nE' vc') (.slice ua' nE' uc')) := Lib.hid (by rw [← hw3]; exact m2.set _ _)
        have L3 : Hid (RsC w3 W.heap.size (.slice none 0 0) (.slice none 0 0)) := Lib.hid (by rw [← hw3]; exact RsC.ot l2 (by omega) _ _)
        have HS3 : Hid (Below W.heap.size W w3) := Lib.hid (by
          rw [← hw3]
          exact ((Below.after HB.out S2).setCell (p := ⟨W.heap.size + 1, 0, none⟩) (by simp) _).setCell (p := ⟨W.heap.size + 1, 1, none⟩) (by simp) _)
        have HR3 : Hid (Rus 0 w3 (.slice va' nE' vc') (E'.map En.ru)) := Lib.hid (SlA.keep hR' (kt3 _ (by decide)))
        have HL3 : Hid (Lns 0 w3 (.slice ua' nE' uc') (lens E')) := Lib.hid (SlA.keep hL' (kt3 _ (by decide)))
        have HI3 : Hid (Ids W.heap.size w3 (.slice ra nS rc) S) := Lib.hid (SlA.keep (SlA.below HI.out hS) (kt3 _ (by decide)))
        have HNE' := Lib.hid hnE'
        clear hR' hL' n2 m2 l2 kt2 kt3 hBx hBW hBW0 hl1 hl2 hnE' hz0 hz1 x0 x1 x2 x3 x4 S0
        refine AnyH.take (i := 7) (d := some 17) (v := ?_) (by kernel_rfl) rfl rfl HF (fun _ _ _ h => h) (.inl ⟨by rfl, ?_⟩) (by first | assumption | rfl) ?_
        rotate_left
        · intro w hS; try subst hS
          go_simp; try with_reducible rfl
        try simp only [Act.put, List.setIfInBounds_toArray, List.set_cons_zero, List.set_cons_succ]
        refine AnyH.take (i := 8) (d := some 25) (v := ?_) (by kernel_rfl) rfl rfl HF (fun _ _ _ h => h) (.inl ⟨by rfl, ?_⟩) (by first | assumption | rfl) ?_
        rotate_left
        · intro w hS; try subst hS
          go_simp; try with_reducible rfl
        try simp only [Act.put, List.setIfInBounds_toArray, List.set_cons_zero, List.set_cons_succ]
        refine AnyH.take (i := 9) (d := some 26) (v := ?_) (by kernel_rfl) rfl rfl HF (fun _ _ _ h => h) (.inl ⟨by rfl, ?_⟩) (by first | assumption | rfl) ?_
        rotate_left
        · intro w hS; try subst hS
          go_simp; try with_reducible rfl
        try simp only [Act.put, List.setIfInBounds_toArray, List.set_cons_zero, List.set_cons_succ]
        refine AnyH.one (i := 10) (by kernel_rfl) (by kernel_rfl) rfl HF (by rfl) (fun K hK => ?_)
        go_simp
        clear hw hBe
        refine hK _ _ hS ?_
        clear hK K
        try simp only [Act.put, List.setIfInBounds_toArray, List.set_cons_zero, List.set_cons_succ]
        refine AnyH.one (i := 11) (by kernel_rfl) (by kernel_rfl) rfl HF (by rfl) (fun K hK => ?_)
        go_simp
        refine hK _ _ S2 ?_
        clear hK K
        try simp only [Act.put, List.setIfInBounds_toArray, List.set_cons_zero, List.set_cons_succ]
        refine AnyH.take (i := 12) (d := some 8) (v := ?_) (by kernel_rfl) rfl rfl HF (fun _ _ _ h => h) (.inl ⟨by rfl, ?_⟩) (by first | assumption | rfl) ?_
        rotate_left
        · intro w hS; try subst hS
          go_simp; try with_reducible rfl
        try simp only [Act.put, List.setIfInBounds_toArray, List.set_cons_zero, List.set_cons_succ]
        refine AnyH.done (by kernel_rfl) ?_
        clear S2 hS
        go_wp2_with (
          at_builtin
          refine wp_app1G (w0 := w3) (enc := encLn) elemId encLn_len rfl _ _ rfl rfl HI3.out id rfl rfl (encLn_one id) (by have := HSN.out; have := HNS.out; omega) HS3.out.size ?_
          intro v5 w5 hS5 hg5 hb5
          have x1 : RsC w5 (W.heap.size + 1) (.slice va' nE' vc') (.slice ua' nE' uc') := app_other HI3.out hg5 M3.out (by decide)
          have HX1 := Lib.hid x1
          have HX2 : Hid (RsC w5 W.heap.size (.slice none 0 0) (.slice none 0 0)) := Lib.hid (app_other HI3.out hg5 L3.out (by decide))
          have HX3 : Hid (Rus 0 w5 (.slice va' nE' vc') (E'.map En.ru)) := Lib.hid (SlA.keep HR3.out (fun k cs fz h => app_other HI3.out hg5 h (by decide)))
          have HX4 : Hid (Lns 0 w5 (.slice ua' nE' uc') (lens E')) := Lib.hid (SlA.keep HL3.out (fun k cs fz h => app_other HI3.out hg5 h (by decide)))
          have HX5 := Lib.hid hS5
          have HX6 := Lib.hid hb5
          clear x1 hS5 hg5 hb5)
        go_roundw
        case rel => exact ⟨i + 1, E', S ++ [id], _, _, by omega, by go_num, HNX.out.1, HNX.out.2.2.2.2, by
          intro x hx
          rcases List.mem_append.1 hx with h | h
          · have h1 := HSB.out x h; have h2 := HNX.out.2.2.1; omega
          · simp only [List.mem_singleton] at h; subst h; exact HNX.out.2.2.2.1, by have h1 := HSN.out; have h2 := HNS.out; simp; omega, by have := HNX.out.2.1; omega, HX1.out, HX3.out, HX4.out, HX5.out, HX2.out, HS3.out.trans HX6.out⟩
        case measure => simp [intOf]; omega
      · go_simp
        have hB10 : RsC (wd.alloc (.cells #[.slice none 0 0, .slice none 0 0] 61)) wd.heap.size (.slice none 0 0) (.slice none 0 0) := heap_new' _ _
        have hb10 : Below wd.heap.size wd (wd.alloc (.cells #[.slice none 0 0, .slice none 0 0] 61)) := (Below.refl _ _).alloc (Nat.le_refl _) _
        have hBn : wr.heap.size ≤ wd.heap.size := S0.size
        obtain ⟨w10, hw⟩ : ∃ w, wd.alloc (.cells #[.slice none 0 0, .slice none 0 0] 61) = w := ⟨_, rfl⟩
        rw [hw] at hB10
        rw [hw] at hb10
        have S1 : Below wr.heap.size wr w10 := Below.after S0 hb10
        have HS1' := Lib.hid S1
        rw [hw]
        clear hw hb10
        refine hK _ _ S1 ?_
        clear hK K
        try simp only [Act.put, List.setIfInBounds_toArray, List.set_cons_zero, List.set_cons_succ]
        refine AnyH.one (i := 6) (by kernel_rfl) (by kernel_rfl) rfl HF (by rfl) (fun K hK => ?_)
        go_simp
        first | ((with_reducible refine And.intro ?hdep ?_); (case hdep => first | rfl | (intro h; cases h))) | skip
        refine callsIn_wide.2 ((HONE.out _ S1).mono ?_)
        rintro e w ⟨v', u', rfl, hR', hL', h3⟩
        obtain ⟨va', vc', rfl⟩ := hR'.len
        obtain ⟨ua', uc', rfl⟩ := hL'.len
        have hl1 : (E'.map En.ru).length = E'.length := by simp
        have hl2 : (lens E').length = E'.length := by simp [lens]
        dsimp only at hR' hL' hl1 hl2 ⊢
        rw [hl1] at hR' ⊢
        rw [hl2] at hL' ⊢
        obtain ⟨nE', hnE'⟩ : ∃ n, E'.length = n := ⟨_, rfl⟩
        rw [hnE'] at hR' hL' ⊢
        have hS : Below wr.heap.size wr w := Below.after S1 h3
        have hBx : RsC w wd.heap.size (.slice none 0 0) (.slice none 0 0) := below_block h3 hB10
        clear h3 hB10
        have hBW : W.heap.size + 1 ≠ wd.heap.size := by
          have := (Array.getElem?_eq_some_iff.1 HK2.out).1
          omega
        have hBW0 : W.heap.size ≠ wd.heap.size := by
          have := (Array.getElem?_eq_some_iff.1 HK1.out).1
          omega
        obtain ⟨g0, g1, f0, f1⟩ := hBx.cells
        obtain ⟨w2, hw2⟩ : ∃ z, (w.setCell ⟨wd.heap.size, 0, none⟩ (.slice va' nE' vc')).setCell ⟨wd.heap.size, 1, none⟩ (.slice ua' nE' uc') = z := ⟨_, rfl⟩
        have n2 : RsC w2 wd.heap.size (.slice va' nE' vc') (.slice ua' nE' uc') := by rw [← hw2]; exact hBx.set _ _
        have m2 : RsC w2 (W.heap.size + 1) (.slice va nE vc) (.slice ua nE uc) := by rw [← hw2]; exact RsC.ot (below_block hS HK2.out) hBW _ _
        have l2 : RsC w2 W.heap.size (.slice none 0 0) (.slice none 0 0) := by rw [← hw2]; exact RsC.ot (below_block hS HK1.out) hBW0 _ _
        have kt2 : ∀ t, 61 ≠ t → KeepT t w w2 := fun t ht => by rw [← hw2]; exact hBx.kt _ _ ht
        have S2 : Below wr.heap.size wr w2 := by rw [← hw2]; exact (hS.setCell (p := ⟨wd.heap.size, 0, none⟩) hBn _).setCell (p := ⟨wd.heap.size, 1, none⟩) hBn _
        obtain ⟨p0, p1, -, -⟩ := n2.cells
        obtain ⟨q0, q1, e0, e1⟩ := m2.cells
        obtain ⟨w3, hw3⟩ : ∃ z, (w2.setCell ⟨W.heap.size + 1, 0, none⟩ (.slice va' nE' vc')).setCell ⟨W.heap.size + 1, 1, none⟩ (.slice ua' nE' uc') = z := ⟨_, rfl⟩
        have kt3 : ∀ t, 61 ≠ t → KeepT t w w3 := fun t ht => by rw [← hw3]; exact (kt2 t ht).trans (m2.kt _ _ ht)
        have M3 : Hid (RsC w3 (W.heap.size + 1) (.slice va' nE' vc') (.slice ua' nE' uc')) := Lib.hid (by rw [← hw3]; exact m2.set _ _)
        have L3 : Hid (RsC w3 W.heap.size (.slice none 0 0) (.slice none 0 0)) := Lib.hid (by rw [← hw3]; exact RsC.ot l2 (by omega) _ _)
        have HS3 : Hid (Below W.heap.size W w3) := Lib.hid (by
          rw [← hw3]
          exact ((Below.after HB.out S2).setCell (p := ⟨W.heap.size + 1, 0, none⟩) (by simp) _).setCell (p := ⟨W.heap.size + 1, 1, none⟩) (by simp) _)
        have HR3 : Hid (Rus 0 w3 (.slice va' nE' vc') (E'.map En.ru)) := Lib.hid (SlA.keep hR' (kt3 _ (by decide)))
        have HL3 : Hid (Lns 0 w3 (.slice ua' nE' uc') (lens E')) := Lib.hid (SlA.keep hL' (kt3 _ (by decide)))
        have HI3 : Hid (Ids W.heap.size w3 (.slice ra nS rc) S) := Lib.hid (SlA.keep (SlA.below HI.out hS) (kt3 _ (by decide)))
        have HNE' := Lib.hid hnE'
        clear hR' hL' n2 m2 l2 kt2 kt3 hBx hBW hBW0 hl1 hl2 hnE' hz0 hz1 x0 x1 x2 x3 x4 S0
        refine hK _ _ hS ?_
        clear hK K
        try simp only [Act.put, List.setIfInBounds_toArray, List.set_cons_zero, List.set_cons_succ]
        refine AnyH.take (i := 7) (d := some 17) (v := ?_) (by kernel_rfl) rfl rfl HF (fun _ _ _ h => h) (.inl ⟨by rfl, ?_⟩) (by first | assumption | rfl) ?_
        rotate_left
        · intro w hS; try subst hS
          go_simp; try with_reducible rfl
        try simp only [Act.put, List.setIfInBounds_toArray, List.set_cons_zero, List.set_cons_succ]
        refine AnyH.take (i := 8) (d := some 25) (v := ?_) (by kernel_rfl) rfl rfl HF (fun _ _ _ h => h) (.inl ⟨by rfl, ?_⟩) (by first | assumption | rfl) ?_
        rotate_left
        · intro w hS; try subst hS
          go_simp; try with_reducible rfl
        try simp only [Act.put, List.setIfInBounds_toArray, List.set_cons_zero, List.set_cons_succ]
        refine AnyH.take (i := 9) (d := some 26) (v := ?_) (by kernel_rfl) rfl rfl HF (fun _ _ _ h => h) (.inl ⟨by rfl, ?_⟩) (by first | assumption | rfl) ?_
        rotate_left
        · intro w hS; try subst hS
          go_simp; try with_reducible rfl
        try simp only [Act.put, List.setIfInBounds_toArray, List.set_cons_zero, List.set_cons_succ]
        refine AnyH.one (i := 11) (by kernel_rfl) (by kernel_rfl) rfl HF (by rfl) (fun K hK => ?_)
        go_simp
        refine hK _ _ S2 ?_
        clear hK K
        try simp only [Act.put, List.setIfInBounds_toArray, List.set_cons_zero, List.set_cons_succ]
        refine AnyH.take (i := 12) (d := some 8) (v := ?_) (by kernel_rfl) rfl rfl HF (fun _ _ _ h => h) (.inl ⟨by rfl, ?_⟩) (by first | assumption | rfl) ?_
        rotate_left
        · intro w hS; try subst hS
          go_simp; try with_reducible rfl
        try simp only [Act.put, List.setIfInBounds_toArray, List.set_cons_zero, List.set_cons_succ]
        refine AnyH.done (by kernel_rfl) ?_
        clear S2 hS
        go_wp2_with (
          at_builtin
          refine wp_app1G (w0 := w3) (enc := encLn) elemId encLn_len rfl _ _ rfl rfl HI3.out id rfl rfl (encLn_one id) (by have := HSN.out; have := HNS.out; omega) HS3.out.size ?_
          intro v5 w5 hS5 hg5 hb5
          have x1 : RsC w5 (W.heap.size + 1) (.slice va' nE' vc') (.slice ua' nE' uc') := app_other HI3.out hg5 M3.out (by decide)
          have HX1 := Lib.hid x1
          have HX2 : Hid (RsC w5 W.heap.size (.slice none 0 0) (.slice none 0 0)) := Lib.hid (app_other HI3.out hg5 L3.out (by decide))
          have HX3 : Hid (Rus 0 w5 (.slice va' nE' vc') (E'.map En.ru)) := Lib.hid (SlA.keep HR3.out (fun k cs fz h => app_other HI3.out hg5 h (by decide)))
          have HX4 : Hid (Lns 0 w5 (.slice ua' nE' uc') (lens E')) := Lib.hid (SlA.keep HL3.out (fun k cs fz h => app_other HI3.out hg5 h (by decide)))
          have HX5 := Lib.hid hS5
          have HX6 := Lib.hid hb5
          clear x1 hS5 hg5 hb5)
        go_roundw
        case rel => exact ⟨i + 1, E', S ++ [id], _, _, by omega, by go_num, HNX.out.1, HNX.out.2.2.2.2, by
          intro x hx
          rcases List.mem_append.1 hx with h | h
          · have h1 := HSB.out x h; have h2 := HNX.out.2.2.1; omega
          · simp only [List.mem_singleton] at h; subst h; exact HNX.out.2.2.2.1, by have h1 := HSN.out; have h2 := HNS.out; simp; omega, by have := HNX.out.2.1; omega, HX1.out, HX3.out, HX4.out, HX5.out, HX2.out, HS3.out.trans HX6.out⟩
        case measure => simp [intOf]; omega
    · have hiM : M.length = i := by omega
      have hge : ¬ (i : Int) < (M.length : Int) := by omega
      have HE : Hid (BB = (E, S)) := Lib.hid (by have h := HBL.out; rw [← hiM, List.drop_length] at h; exact h.symm)
      obtain ⟨z0, z1, -, -⟩ := HK2.out.cells
      obtain ⟨g0, g1, f0, f1⟩ := HK1.out.cells
      obtain ⟨wf, hwf⟩ : ∃ z, (wr.setCell ⟨W.heap.size, 0, none⟩ (.slice va nE vc)).setCell ⟨W.heap.size, 1, none⟩ (.slice ua nE uc) = z := ⟨_, rfl⟩
      have kf : RsC wf W.heap.size (.slice va nE vc) (.slice ua nE uc) := by rw [← hwf]; exact HK1.out.set _ _
      have HKT : Hid (∀ t, 61 ≠ t → KeepT t wr wf) := Lib.hid (fun t ht => by rw [← hwf]; exact HK1.out.kt _ _ ht)
      have HBF : Hid (Below W.heap.size W wf) := Lib.hid (by rw [← hwf]; exact (HB.out.setCell (p := ⟨W.heap.size, 0, none⟩) (Nat.le_refl _) _).setCell (p := ⟨W.heap.size, 1, none⟩) (Nat.le_refl _) _)
      obtain ⟨x0, x1, -, -⟩ := kf.cells
      clear kf hiM
      go_wp2_with fail
      exact bodyPost_ret (v := .tuple #[.agg #[.slice va nE vc, .slice ua nE uc], .slice ra nS rc]) (by simp [results, Try.results27, go_sem, x0, x1]) rfl ⟨_, _, _, rfl, by rw [HE.out]; exact SlA.keep HR.out (HKT.out _ (by decide)), by rw [HE.out]; exact SlA.keep HL.out (HKT.out _ (by decide)), by rw [HE.out]; exact SlA.mono (SlA.keep HI.out (HKT.out _ (by decide))) (Nat.zero_le _), HBF.out⟩
end M
end Go.Proofs.Ytjbllcakaljpgaa
