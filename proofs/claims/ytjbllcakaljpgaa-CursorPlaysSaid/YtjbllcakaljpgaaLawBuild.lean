/- The law's Build: a list of Makes in a store. Printed by store/mklawb.py. -/
import Derived.Test.YtjbllcakaljpgaaRefBuild
namespace Go.Proofs.Ytjbllcakaljpgaa
open Go.RowKit
namespace M
attribute [local go_sem] Oper.semAt_some
theorem bldF_prefix : ∀ (L : List Mk) (E : List En) (R : List Nat) (j : Nat), j < R.length → (bldF L E R).2[j]? = R[j]?
  | [], _, _, _, _ => rfl
  | m :: L, E, R, j, h => by
    show (bldF L _ (R ++ [_])).2[j]? = _
    rw [bldF_prefix L _ _ j (by simp; omega), List.getElem?_append_left h]
/-- A slice of IDs that stands still. -/
def Still (W : World) (g : Nat) (S : List Nat) : Prop := ∃ cs fz, W.heap[g]? = some (.cells cs 26 fz) ∧ ∀ (j x : Nat), S[j]? = some x → cs[j]? = some (.int .i64 x)
theorem Still.below {A B : World} {g : Nat} {S : List Nat} (h : Still A g S) (hb : Below A.heap.size A B) : Still B g S := by
  obtain ⟨cs, fz, h1, h2⟩ := h
  exact ⟨cs, fz, below_block hb h1, h2⟩
theorem Still.base {A B : World} {g n : Nat} {S : List Nat} (h : Still A g S) (hb : Below n A B) (hg : g < n) : Still B g S := by
  obtain ⟨cs, fz, h1, h2⟩ := h
  exact ⟨cs, fz, (hb.block g hg).trans h1, h2⟩
theorem Still.kt {A B : World} {g : Nat} {S : List Nat} (h : Still A g S) (hb : Kt A B) : Still B g S := by
  obtain ⟨cs, fz, h1, h2⟩ := h
  exact ⟨cs, fz, hb _ (by decide) (by decide) _ _ _ h1, h2⟩
theorem Still.cell {A : World} {g : Nat} {S : List Nat} (h : Still A g S) {j x : Nat} (hx : S[j]? = some x) : A.cell? ⟨g, j, none⟩ = some (.int .i64 x) := by
  obtain ⟨cs, fz, h1, h2⟩ := h
  have := h2 j x hx
  simp [World.cell?, h1, this]
theorem Ids.still {B : Nat} {W : World} {v : Value} {S : List Nat} (h : Ids B W v S) (h0 : 0 < S.length) : ∃ g cap, v = .slice (some ⟨g, 0, none⟩) S.length cap ∧ g < W.heap.size ∧ Still W g S := by
  rcases h.2 with ⟨-, hn⟩ | ⟨g, cap, cur, hv, hb, hg, h1, h2, h3, h4⟩
  · omega
  · refine ⟨g, cap, hv, (Array.getElem?_eq_some_iff.1 hg).1, cur, _, hg, fun j x hx => ?_⟩
    have hj := (List.getElem?_eq_some_iff.1 hx).1
    have e := flatMap_get (enc := encLn) (size := 1) encLn_len S j 0 hj (by omega)
    rw [Nat.mul_one, Nat.add_zero] at e
    have hx2 : S[j] = x := by rw [List.getElem?_eq_getElem hj] at hx; exact Option.some.inj hx
    rw [hx2] at e
    have e2 : (S.flatMap encLn)[j]? = some (.int .i64 x) := e
    rw [← h4, List.getElem?_take] at e2
    split at e2
    · simpa using e2
    · cases e2
theorem Ids.kt {B : Nat} {A C : World} {v : Value} {S : List Nat} (h : Ids B A v S) (hb : Kt A C) : Ids B C v S := SlA.keep h (fun _ _ _ hk => hb _ (by decide) (by decide) _ _ _ hk)
theorem MkC.kt {A C : World} {g : Nat} {m : Mk} (h : MkC A g m) (hb : Kt A C) : MkC C g m := hb _ (by decide) (by decide) _ _ _ h
theorem MkC.set {W : World} {g : Nat} {m0 : Mk} (h : MkC W g m0) (m : Mk) : MkC (((((W.setCell ⟨g, 0, none⟩ (.int .i64 m.kind)).setCell ⟨g, 1, none⟩ (.int .u8 m.letter)).setCell ⟨g, 2, none⟩ (.int .i64 m.left)).setCell ⟨g, 3, none⟩ (.int .i64 m.right)).setCell ⟨g, 4, none⟩ (.int .i64 m.times)) g m := by
  unfold MkC at h ⊢
  exact heap_set0 _ (heap_set0 _ (heap_set0 _ (heap_set0 _ (heap_set0 _ h))))
theorem MkC.free {W : World} {g : Nat} {m : Mk} (h : MkC W g m) (i : Nat) : W.frozen? ⟨g, i, none⟩ = false := by
  unfold MkC at h
  simp [World.frozen?, h]
theorem power_none {n0 B most : Nat} {W : World} {E : List En} (h : StAt n0 W B most E) (hwf : Wf E) {l : Nat} (hl : l ≤ E.length) (hroom : E.length < most) (hE : E.length ≤ 1048575) :
    Calls Try.prog 66 #[.pointer (some ⟨B, 0, none⟩), .int .i64 l, .int .i64 0] W fun x w' => x = .returned (.tuple #[.int .i64 (powF E l 0).2.1, errV (powF E l 0).2.2]) ∧ StAt n0 w' B most (powF E l 0).1 ∧ Below n0 W w' ∧ Kt W w' :=
  power_any (k := 0) h hwf hl (by omega) hroom hE
theorem st_app {n0 n1 B most : Nat} {w0 w' : World} {E : List En} {v : Value} {l : List Nat} {cs : Array Value} (hS : Ids n1 w0 v l) (hg : (w0.alloc (.cells cs 26)).grownBy w' v.ownBlock) (h : StAt n0 w0 B most E) : StAt n0 w' B most E := by
  obtain ⟨lv, mb, h1, h2, h3, h4⟩ := h
  refine ⟨lv, mb, app_other hS hg h1 (by decide), SlA.keep h2 (fun k cs fz h => app_other hS hg h (by decide)), ?_, h4⟩
  obtain ⟨es, c, h5, h6⟩ := h3
  exact ⟨es, c, (app_keepsOthers hS hg).same _ _ h5 rfl, h6⟩
/-- What the list makes: the slice of results; the store. -/
def LawB (W0 W : World) (B most : Nat) (A : List En × List Nat) (e : Ending) (w' : World) : Prop := ∃ rv, e = .returned (.tuple #[rv, .bool true]) ∧ Ids 0 w' rv A.2 ∧ StAt W0.heap.size w' B most A.1 ∧ Below W0.heap.size W0 w'
set_option maxRecDepth 100000 in
set_option maxHeartbeats 8000000 in
theorem lawBuild_any {W0 W : World} {B most : Nat} {v : Value} {M : List Mk} (hM : RowMk W0 v M) (hl : M.length ≤ 1000) (hb : Below W0.heap.size W0 W) (h : StAt W0.heap.size W B most []) (hm1 : M.length ≤ most) (hm2 : most ≤ 1048576) :
    Calls Try.prog 38 #[.pointer (some ⟨B, 0, none⟩), v] W (LawB W0 W B most (bldF M [] [0])) := by
  have HF : ∀ f, Fence.wide.fn f := fun _ => trivial
  have HRB := Lib.hid (refBuild_any (hM.below hb) hl)
  have H := Lib.hid hM
  have HB0 := Lib.hid hb
  have HST := Lib.hid h
  obtain ⟨a, cap, rfl, hc1, hc2, -, -⟩ := hM
  unfold maxLen at hc2
  have hBW := bldF_wf M (E := []) (R := [0]) .nil (by simp)
  obtain ⟨BB, hBB⟩ : ∃ A, bldF M [] [0] = A := ⟨_, rfl⟩
  have HBB := Lib.hid hBB
  have hpre := fun j hj => bldF_prefix M [] [0] j hj
  rw [hBB] at HRB hBW
  rw [hBB]
  have HBL0 : Hid (BB.2.length = 1 + M.length) := Lib.hid (by
    obtain ⟨a', cap', ha', -, -, hmb, -⟩ := H.out
    exact (hBW (fun m hm => (hmb m hm).1)).2.2.1)
  clear hBB hBW hpre hb h
  go_enter Try.func38, Try.ntmps38
  go_wp2_with fail
  refine HRB.out.mono ?_
  rintro e w1 ⟨v1, u1, rv1, rfl, hR1, hL1, hI1, hb1⟩
  obtain ⟨va, vc, rfl⟩ := hR1.len
  obtain ⟨ua, uc, rfl⟩ := hL1.len
  obtain ⟨gw, cw, rfl, hgw, hst1⟩ := hI1.still (by have := HBL0.out; omega)
  obtain ⟨n1, hn1⟩ : ∃ n, (BB.1.map En.ru).length = n := ⟨_, rfl⟩
  obtain ⟨n2, hn2⟩ : ∃ n, (lens BB.1).length = n := ⟨_, rfl⟩
  obtain ⟨nw, hnw⟩ : ∃ n, BB.2.length = n := ⟨_, rfl⟩
  rw [hn1, hn2, hnw]
  rw [hnw] at HBL0
  obtain ⟨z, hz⟩ : ∃ z, w1.heap.size = z := ⟨_, rfl⟩
  obtain ⟨Wa, hWa⟩ : ∃ w, w1.alloc (.cells #[.slice none 0 0, .slice none 0 0] 61) = w := ⟨_, rfl⟩
  have ka : RsC Wa z (.slice none 0 0) (.slice none 0 0) := by rw [← hWa, ← hz]; exact heap_new' _ _
  have ba : Below w1.heap.size w1 Wa := by rw [← hWa]; exact (Below.refl _ _).alloc (Nat.le_refl _) _
  obtain ⟨g0, g1, f0, f1⟩ := ka.cells
  obtain ⟨Wb, hWb⟩ : ∃ w, (Wa.setCell ⟨z, 0, none⟩ (.slice va n1 vc)).setCell ⟨z, 1, none⟩ (.slice ua n2 uc) = w := ⟨_, rfl⟩
  have bb : Below w1.heap.size w1 Wb := by rw [← hWb]; exact (ba.setCell (p := ⟨z, 0, none⟩) (by rw [hz]; exact Nat.le_refl _) _).setCell (p := ⟨z, 1, none⟩) (by rw [hz]; exact Nat.le_refl _) _
  have sb : Wb.heap.size = z + 1 := by rw [← hWb, ← hWa]; simp [hz]
  obtain ⟨W2, hW2⟩ : ∃ w, Wb.alloc (.cells #[.int .i64 0] 26) = w := ⟨_, rfl⟩
  have b2 : Below Wb.heap.size Wb W2 := by rw [← hW2]; exact (Below.refl _ _).alloc (Nat.le_refl _) _
  have HI : Hid (Ids (z + 1) W2 (.slice (some ⟨z + 1, 0, none⟩) 1 1) [0]) := Lib.hid (by
    rw [← hW2]
    have := SlA.lit (w := Wb) (l := [0]) (e := 26) encLn_len (cs := #[.int .i64 0]) rfl (by simp; unfold maxLen; omega)
    rw [sb] at this
    exact this)
  have B12 : Below w1.heap.size w1 W2 := Below.after bb b2
  have HSTL : Hid (Still W2 gw BB.2) := Lib.hid (hst1.below B12)
  have HGW : Hid (gw < z + 1) := Lib.hid (by omega)
  have HB2 : Hid (Below W0.heap.size W0 W2) := Lib.hid (Below.after HB0.out (Below.after hb1 B12))
  have HST2 : Hid (StAt W0.heap.size W2 B most []) := Lib.hid (HST.out.below (Below.after hb1 B12))
  have HZ0 : Hid (W0.heap.size ≤ z + 1) := Lib.hid (by have h1 := (Below.after HB0.out hb1).size; omega)
  have HZ : Hid (z + 1 ≤ W2.heap.size) := Lib.hid (by have := b2.size; omega)
  clear hR1 hL1 hI1 hst1 hgw hn1 hn2 hnw ka ba bb b2 B12 hb1
  go_wp2_with fail
  clear hWa hWb hW2 hz sb g0 g1 f0 f1
  go_loopw [8, 22] (fun rv c wr => ∃ (i : Nat) (E : List En) (S : List Nat), i ≤ M.length ∧ c = .int .i64 i ∧ Wf E ∧ bldF (M.drop i) E S = BB ∧ (∀ x ∈ S, x ≤ E.length) ∧ S.length = i + 1 ∧ E.length ≤ i ∧ Ids (z + 1) wr rv S ∧ Still wr gw BB.2 ∧ StAt W0.heap.size wr B most E ∧ Below W0.heap.size W0 wr ∧ z + 1 ≤ wr.heap.size) (fun _ c _ => M.length - (intOf c).toNat)
  case atStart => exact ⟨0, [], [0], by omega, rfl, .nil, HBB.out, by simp, rfl, by simp, HI.out, HSTL.out, HST2.out, HB2.out, HZ.out⟩
  case round =>
    clear HI HSTL HST2 HB2 HZ
    obtain ⟨i, E, S, hi, rfl, hwf, hbl, hSb, hSn, hEn, hI, hSTL, hST, hB, hZ⟩ := hrel
    obtain ⟨ra, rc, rfl⟩ := hI.len
    obtain ⟨nS, hnS⟩ : ∃ n, S.length = n := ⟨_, rfl⟩
    rw [hnS] at hI hSn ⊢
    have HWF := Lib.hid hwf; have HBL := Lib.hid hbl; have HSB := Lib.hid hSb; have HB := Lib.hid hB; have HI := Lib.hid hI; have HNS := Lib.hid hnS; have HSN := Lib.hid hSn; have HSTL := Lib.hid hSTL; have HST := Lib.hid hST; have HZ := Lib.hid hZ; have HEN := Lib.hid hEn
    clear hwf hbl hSb hB hI hnS hSn hSTL hST hZ hEn
    by_cases hlt : i < M.length
    · have hlt2 : (i : Int) < (M.length : Int) := by omega
      have hlt3 : (0 : Int) ≤ (i : Int) := by omega
      obtain ⟨a', cap', ha', -, -, hmb, hMi⟩ := H.out
      simp only [Value.slice.injEq] at ha'
      obtain ⟨rfl, -, rfl⟩ := ha'
      obtain ⟨b, rfl, hm⟩ := hMi i hlt
      have hdr : M.drop i = M[i] :: M.drop (i + 1) := List.drop_eq_getElem_cons hlt
      have hml := (hmb _ (List.getElem_mem hlt))
      have HBL2 := Lib.hid (show bldF (M[i] :: M.drop (i + 1)) E S = BB by rw [← hdr]; exact HBL.out)
      generalize M[i] = m at *
      obtain ⟨x0, x1, x2, x3, x4⟩ := hm.on HB.out
      have HNX : Hid (Wf (oneF E S m).1 ∧ (oneF E S m).1.length ≤ E.length + 1 ∧ E.length ≤ (oneF E S m).1.length ∧ (oneF E S m).2 ≤ (oneF E S m).1.length ∧ bldF (M.drop (i + 1)) (oneF E S m).1 (S ++ [(oneF E S m).2]) = BB ∧ BB.2[i + 1]? = some (oneF E S m).2) := Lib.hid (by
        obtain ⟨q1, q2, q3, q4⟩ := oneF_wf HWF.out (R := S) HSB.out (m := m) hml.1
        refine ⟨q1, q2, q3, q4, HBL2.out, ?_⟩
        have hp := bldF_prefix (M.drop (i + 1)) (oneF E S m).1 (S ++ [(oneF E S m).2]) (i + 1) (by have := HSN.out; have := HNS.out; simp; omega)
        rw [show bldF (M.drop (i + 1)) (oneF E S m).1 (S ++ [(oneF E S m).2]) = BB from HBL2.out] at hp
        rw [hp]
        have : i + 1 = S.length := by have := HSN.out; have := HNS.out; omega
        rw [this]
        simp)
      obtain ⟨A, hA⟩ : ∃ A, oneF E S m = A := ⟨_, rfl⟩
      have HA := Lib.hid hA
      rw [hA] at HNX
      obtain ⟨E', id⟩ := A
      dsimp only at HNX
      -- the round's copy of the Make
      obtain ⟨gm, hgm⟩ : ∃ g, wr.heap.size = g := ⟨_, rfl⟩
      obtain ⟨Wm, hWm⟩ : ∃ w, wr.alloc (.cells #[.int .i64 0, .int .u8 0, .int .i64 0, .int .i64 0, .int .i64 0] 105) = w := ⟨_, rfl⟩
      have km : MkC Wm gm ⟨0, 0, 0, 0, 0⟩ := by rw [← hWm, ← hgm]; exact heap_new' _ _
      have bm : Below wr.heap.size wr Wm := by rw [← hWm]; exact (Below.refl _ _).alloc (Nat.le_refl _) _
      obtain ⟨c0, c1, c2, c3, c4⟩ : Wm.cell? ⟨gm, 0, none⟩ = some (.int .i64 0) ∧ Wm.cell? ⟨gm, 1, none⟩ = some (.int .u8 0) ∧ Wm.cell? ⟨gm, 2, none⟩ = some (.int .i64 0) ∧ Wm.cell? ⟨gm, 3, none⟩ = some (.int .i64 0) ∧ Wm.cell? ⟨gm, 4, none⟩ = some (.int .i64 0) := km.cells
      have y0 := km.free 0; have y1 := km.free 1; have y2 := km.free 2; have y3 := km.free 3; have y4 := km.free 4
      obtain ⟨w2, hw2⟩ : ∃ w, ((((Wm.setCell ⟨gm, 0, none⟩ (.int .i64 m.kind)).setCell ⟨gm, 1, none⟩ (.int .u8 m.letter)).setCell ⟨gm, 2, none⟩ (.int .i64 m.left)).setCell ⟨gm, 3, none⟩ (.int .i64 m.right)).setCell ⟨gm, 4, none⟩ (.int .i64 m.times) = w := ⟨_, rfl⟩
      have km2 : MkC w2 gm m := by rw [← hw2]; exact km.set m
      have bw2 : Below wr.heap.size wr w2 := by
        rw [← hw2]
        exact ((((bm.setCell (p := ⟨gm, 0, none⟩) (by rw [hgm]; exact Nat.le_refl _) _).setCell (p := ⟨gm, 1, none⟩) (by rw [hgm]; exact Nat.le_refl _) _).setCell (p := ⟨gm, 2, none⟩) (by rw [hgm]; exact Nat.le_refl _) _).setCell (p := ⟨gm, 3, none⟩) (by rw [hgm]; exact Nat.le_refl _) _).setCell (p := ⟨gm, 4, none⟩) (by rw [hgm]; exact Nat.le_refl _) _
      have KM2 := Lib.hid km2; have BW2 := Lib.hid bw2
      have hS0 : 0 < S.length := by have := HSN.out; have := HNS.out; omega
      have hSl : nS ≤ 1000000 := by have := HSN.out; omega
      have ha := pk_lt m.left hS0
      have hb := pk_lt m.right hS0
      obtain ⟨g, cap2, hsv, -, -, hc⟩ := HI.out.at ha
      simp only [Value.slice.injEq] at hsv
      obtain ⟨rfl, -, rfl⟩ := hsv
      have ca0 : ∀ w, Below w2.heap.size w2 w → w.cell? ⟨g, pk m.left S.length, none⟩ = some (.int .i64 S[pk m.left S.length]) := fun w hw => hc w (Below.after BW2.out hw) _ ha
      have cb0 : ∀ w, Below w2.heap.size w2 w → w.cell? ⟨g, pk m.right S.length, none⟩ = some (.int .i64 S[pk m.right S.length]) := fun w hw => hc w (Below.after BW2.out hw) _ hb
      have HA0 : Hid (resAt S m.left = S[pk m.left S.length]) := Lib.hid (by unfold resAt; rw [List.getElem?_eq_getElem ha]; rfl)
      have HB0' : Hid (resAt S m.right = S[pk m.right S.length]) := Lib.hid (by unfold resAt; rw [List.getElem?_eq_getElem hb]; rfl)
      have hxl := HSB.out _ (List.getElem_mem ha)
      have hxr := HSB.out _ (List.getElem_mem hb)
      obtain ⟨l, hl0⟩ : ∃ l, resAt S m.left = l := ⟨_, rfl⟩
      obtain ⟨r, hr0⟩ : ∃ r, resAt S m.right = r := ⟨_, rfl⟩
      simp only [← HA0.out, hl0] at ca0 hxl
      simp only [← HB0'.out, hr0] at cb0 hxr
      have HOF : Hid ((if pk m.kind 4 = 0 then addF E (letE m.letter) else if pk m.kind 4 = 3 then ((powF E l (max m.times 0).toNat).1, (powF E l (max m.times 0).toNat).2.1) else ((pairF E l r).1, (pairF E l r).2.1)) = (E', id)) := Lib.hid (by rw [← HA.out]; unfold oneF; rw [hl0, hr0])
      have pa := pk_cast m.left hS0
      have pb := pk_cast m.right hS0
      have pc := pk_cast m.kind (show 0 < 4 by omega)
      have hkd := pk_lt m.kind (show 0 < 4 by omega)
      rw [HNS.out] at pa pb ca0 cb0 ha hb hS0
      obtain ⟨kd, lt, lf, rt, tm⟩ := m
      dsimp only at *
      generalize pk lf nS = ii at *
      generalize pk rt nS = jj at *
      generalize pk kd 4 = k at *
      have PA := Lib.hid pa; have PB := Lib.hid pb; have PC := Lib.hid pc
      have ha3 : (ii : Int) < (nS : Int) := by omega
      have hb3 : (jj : Int) < (nS : Int) := by omega
      have HXL := Lib.hid hxl; have HXR := Lib.hid hxr; have HML := Lib.hid hml
      have m0 : ∀ w, Below w2.heap.size w2 w → w.cell? ⟨gm, 0, none⟩ = some (.int .i64 kd) := fun w hw => (MkC.cells (below_block hw KM2.out)).1
      have m1 : ∀ w, Below w2.heap.size w2 w → w.cell? ⟨gm, 1, none⟩ = some (.int .u8 lt) := fun w hw => (MkC.cells (below_block hw KM2.out)).2.1
      have m2 : ∀ w, Below w2.heap.size w2 w → w.cell? ⟨gm, 2, none⟩ = some (.int .i64 lf) := fun w hw => (MkC.cells (below_block hw KM2.out)).2.2.1
      have m3 : ∀ w, Below w2.heap.size w2 w → w.cell? ⟨gm, 3, none⟩ = some (.int .i64 rt) := fun w hw => (MkC.cells (below_block hw KM2.out)).2.2.2.1
      have m4 : ∀ w, Below w2.heap.size w2 w → w.cell? ⟨gm, 4, none⟩ = some (.int .i64 tm) := fun w hw => (MkC.cells (below_block hw KM2.out)).2.2.2.2
      have HS0 := Lib.hid hS0
      obtain ⟨wd, hwd⟩ : ∃ w, w2.drew = w := ⟨_, rfl⟩
      have S0 : Below w2.heap.size w2 wd := by rw [← hwd]; exact (Below.refl _ _).drew
      clear hmb hMi hdr hm hc HA0 HB0' hl0 hr0 pa pb pc km km2 bm bw2 hA ha hb hxl hxr hml
      have HIDW : Hid (IntKind.i64.wrap ((i : Int) + 1) = ((i + 1 : Nat) : Int)) := Lib.hid (by rw [IntKind.wrap_i64]; omega)
      have HAPP : Hid ((S.length + 1) * 8 ≤ 140737488355328) := Lib.hid (by have := HSN.out; have := HNS.out; omega)
      have hi1 : ((i + 1 : Nat) : Int) < (nw : Int) := by have := HBL0.out; omega
      by_cases h0 : k = 0
      · have h0i : ((k : Int) == 0) = true := by simp [h0]
        have HE : Hid ((addF E (letE lt)).1 = E' ∧ (addF E (letE lt)).2 = id) := Lib.hid (by have h := HOF.out; rw [if_pos h0] at h; rw [h]; exact ⟨rfl, rfl⟩)
        clear h0
        go_wp2_with fail
        clear hWm hw2 c0 c1 c2 c3 c4 y0 y1 y2 y3 y4 x0 x1 x2 x3 x4
        refine wp_region_anyH (Below w2.heap.size w2) (by kernel_rfl) ?_
        rw [hwd]
        clear hwd
        refine AnyH.take (i := 0) (d := some 27) (v := ?_) (by kernel_rfl) rfl rfl HF (fun _ _ _ h => h) (.inl ⟨by rfl, ?_⟩) (by first | assumption | rfl) ?_
        rotate_left
        · intro w hS; try subst hS
          go_simp; try with_reducible rfl
        try simp only [Act.put, List.setIfInBounds_toArray, List.set_cons_zero, List.set_cons_succ]
        refine AnyH.take (i := 1) (d := some 28) (v := ?_) (by kernel_rfl) rfl rfl HF (fun _ _ _ h => h) (.inl ⟨by rfl, ?_⟩) (by first | assumption | rfl) ?_
        rotate_left
        · intro w hS; try subst hS
          go_simp; try with_reducible rfl
        try simp only [Act.put, List.setIfInBounds_toArray, List.set_cons_zero, List.set_cons_succ]
        refine AnyH.take (i := 2) (d := some 29) (v := ?_) (by kernel_rfl) rfl rfl HF (fun _ _ _ h => h) (.inl ⟨by rfl, ?_⟩) (by first | assumption | rfl) ?_
        rotate_left
        · intro w hS; try subst hS
          go_simp; try with_reducible rfl
        try simp only [Act.put, List.setIfInBounds_toArray, List.set_cons_zero, List.set_cons_succ]
        refine AnyH.take (i := 3) (d := some 30) (v := ?_) (by kernel_rfl) rfl rfl HF (fun _ _ _ h => h) (.inl ⟨by rfl, ?_⟩) (by first | assumption | rfl) ?_
        rotate_left
        · intro w hS; try subst hS
          go_simp; try with_reducible rfl
        try simp only [Act.put, List.setIfInBounds_toArray, List.set_cons_zero, List.set_cons_succ]
        refine AnyH.take (i := 4) (d := some 31) (v := ?_) (by kernel_rfl) rfl rfl HF (fun _ _ _ h => h) (.inl ⟨by rfl, ?_⟩) (by first | assumption | rfl) ?_
        rotate_left
        · intro w hS; try subst hS
          go_simp; try with_reducible rfl
        try simp only [Act.put, List.setIfInBounds_toArray, List.set_cons_zero, List.set_cons_succ]
        refine AnyH.take (i := 8) (d := some 35) (v := ?_) (by kernel_rfl) rfl rfl HF (fun _ _ _ h => h) (.inl ⟨by rfl, ?_⟩) (by first | assumption | rfl) ?_
        rotate_left
        · intro w hS; try subst hS
          go_simp; try with_reducible rfl
        try simp only [Act.put, List.setIfInBounds_toArray, List.set_cons_zero, List.set_cons_succ]
        refine AnyH.take (i := 9) (d := some 36) (v := ?_) (by kernel_rfl) rfl rfl HF (fun _ _ _ h => h) (.inl ⟨by rfl, ?_⟩) (by first | assumption | rfl) ?_
        rotate_left
        · intro w hS; try subst hS
          go_simp; try with_reducible rfl
        try simp only [Act.put, List.setIfInBounds_toArray, List.set_cons_zero, List.set_cons_succ]
        refine AnyH.take (i := 10) (d := some 37) (v := ?_) (by kernel_rfl) rfl rfl HF (fun _ _ _ h => h) (.inl ⟨by rfl, ?_⟩) (by first | assumption | rfl) ?_
        rotate_left
        · intro w hS; try subst hS
          go_simp; try with_reducible rfl
        try simp only [Act.put, List.setIfInBounds_toArray, List.set_cons_zero, List.set_cons_succ]
        refine AnyH.take (i := 11) (d := some 38) (v := ?_) (by kernel_rfl) rfl rfl HF (fun _ _ _ h => h) (.inl ⟨by rfl, ?_⟩) (by first | assumption | rfl) ?_
        rotate_left
        · intro w hS; try subst hS
          go_simp; try with_reducible rfl
        try simp only [Act.put, List.setIfInBounds_toArray, List.set_cons_zero, List.set_cons_succ]
        refine AnyH.take (i := 12) (d := some 39) (v := ?_) (by kernel_rfl) rfl rfl HF (fun _ _ _ h => h) (.inl ⟨by rfl, ?_⟩) (by first | assumption | rfl) ?_
        rotate_left
        · intro w hS; try subst hS
          go_simp; try with_reducible rfl
        try simp only [Act.put, List.setIfInBounds_toArray, List.set_cons_zero, List.set_cons_succ]
        refine AnyH.one (i := 5) (by kernel_rfl) (by kernel_rfl) rfl HF (by rfl) (fun K hK => ?_)
        go_simp
        first | ((with_reducible refine And.intro ?hdep ?_); (case hdep => first | rfl | (intro h; cases h))) | skip
        refine callsIn_wide.2 ((pick_any wd lf nS HS0.out hSl).mono ?_)
        rintro e w ⟨rfl, h⟩; rw [h, PA.out]; clear h w
        refine hK _ _ S0 ?_
        clear hK K
        try simp only [Act.put, List.setIfInBounds_toArray, List.set_cons_zero, List.set_cons_succ]
        refine AnyH.take (i := 6) (d := some 33) (v := ?_) (by kernel_rfl) rfl rfl HF (fun _ _ _ h => h) (.inl ⟨by rfl, ?_⟩) (by first | assumption | rfl) ?_
        rotate_left
        · intro w hS; try subst hS
          go_simp; try with_reducible rfl
        try simp only [Act.put, List.setIfInBounds_toArray, List.set_cons_zero, List.set_cons_succ]
        refine AnyH.take (i := 7) (d := some 34) (v := ?_) (by kernel_rfl) rfl rfl HF (fun _ _ _ h => h) (.inl ⟨by rfl, ?_⟩) (by first | assumption | rfl) ?_
        rotate_left
        · intro w hS; try subst hS
          go_simp; try with_reducible rfl
        try simp only [Act.put, List.setIfInBounds_toArray, List.set_cons_zero, List.set_cons_succ]
        refine AnyH.one (i := 13) (by kernel_rfl) (by kernel_rfl) rfl HF (by rfl) (fun K hK => ?_)
        go_simp
        first | ((with_reducible refine And.intro ?hdep ?_); (case hdep => first | rfl | (intro h; cases h))) | skip
        refine callsIn_wide.2 ((pick_any wd rt nS HS0.out hSl).mono ?_)
        rintro e w ⟨rfl, h⟩; rw [h, PB.out]; clear h w
        refine hK _ _ S0 ?_
        clear hK K
        try simp only [Act.put, List.setIfInBounds_toArray, List.set_cons_zero, List.set_cons_succ]
        refine AnyH.take (i := 14) (d := some 41) (v := ?_) (by kernel_rfl) rfl rfl HF (fun _ _ _ h => h) (.inl ⟨by rfl, ?_⟩) (by first | assumption | rfl) ?_
        rotate_left
        · intro w hS; try subst hS
          go_simp; try with_reducible rfl
        try simp only [Act.put, List.setIfInBounds_toArray, List.set_cons_zero, List.set_cons_succ]
        refine AnyH.take (i := 15) (d := some 42) (v := ?_) (by kernel_rfl) rfl rfl HF (fun _ _ _ h => h) (.inl ⟨by rfl, ?_⟩) (by first | assumption | rfl) ?_
        rotate_left
        · intro w hS; try subst hS
          go_simp; try with_reducible rfl
        try simp only [Act.put, List.setIfInBounds_toArray, List.set_cons_zero, List.set_cons_succ]
        refine AnyH.take (i := 16) (d := some 11) (v := ?_) (by kernel_rfl) rfl rfl HF (fun _ _ _ h => h) (.inl ⟨by rfl, ?_⟩) (by first | assumption | rfl) ?_
        rotate_left
        · intro w hS; try subst hS
          go_simp; try with_reducible rfl
        try simp only [Act.put, List.setIfInBounds_toArray, List.set_cons_zero, List.set_cons_succ]
        refine AnyH.take (i := 17) (d := some 12) (v := ?_) (by kernel_rfl) rfl rfl HF (fun _ _ _ h => h) (.inl ⟨by rfl, ?_⟩) (by first | assumption | rfl) ?_
        rotate_left
        · intro w hS; try subst hS
          go_simp; try with_reducible rfl
        try simp only [Act.put, List.setIfInBounds_toArray, List.set_cons_zero, List.set_cons_succ]
        refine AnyH.done (by kernel_rfl) ?_
        have HSd := Lib.hid S0
        have v0 := m0 wd S0
        have v1 := m1 wd S0
        have v4 := m4 wd S0
        clear m0 m1 m2 m3 m4 ca0 cb0
        go_wp2_with fail
        refine (pick_any _ kd 4 (by omega) (by omega)).mono ?_; rintro e w ⟨rfl, h⟩; rw [h, PC.out]; clear h w
        go_wp2_with fail
        refine (letter_any (HST.out.below (Below.after BW2.out HSd.out)) lt HML.out.1 (by have := HEN.out; omega) (by have := HEN.out; omega)).mono ?_
        rintro x w6 ⟨rfl, st6, b6, k6⟩
        have HST6 : Hid (StAt W0.heap.size w6 B most E') := Lib.hid (by have := HE.out; rw [← show (addF E (letE lt)).1 = E' from this.1]; exact st6)
        rw [show (addF E (letE lt)).2 = id from HE.out.2]
        have HB6 : Hid (Below W0.heap.size W0 w6) := Lib.hid ((Below.after HB.out (Below.after BW2.out HSd.out)).trans b6)
        have HI6 : Hid (Ids (z + 1) w6 (.slice (some ⟨g, 0, none⟩) nS rc) S) := Lib.hid (Ids.kt (SlA.below HI.out (Below.after BW2.out HSd.out)) k6)
        have HSTL6 : Hid (Still w6 gw BB.2) := Lib.hid ((HSTL.out.below (Below.after BW2.out HSd.out)).kt k6)
        have HZ6 : Hid (z + 1 ≤ w6.heap.size) := Lib.hid (by have h1 := HZ.out; have h2 := (Below.after BW2.out HSd.out).size; have h3 := b6.size; omega)
        have cw := Still.cell HSTL6.out HNX.out.2.2.2.2.2
        clear st6 b6 k6 v0 v1 v4 S0
        have hidw := HIDW.out
        go_wp2_with (
          at_builtin
          refine wp_app1G (w0 := w6) (enc := encLn) elemId encLn_len rfl _ _ rfl rfl HI6.out id rfl rfl (encLn_one id) HAPP.out HZ6.out ?_
          intro v5 w5 hS5 hg5 hb5
          have HX1 : Hid (Still w5 gw BB.2) := Lib.hid (HSTL6.out.base hb5 HGW.out)
          have HX2 : Hid (StAt W0.heap.size w5 B most E') := Lib.hid (st_app HI6.out hg5 HST6.out)
          have HX3 := Lib.hid hS5
          have HX4 : Hid (Below W0.heap.size W0 w5) := Lib.hid (HB6.out.trans (hb5.mono HZ0.out))
          have HX5 : Hid (z + 1 ≤ w5.heap.size) := Lib.hid (Nat.le_trans HZ6.out hb5.size)
          clear hS5 hg5 hb5)
        clear hidw
        go_roundw
        case rel => exact ⟨i + 1, E', S ++ [id], by omega, by go_num, HNX.out.1, HNX.out.2.2.2.2.1, by
          intro x hx
          rcases List.mem_append.1 hx with h | h
          · have h1 := HSB.out x h; have h2 := HNX.out.2.2.1; omega
          · simp only [List.mem_singleton] at h; subst h; exact HNX.out.2.2.2.1, by have h1 := HSN.out; have h2 := HNS.out; simp; omega, by have := HNX.out.2.1; have := HEN.out; omega, HX3.out, HX1.out, HX2.out, HX4.out, HX5.out⟩
        case measure => simp [intOf]; omega
      · have h0i : ((k : Int) == 0) = false := by simp [h0]
        by_cases h3 : k = 3
        · have h3i : ((k : Int) == 3) = true := by simp [h3]
          by_cases htm : tm < 0
          · have HE : Hid ((powF E l 0).1 = E' ∧ (powF E l 0).2.1 = id) := Lib.hid (by have h := HOF.out; rw [if_neg h0, if_pos h3, show (max tm 0).toNat = 0 by omega] at h; simp only [Prod.mk.injEq] at h; exact h)
            clear h0 h3
            go_wp2_with fail
            clear hWm hw2 c0 c1 c2 c3 c4 y0 y1 y2 y3 y4 x0 x1 x2 x3 x4
            refine wp_region_anyH (Below w2.heap.size w2) (by kernel_rfl) ?_
            rw [hwd]
            clear hwd
            refine AnyH.take (i := 0) (d := some 27) (v := ?_) (by kernel_rfl) rfl rfl HF (fun _ _ _ h => h) (.inl ⟨by rfl, ?_⟩) (by first | assumption | rfl) ?_
            rotate_left
            · intro w hS; try subst hS
              go_simp; try with_reducible rfl
            try simp only [Act.put, List.setIfInBounds_toArray, List.set_cons_zero, List.set_cons_succ]
            refine AnyH.take (i := 1) (d := some 28) (v := ?_) (by kernel_rfl) rfl rfl HF (fun _ _ _ h => h) (.inl ⟨by rfl, ?_⟩) (by first | assumption | rfl) ?_
            rotate_left
            · intro w hS; try subst hS
              go_simp; try with_reducible rfl
            try simp only [Act.put, List.setIfInBounds_toArray, List.set_cons_zero, List.set_cons_succ]
            refine AnyH.take (i := 2) (d := some 29) (v := ?_) (by kernel_rfl) rfl rfl HF (fun _ _ _ h => h) (.inl ⟨by rfl, ?_⟩) (by first | assumption | rfl) ?_
            rotate_left
            · intro w hS; try subst hS
              go_simp; try with_reducible rfl
            try simp only [Act.put, List.setIfInBounds_toArray, List.set_cons_zero, List.set_cons_succ]
            refine AnyH.take (i := 3) (d := some 30) (v := ?_) (by kernel_rfl) rfl rfl HF (fun _ _ _ h => h) (.inl ⟨by rfl, ?_⟩) (by first | assumption | rfl) ?_
            rotate_left
            · intro w hS; try subst hS
              go_simp; try with_reducible rfl
            try simp only [Act.put, List.setIfInBounds_toArray, List.set_cons_zero, List.set_cons_succ]
            refine AnyH.take (i := 4) (d := some 31) (v := ?_) (by kernel_rfl) rfl rfl HF (fun _ _ _ h => h) (.inl ⟨by rfl, ?_⟩) (by first | assumption | rfl) ?_
            rotate_left
            · intro w hS; try subst hS
              go_simp; try with_reducible rfl
            try simp only [Act.put, List.setIfInBounds_toArray, List.set_cons_zero, List.set_cons_succ]
            refine AnyH.take (i := 8) (d := some 35) (v := ?_) (by kernel_rfl) rfl rfl HF (fun _ _ _ h => h) (.inl ⟨by rfl, ?_⟩) (by first | assumption | rfl) ?_
            rotate_left
            · intro w hS; try subst hS
              go_simp; try with_reducible rfl
            try simp only [Act.put, List.setIfInBounds_toArray, List.set_cons_zero, List.set_cons_succ]
            refine AnyH.take (i := 9) (d := some 36) (v := ?_) (by kernel_rfl) rfl rfl HF (fun _ _ _ h => h) (.inl ⟨by rfl, ?_⟩) (by first | assumption | rfl) ?_
            rotate_left
            · intro w hS; try subst hS
              go_simp; try with_reducible rfl
            try simp only [Act.put, List.setIfInBounds_toArray, List.set_cons_zero, List.set_cons_succ]
            refine AnyH.take (i := 10) (d := some 37) (v := ?_) (by kernel_rfl) rfl rfl HF (fun _ _ _ h => h) (.inl ⟨by rfl, ?_⟩) (by first | assumption | rfl) ?_
            rotate_left
            · intro w hS; try subst hS
              go_simp; try with_reducible rfl
            try simp only [Act.put, List.setIfInBounds_toArray, List.set_cons_zero, List.set_cons_succ]
            refine AnyH.take (i := 11) (d := some 38) (v := ?_) (by kernel_rfl) rfl rfl HF (fun _ _ _ h => h) (.inl ⟨by rfl, ?_⟩) (by first | assumption | rfl) ?_
            rotate_left
            · intro w hS; try subst hS
              go_simp; try with_reducible rfl
            try simp only [Act.put, List.setIfInBounds_toArray, List.set_cons_zero, List.set_cons_succ]
            refine AnyH.take (i := 12) (d := some 39) (v := ?_) (by kernel_rfl) rfl rfl HF (fun _ _ _ h => h) (.inl ⟨by rfl, ?_⟩) (by first | assumption | rfl) ?_
            rotate_left
            · intro w hS; try subst hS
              go_simp; try with_reducible rfl
            try simp only [Act.put, List.setIfInBounds_toArray, List.set_cons_zero, List.set_cons_succ]
            refine AnyH.one (i := 5) (by kernel_rfl) (by kernel_rfl) rfl HF (by rfl) (fun K hK => ?_)
            go_simp
            first | ((with_reducible refine And.intro ?hdep ?_); (case hdep => first | rfl | (intro h; cases h))) | skip
            refine callsIn_wide.2 ((pick_any wd lf nS HS0.out hSl).mono ?_)
            rintro e w ⟨rfl, h⟩; rw [h, PA.out]; clear h w
            refine hK _ _ S0 ?_
            clear hK K
            try simp only [Act.put, List.setIfInBounds_toArray, List.set_cons_zero, List.set_cons_succ]
            refine AnyH.take (i := 6) (d := some 33) (v := ?_) (by kernel_rfl) rfl rfl HF (fun _ _ _ h => h) (.inl ⟨by rfl, ?_⟩) (by first | assumption | rfl) ?_
            rotate_left
            · intro w hS; try subst hS
              go_simp; try with_reducible rfl
            try simp only [Act.put, List.setIfInBounds_toArray, List.set_cons_zero, List.set_cons_succ]
            refine AnyH.take (i := 7) (d := some 34) (v := ?_) (by kernel_rfl) rfl rfl HF (fun _ _ _ h => h) (.inl ⟨by rfl, ?_⟩) (by first | assumption | rfl) ?_
            rotate_left
            · intro w hS; try subst hS
              go_simp; try with_reducible rfl
            try simp only [Act.put, List.setIfInBounds_toArray, List.set_cons_zero, List.set_cons_succ]
            refine AnyH.one (i := 13) (by kernel_rfl) (by kernel_rfl) rfl HF (by rfl) (fun K hK => ?_)
            go_simp
            first | ((with_reducible refine And.intro ?hdep ?_); (case hdep => first | rfl | (intro h; cases h))) | skip
            refine callsIn_wide.2 ((pick_any wd rt nS HS0.out hSl).mono ?_)
            rintro e w ⟨rfl, h⟩; rw [h, PB.out]; clear h w
            refine hK _ _ S0 ?_
            clear hK K
            try simp only [Act.put, List.setIfInBounds_toArray, List.set_cons_zero, List.set_cons_succ]
            refine AnyH.take (i := 14) (d := some 41) (v := ?_) (by kernel_rfl) rfl rfl HF (fun _ _ _ h => h) (.inl ⟨by rfl, ?_⟩) (by first | assumption | rfl) ?_
            rotate_left
            · intro w hS; try subst hS
              go_simp; try with_reducible rfl
            try simp only [Act.put, List.setIfInBounds_toArray, List.set_cons_zero, List.set_cons_succ]
            refine AnyH.take (i := 15) (d := some 42) (v := ?_) (by kernel_rfl) rfl rfl HF (fun _ _ _ h => h) (.inl ⟨by rfl, ?_⟩) (by first | assumption | rfl) ?_
            rotate_left
            · intro w hS; try subst hS
              go_simp; try with_reducible rfl
            try simp only [Act.put, List.setIfInBounds_toArray, List.set_cons_zero, List.set_cons_succ]
            refine AnyH.take (i := 16) (d := some 11) (v := ?_) (by kernel_rfl) rfl rfl HF (fun _ _ _ h => h) (.inl ⟨by rfl, ?_⟩) (by first | assumption | rfl) ?_
            rotate_left
            · intro w hS; try subst hS
              go_simp; try with_reducible rfl
            try simp only [Act.put, List.setIfInBounds_toArray, List.set_cons_zero, List.set_cons_succ]
            refine AnyH.take (i := 17) (d := some 12) (v := ?_) (by kernel_rfl) rfl rfl HF (fun _ _ _ h => h) (.inl ⟨by rfl, ?_⟩) (by first | assumption | rfl) ?_
            rotate_left
            · intro w hS; try subst hS
              go_simp; try with_reducible rfl
            try simp only [Act.put, List.setIfInBounds_toArray, List.set_cons_zero, List.set_cons_succ]
            refine AnyH.done (by kernel_rfl) ?_
            have HSd := Lib.hid S0
            have v0 := m0 wd S0
            have v1 := m1 wd S0
            have v4 := m4 wd S0
            clear m0 m1 m2 m3 m4 ca0 cb0
            go_wp2_with fail
            refine (pick_any _ kd 4 (by omega) (by omega)).mono ?_; rintro e w ⟨rfl, h⟩; rw [h, PC.out]; clear h w
            go_wp2_with fail
            refine (power_none (HST.out.below (Below.after BW2.out HSd.out)) HWF.out HXL.out (by have := HEN.out; omega) (by have := HEN.out; omega)).mono ?_
            rintro x w6 ⟨rfl, st6, b6, k6⟩
            have HST6 : Hid (StAt W0.heap.size w6 B most E') := Lib.hid (by have := HE.out; rw [← show (powF E l 0).1 = E' from this.1]; exact st6)
            rw [show (powF E l 0).2.1 = id from HE.out.2]
            have HB6 : Hid (Below W0.heap.size W0 w6) := Lib.hid ((Below.after HB.out (Below.after BW2.out HSd.out)).trans b6)
            have HI6 : Hid (Ids (z + 1) w6 (.slice (some ⟨g, 0, none⟩) nS rc) S) := Lib.hid (Ids.kt (SlA.below HI.out (Below.after BW2.out HSd.out)) k6)
            have HSTL6 : Hid (Still w6 gw BB.2) := Lib.hid ((HSTL.out.below (Below.after BW2.out HSd.out)).kt k6)
            have HZ6 : Hid (z + 1 ≤ w6.heap.size) := Lib.hid (by have h1 := HZ.out; have h2 := (Below.after BW2.out HSd.out).size; have h3 := b6.size; omega)
            have cw := Still.cell HSTL6.out HNX.out.2.2.2.2.2
            clear st6 b6 k6 v0 v1 v4 S0
            obtain ⟨ev, hev⟩ : ∃ v, errV (powF E l 0).2.2 = v := ⟨_, rfl⟩
            rw [hev]
            clear hev
            have hidw := HIDW.out
            go_wp2_with (
              at_builtin
              refine wp_app1G (w0 := w6) (enc := encLn) elemId encLn_len rfl _ _ rfl rfl HI6.out id rfl rfl (encLn_one id) HAPP.out HZ6.out ?_
              intro v5 w5 hS5 hg5 hb5
              have HX1 : Hid (Still w5 gw BB.2) := Lib.hid (HSTL6.out.base hb5 HGW.out)
              have HX2 : Hid (StAt W0.heap.size w5 B most E') := Lib.hid (st_app HI6.out hg5 HST6.out)
              have HX3 := Lib.hid hS5
              have HX4 : Hid (Below W0.heap.size W0 w5) := Lib.hid (HB6.out.trans (hb5.mono HZ0.out))
              have HX5 : Hid (z + 1 ≤ w5.heap.size) := Lib.hid (Nat.le_trans HZ6.out hb5.size)
              clear hS5 hg5 hb5)
            clear hidw
            go_roundw
            case rel => exact ⟨i + 1, E', S ++ [id], by omega, by go_num, HNX.out.1, HNX.out.2.2.2.2.1, by
              intro x hx
              rcases List.mem_append.1 hx with h | h
              · have h1 := HSB.out x h; have h2 := HNX.out.2.2.1; omega
              · simp only [List.mem_singleton] at h; subst h; exact HNX.out.2.2.2.1, by have h1 := HSN.out; have h2 := HNS.out; simp; omega, by have := HNX.out.2.1; have := HEN.out; omega, HX3.out, HX1.out, HX2.out, HX4.out, HX5.out⟩
            case measure => simp [intOf]; omega
          · obtain ⟨q, rfl⟩ : ∃ q : Nat, tm = (q : Int) := ⟨tm.toNat, by omega⟩
            have hqb : q ≤ 9223372036854775807 := by have := HML.out.2; omega
            have HE : Hid ((powF E l q).1 = E' ∧ (powF E l q).2.1 = id) := Lib.hid (by have h := HOF.out; rw [if_neg h0, if_pos h3, show (max (q : Int) 0).toNat = q by omega] at h; simp only [Prod.mk.injEq] at h; exact h)
            clear h0 h3
            go_wp2_with fail
            clear hWm hw2 c0 c1 c2 c3 c4 y0 y1 y2 y3 y4 x0 x1 x2 x3 x4
            refine wp_region_anyH (Below w2.heap.size w2) (by kernel_rfl) ?_
            rw [hwd]
            clear hwd
            refine AnyH.take (i := 0) (d := some 27) (v := ?_) (by kernel_rfl) rfl rfl HF (fun _ _ _ h => h) (.inl ⟨by rfl, ?_⟩) (by first | assumption | rfl) ?_
            rotate_left
            · intro w hS; try subst hS
              go_simp; try with_reducible rfl
            try simp only [Act.put, List.setIfInBounds_toArray, List.set_cons_zero, List.set_cons_succ]
            refine AnyH.take (i := 1) (d := some 28) (v := ?_) (by kernel_rfl) rfl rfl HF (fun _ _ _ h => h) (.inl ⟨by rfl, ?_⟩) (by first | assumption | rfl) ?_
            rotate_left
            · intro w hS; try subst hS
              go_simp; try with_reducible rfl
            try simp only [Act.put, List.setIfInBounds_toArray, List.set_cons_zero, List.set_cons_succ]
            refine AnyH.take (i := 2) (d := some 29) (v := ?_) (by kernel_rfl) rfl rfl HF (fun _ _ _ h => h) (.inl ⟨by rfl, ?_⟩) (by first | assumption | rfl) ?_
            rotate_left
            · intro w hS; try subst hS
              go_simp; try with_reducible rfl
            try simp only [Act.put, List.setIfInBounds_toArray, List.set_cons_zero, List.set_cons_succ]
            refine AnyH.take (i := 3) (d := some 30) (v := ?_) (by kernel_rfl) rfl rfl HF (fun _ _ _ h => h) (.inl ⟨by rfl, ?_⟩) (by first | assumption | rfl) ?_
            rotate_left
            · intro w hS; try subst hS
              go_simp; try with_reducible rfl
            try simp only [Act.put, List.setIfInBounds_toArray, List.set_cons_zero, List.set_cons_succ]
            refine AnyH.take (i := 4) (d := some 31) (v := ?_) (by kernel_rfl) rfl rfl HF (fun _ _ _ h => h) (.inl ⟨by rfl, ?_⟩) (by first | assumption | rfl) ?_
            rotate_left
            · intro w hS; try subst hS
              go_simp; try with_reducible rfl
            try simp only [Act.put, List.setIfInBounds_toArray, List.set_cons_zero, List.set_cons_succ]
            refine AnyH.take (i := 8) (d := some 35) (v := ?_) (by kernel_rfl) rfl rfl HF (fun _ _ _ h => h) (.inl ⟨by rfl, ?_⟩) (by first | assumption | rfl) ?_
            rotate_left
            · intro w hS; try subst hS
              go_simp; try with_reducible rfl
            try simp only [Act.put, List.setIfInBounds_toArray, List.set_cons_zero, List.set_cons_succ]
            refine AnyH.take (i := 9) (d := some 36) (v := ?_) (by kernel_rfl) rfl rfl HF (fun _ _ _ h => h) (.inl ⟨by rfl, ?_⟩) (by first | assumption | rfl) ?_
            rotate_left
            · intro w hS; try subst hS
              go_simp; try with_reducible rfl
            try simp only [Act.put, List.setIfInBounds_toArray, List.set_cons_zero, List.set_cons_succ]
            refine AnyH.take (i := 10) (d := some 37) (v := ?_) (by kernel_rfl) rfl rfl HF (fun _ _ _ h => h) (.inl ⟨by rfl, ?_⟩) (by first | assumption | rfl) ?_
            rotate_left
            · intro w hS; try subst hS
              go_simp; try with_reducible rfl
            try simp only [Act.put, List.setIfInBounds_toArray, List.set_cons_zero, List.set_cons_succ]
            refine AnyH.take (i := 11) (d := some 38) (v := ?_) (by kernel_rfl) rfl rfl HF (fun _ _ _ h => h) (.inl ⟨by rfl, ?_⟩) (by first | assumption | rfl) ?_
            rotate_left
            · intro w hS; try subst hS
              go_simp; try with_reducible rfl
            try simp only [Act.put, List.setIfInBounds_toArray, List.set_cons_zero, List.set_cons_succ]
            refine AnyH.take (i := 12) (d := some 39) (v := ?_) (by kernel_rfl) rfl rfl HF (fun _ _ _ h => h) (.inl ⟨by rfl, ?_⟩) (by first | assumption | rfl) ?_
            rotate_left
            · intro w hS; try subst hS
              go_simp; try with_reducible rfl
            try simp only [Act.put, List.setIfInBounds_toArray, List.set_cons_zero, List.set_cons_succ]
            refine AnyH.one (i := 5) (by kernel_rfl) (by kernel_rfl) rfl HF (by rfl) (fun K hK => ?_)
            go_simp
            first | ((with_reducible refine And.intro ?hdep ?_); (case hdep => first | rfl | (intro h; cases h))) | skip
            refine callsIn_wide.2 ((pick_any wd lf nS HS0.out hSl).mono ?_)
            rintro e w ⟨rfl, h⟩; rw [h, PA.out]; clear h w
            refine hK _ _ S0 ?_
            clear hK K
            try simp only [Act.put, List.setIfInBounds_toArray, List.set_cons_zero, List.set_cons_succ]
            refine AnyH.take (i := 6) (d := some 33) (v := ?_) (by kernel_rfl) rfl rfl HF (fun _ _ _ h => h) (.inl ⟨by rfl, ?_⟩) (by first | assumption | rfl) ?_
            rotate_left
            · intro w hS; try subst hS
              go_simp; try with_reducible rfl
            try simp only [Act.put, List.setIfInBounds_toArray, List.set_cons_zero, List.set_cons_succ]
            refine AnyH.take (i := 7) (d := some 34) (v := ?_) (by kernel_rfl) rfl rfl HF (fun _ _ _ h => h) (.inl ⟨by rfl, ?_⟩) (by first | assumption | rfl) ?_
            rotate_left
            · intro w hS; try subst hS
              go_simp; try with_reducible rfl
            try simp only [Act.put, List.setIfInBounds_toArray, List.set_cons_zero, List.set_cons_succ]
            refine AnyH.one (i := 13) (by kernel_rfl) (by kernel_rfl) rfl HF (by rfl) (fun K hK => ?_)
            go_simp
            first | ((with_reducible refine And.intro ?hdep ?_); (case hdep => first | rfl | (intro h; cases h))) | skip
            refine callsIn_wide.2 ((pick_any wd rt nS HS0.out hSl).mono ?_)
            rintro e w ⟨rfl, h⟩; rw [h, PB.out]; clear h w
            refine hK _ _ S0 ?_
            clear hK K
            try simp only [Act.put, List.setIfInBounds_toArray, List.set_cons_zero, List.set_cons_succ]
            refine AnyH.take (i := 14) (d := some 41) (v := ?_) (by kernel_rfl) rfl rfl HF (fun _ _ _ h => h) (.inl ⟨by rfl, ?_⟩) (by first | assumption | rfl) ?_
            rotate_left
            · intro w hS; try subst hS
              go_simp; try with_reducible rfl
            try simp only [Act.put, List.setIfInBounds_toArray, List.set_cons_zero, List.set_cons_succ]
            refine AnyH.take (i := 15) (d := some 42) (v := ?_) (by kernel_rfl) rfl rfl HF (fun _ _ _ h => h) (.inl ⟨by rfl, ?_⟩) (by first | assumption | rfl) ?_
            rotate_left
            · intro w hS; try subst hS
              go_simp; try with_reducible rfl
            try simp only [Act.put, List.setIfInBounds_toArray, List.set_cons_zero, List.set_cons_succ]
            refine AnyH.take (i := 16) (d := some 11) (v := ?_) (by kernel_rfl) rfl rfl HF (fun _ _ _ h => h) (.inl ⟨by rfl, ?_⟩) (by first | assumption | rfl) ?_
            rotate_left
            · intro w hS; try subst hS
              go_simp; try with_reducible rfl
            try simp only [Act.put, List.setIfInBounds_toArray, List.set_cons_zero, List.set_cons_succ]
            refine AnyH.take (i := 17) (d := some 12) (v := ?_) (by kernel_rfl) rfl rfl HF (fun _ _ _ h => h) (.inl ⟨by rfl, ?_⟩) (by first | assumption | rfl) ?_
            rotate_left
            · intro w hS; try subst hS
              go_simp; try with_reducible rfl
            try simp only [Act.put, List.setIfInBounds_toArray, List.set_cons_zero, List.set_cons_succ]
            refine AnyH.done (by kernel_rfl) ?_
            have HSd := Lib.hid S0
            have v0 := m0 wd S0
            have v1 := m1 wd S0
            have v4 := m4 wd S0
            clear m0 m1 m2 m3 m4 ca0 cb0
            go_wp2_with fail
            refine (pick_any _ kd 4 (by omega) (by omega)).mono ?_; rintro e w ⟨rfl, h⟩; rw [h, PC.out]; clear h w
            go_wp2_with fail
            refine (power_any (HST.out.below (Below.after BW2.out HSd.out)) HWF.out HXL.out hqb (by have := HEN.out; omega) (by have := HEN.out; omega)).mono ?_
            rintro x w6 ⟨rfl, st6, b6, k6⟩
            have HST6 : Hid (StAt W0.heap.size w6 B most E') := Lib.hid (by have := HE.out; rw [← show (powF E l q).1 = E' from this.1]; exact st6)
            rw [show (powF E l q).2.1 = id from HE.out.2]
            have HB6 : Hid (Below W0.heap.size W0 w6) := Lib.hid ((Below.after HB.out (Below.after BW2.out HSd.out)).trans b6)
            have HI6 : Hid (Ids (z + 1) w6 (.slice (some ⟨g, 0, none⟩) nS rc) S) := Lib.hid (Ids.kt (SlA.below HI.out (Below.after BW2.out HSd.out)) k6)
            have HSTL6 : Hid (Still w6 gw BB.2) := Lib.hid ((HSTL.out.below (Below.after BW2.out HSd.out)).kt k6)
            have HZ6 : Hid (z + 1 ≤ w6.heap.size) := Lib.hid (by have h1 := HZ.out; have h2 := (Below.after BW2.out HSd.out).size; have h3 := b6.size; omega)
            have cw := Still.cell HSTL6.out HNX.out.2.2.2.2.2
            clear st6 b6 k6 v0 v1 v4 S0
            obtain ⟨ev, hev⟩ : ∃ v, errV (powF E l q).2.2 = v := ⟨_, rfl⟩
            rw [hev]
            clear hev
            have hidw := HIDW.out
            go_wp2_with (
              at_builtin
              refine wp_app1G (w0 := w6) (enc := encLn) elemId encLn_len rfl _ _ rfl rfl HI6.out id rfl rfl (encLn_one id) HAPP.out HZ6.out ?_
              intro v5 w5 hS5 hg5 hb5
              have HX1 : Hid (Still w5 gw BB.2) := Lib.hid (HSTL6.out.base hb5 HGW.out)
              have HX2 : Hid (StAt W0.heap.size w5 B most E') := Lib.hid (st_app HI6.out hg5 HST6.out)
              have HX3 := Lib.hid hS5
              have HX4 : Hid (Below W0.heap.size W0 w5) := Lib.hid (HB6.out.trans (hb5.mono HZ0.out))
              have HX5 : Hid (z + 1 ≤ w5.heap.size) := Lib.hid (Nat.le_trans HZ6.out hb5.size)
              clear hS5 hg5 hb5)
            clear hidw
            go_roundw
            case rel => exact ⟨i + 1, E', S ++ [id], by omega, by go_num, HNX.out.1, HNX.out.2.2.2.2.1, by
              intro x hx
              rcases List.mem_append.1 hx with h | h
              · have h1 := HSB.out x h; have h2 := HNX.out.2.2.1; omega
              · simp only [List.mem_singleton] at h; subst h; exact HNX.out.2.2.2.1, by have h1 := HSN.out; have h2 := HNS.out; simp; omega, by have := HNX.out.2.1; have := HEN.out; omega, HX3.out, HX1.out, HX2.out, HX4.out, HX5.out⟩
            case measure => simp [intOf]; omega
        · have h3i : ((k : Int) == 3) = false := by rw [beq_eq_false_iff_ne]; intro h; exact h3 (by exact Int.ofNat.inj h)
          have HE : Hid ((pairF E l r).1 = E' ∧ (pairF E l r).2.1 = id) := Lib.hid (by have h := HOF.out; rw [if_neg h0, if_neg h3] at h; simp only [Prod.mk.injEq] at h; exact h)
          clear h0 h3
          go_wp2_with fail
          clear hWm hw2 c0 c1 c2 c3 c4 y0 y1 y2 y3 y4 x0 x1 x2 x3 x4
          refine wp_region_anyH (Below w2.heap.size w2) (by kernel_rfl) ?_
          rw [hwd]
          clear hwd
          refine AnyH.take (i := 0) (d := some 27) (v := ?_) (by kernel_rfl) rfl rfl HF (fun _ _ _ h => h) (.inl ⟨by rfl, ?_⟩) (by first | assumption | rfl) ?_
          rotate_left
          · intro w hS; try subst hS
            go_simp; try with_reducible rfl
          try simp only [Act.put, List.setIfInBounds_toArray, List.set_cons_zero, List.set_cons_succ]
          refine AnyH.take (i := 1) (d := some 28) (v := ?_) (by kernel_rfl) rfl rfl HF (fun _ _ _ h => h) (.inl ⟨by rfl, ?_⟩) (by first | assumption | rfl) ?_
          rotate_left
          · intro w hS; try subst hS
            go_simp; try with_reducible rfl
          try simp only [Act.put, List.setIfInBounds_toArray, List.set_cons_zero, List.set_cons_succ]
          refine AnyH.take (i := 2) (d := some 29) (v := ?_) (by kernel_rfl) rfl rfl HF (fun _ _ _ h => h) (.inl ⟨by rfl, ?_⟩) (by first | assumption | rfl) ?_
          rotate_left
          · intro w hS; try subst hS
            go_simp; try with_reducible rfl
          try simp only [Act.put, List.setIfInBounds_toArray, List.set_cons_zero, List.set_cons_succ]
          refine AnyH.take (i := 3) (d := some 30) (v := ?_) (by kernel_rfl) rfl rfl HF (fun _ _ _ h => h) (.inl ⟨by rfl, ?_⟩) (by first | assumption | rfl) ?_
          rotate_left
          · intro w hS; try subst hS
            go_simp; try with_reducible rfl
          try simp only [Act.put, List.setIfInBounds_toArray, List.set_cons_zero, List.set_cons_succ]
          refine AnyH.take (i := 4) (d := some 31) (v := ?_) (by kernel_rfl) rfl rfl HF (fun _ _ _ h => h) (.inl ⟨by rfl, ?_⟩) (by first | assumption | rfl) ?_
          rotate_left
          · intro w hS; try subst hS
            go_simp; try with_reducible rfl
          try simp only [Act.put, List.setIfInBounds_toArray, List.set_cons_zero, List.set_cons_succ]
          refine AnyH.take (i := 8) (d := some 35) (v := ?_) (by kernel_rfl) rfl rfl HF (fun _ _ _ h => h) (.inl ⟨by rfl, ?_⟩) (by first | assumption | rfl) ?_
          rotate_left
          · intro w hS; try subst hS
            go_simp; try with_reducible rfl
          try simp only [Act.put, List.setIfInBounds_toArray, List.set_cons_zero, List.set_cons_succ]
          refine AnyH.take (i := 9) (d := some 36) (v := ?_) (by kernel_rfl) rfl rfl HF (fun _ _ _ h => h) (.inl ⟨by rfl, ?_⟩) (by first | assumption | rfl) ?_
          rotate_left
          · intro w hS; try subst hS
            go_simp; try with_reducible rfl
          try simp only [Act.put, List.setIfInBounds_toArray, List.set_cons_zero, List.set_cons_succ]
          refine AnyH.take (i := 10) (d := some 37) (v := ?_) (by kernel_rfl) rfl rfl HF (fun _ _ _ h => h) (.inl ⟨by rfl, ?_⟩) (by first | assumption | rfl) ?_
          rotate_left
          · intro w hS; try subst hS
            go_simp; try with_reducible rfl
          try simp only [Act.put, List.setIfInBounds_toArray, List.set_cons_zero, List.set_cons_succ]
          refine AnyH.take (i := 11) (d := some 38) (v := ?_) (by kernel_rfl) rfl rfl HF (fun _ _ _ h => h) (.inl ⟨by rfl, ?_⟩) (by first | assumption | rfl) ?_
          rotate_left
          · intro w hS; try subst hS
            go_simp; try with_reducible rfl
          try simp only [Act.put, List.setIfInBounds_toArray, List.set_cons_zero, List.set_cons_succ]
          refine AnyH.take (i := 12) (d := some 39) (v := ?_) (by kernel_rfl) rfl rfl HF (fun _ _ _ h => h) (.inl ⟨by rfl, ?_⟩) (by first | assumption | rfl) ?_
          rotate_left
          · intro w hS; try subst hS
            go_simp; try with_reducible rfl
          try simp only [Act.put, List.setIfInBounds_toArray, List.set_cons_zero, List.set_cons_succ]
          refine AnyH.one (i := 5) (by kernel_rfl) (by kernel_rfl) rfl HF (by rfl) (fun K hK => ?_)
          go_simp
          first | ((with_reducible refine And.intro ?hdep ?_); (case hdep => first | rfl | (intro h; cases h))) | skip
          refine callsIn_wide.2 ((pick_any wd lf nS HS0.out hSl).mono ?_)
          rintro e w ⟨rfl, h⟩; rw [h, PA.out]; clear h w
          refine hK _ _ S0 ?_
          clear hK K
          try simp only [Act.put, List.setIfInBounds_toArray, List.set_cons_zero, List.set_cons_succ]
          refine AnyH.take (i := 6) (d := some 33) (v := ?_) (by kernel_rfl) rfl rfl HF (fun _ _ _ h => h) (.inl ⟨by rfl, ?_⟩) (by first | assumption | rfl) ?_
          rotate_left
          · intro w hS; try subst hS
            go_simp; try with_reducible rfl
          try simp only [Act.put, List.setIfInBounds_toArray, List.set_cons_zero, List.set_cons_succ]
          refine AnyH.take (i := 7) (d := some 34) (v := ?_) (by kernel_rfl) rfl rfl HF (fun _ _ _ h => h) (.inl ⟨by rfl, ?_⟩) (by first | assumption | rfl) ?_
          rotate_left
          · intro w hS; try subst hS
            go_simp; try with_reducible rfl
          try simp only [Act.put, List.setIfInBounds_toArray, List.set_cons_zero, List.set_cons_succ]
          refine AnyH.one (i := 13) (by kernel_rfl) (by kernel_rfl) rfl HF (by rfl) (fun K hK => ?_)
          go_simp
          first | ((with_reducible refine And.intro ?hdep ?_); (case hdep => first | rfl | (intro h; cases h))) | skip
          refine callsIn_wide.2 ((pick_any wd rt nS HS0.out hSl).mono ?_)
          rintro e w ⟨rfl, h⟩; rw [h, PB.out]; clear h w
          refine hK _ _ S0 ?_
          clear hK K
          try simp only [Act.put, List.setIfInBounds_toArray, List.set_cons_zero, List.set_cons_succ]
          refine AnyH.take (i := 14) (d := some 41) (v := ?_) (by kernel_rfl) rfl rfl HF (fun _ _ _ h => h) (.inl ⟨by rfl, ?_⟩) (by first | assumption | rfl) ?_
          rotate_left
          · intro w hS; try subst hS
            go_simp; try with_reducible rfl
          try simp only [Act.put, List.setIfInBounds_toArray, List.set_cons_zero, List.set_cons_succ]
          refine AnyH.take (i := 15) (d := some 42) (v := ?_) (by kernel_rfl) rfl rfl HF (fun _ _ _ h => h) (.inl ⟨by rfl, ?_⟩) (by first | assumption | rfl) ?_
          rotate_left
          · intro w hS; try subst hS
            go_simp; try with_reducible rfl
          try simp only [Act.put, List.setIfInBounds_toArray, List.set_cons_zero, List.set_cons_succ]
          refine AnyH.take (i := 16) (d := some 11) (v := ?_) (by kernel_rfl) rfl rfl HF (fun _ _ _ h => h) (.inl ⟨by rfl, ?_⟩) (by first | assumption | rfl) ?_
          rotate_left
          · intro w hS; try subst hS
            go_simp; try with_reducible rfl
          try simp only [Act.put, List.setIfInBounds_toArray, List.set_cons_zero, List.set_cons_succ]
          refine AnyH.take (i := 17) (d := some 12) (v := ?_) (by kernel_rfl) rfl rfl HF (fun _ _ _ h => h) (.inl ⟨by rfl, ?_⟩) (by first | assumption | rfl) ?_
          rotate_left
          · intro w hS; try subst hS
            go_simp; try with_reducible rfl
          try simp only [Act.put, List.setIfInBounds_toArray, List.set_cons_zero, List.set_cons_succ]
          refine AnyH.done (by kernel_rfl) ?_
          have HSd := Lib.hid S0
          have v0 := m0 wd S0
          have v1 := m1 wd S0
          have v4 := m4 wd S0
          clear m0 m1 m2 m3 m4 ca0 cb0
          go_wp2_with fail
          refine (pick_any _ kd 4 (by omega) (by omega)).mono ?_; rintro e w ⟨rfl, h⟩; rw [h, PC.out]; clear h w
          go_wp2_with fail
          refine (pair_any (HST.out.below (Below.after BW2.out HSd.out)) HWF.out HXL.out HXR.out (by have := HEN.out; omega) (by have := HEN.out; omega)).mono ?_
          rintro x w6 ⟨rfl, st6, b6, k6⟩
          have HST6 : Hid (StAt W0.heap.size w6 B most E') := Lib.hid (by have := HE.out; rw [← show (pairF E l r).1 = E' from this.1]; exact st6)
          rw [show (pairF E l r).2.1 = id from HE.out.2]
          have HB6 : Hid (Below W0.heap.size W0 w6) := Lib.hid ((Below.after HB.out (Below.after BW2.out HSd.out)).trans b6)
          have HI6 : Hid (Ids (z + 1) w6 (.slice (some ⟨g, 0, none⟩) nS rc) S) := Lib.hid (Ids.kt (SlA.below HI.out (Below.after BW2.out HSd.out)) k6)
          have HSTL6 : Hid (Still w6 gw BB.2) := Lib.hid ((HSTL.out.below (Below.after BW2.out HSd.out)).kt k6)
          have HZ6 : Hid (z + 1 ≤ w6.heap.size) := Lib.hid (by have h1 := HZ.out; have h2 := (Below.after BW2.out HSd.out).size; have h3 := b6.size; omega)
          have cw := Still.cell HSTL6.out HNX.out.2.2.2.2.2
          clear st6 b6 k6 v0 v1 v4 S0
          obtain ⟨ev, hev⟩ : ∃ v, errV (pairF E l r).2.2 = v := ⟨_, rfl⟩
          rw [hev]
          clear hev
          have hidw := HIDW.out
          go_wp2_with (
            at_builtin
            refine wp_app1G (w0 := w6) (enc := encLn) elemId encLn_len rfl _ _ rfl rfl HI6.out id rfl rfl (encLn_one id) HAPP.out HZ6.out ?_
            intro v5 w5 hS5 hg5 hb5
            have HX1 : Hid (Still w5 gw BB.2) := Lib.hid (HSTL6.out.base hb5 HGW.out)
            have HX2 : Hid (StAt W0.heap.size w5 B most E') := Lib.hid (st_app HI6.out hg5 HST6.out)
            have HX3 := Lib.hid hS5
            have HX4 : Hid (Below W0.heap.size W0 w5) := Lib.hid (HB6.out.trans (hb5.mono HZ0.out))
            have HX5 : Hid (z + 1 ≤ w5.heap.size) := Lib.hid (Nat.le_trans HZ6.out hb5.size)
            clear hS5 hg5 hb5)
          clear hidw
          go_roundw
          case rel => exact ⟨i + 1, E', S ++ [id], by omega, by go_num, HNX.out.1, HNX.out.2.2.2.2.1, by
            intro x hx
            rcases List.mem_append.1 hx with h | h
            · have h1 := HSB.out x h; have h2 := HNX.out.2.2.1; omega
            · simp only [List.mem_singleton] at h; subst h; exact HNX.out.2.2.2.1, by have h1 := HSN.out; have h2 := HNS.out; simp; omega, by have := HNX.out.2.1; have := HEN.out; omega, HX3.out, HX1.out, HX2.out, HX4.out, HX5.out⟩
          case measure => simp [intOf]; omega
    · have hiM : M.length = i := by omega
      have hge : ¬ (i : Int) < (M.length : Int) := by omega
      have HE : Hid (BB = (E, S)) := Lib.hid (by have h := HBL.out; rw [← hiM, List.drop_length] at h; exact h.symm)
      clear hiM
      go_wp2_with fail
      go_ret2
      exact ⟨_, rfl, by rw [HE.out]; exact SlA.mono HI.out (Nat.zero_le _), by rw [HE.out]; exact HST.out, HB.out⟩
end M
end Go.Proofs.Ytjbllcakaljpgaa
