/- The reference's One. Printed by store/mkone.py. -/
import Derived.Test.YtjbllcakaljpgaaRefAdd
namespace Go.Proofs.Ytjbllcakaljpgaa
open Go.RowKit
namespace M
attribute [local go_sem] Oper.semAt_some
abbrev Ids (B : Nat) (W : World) (v : Value) (l : List Nat) : Prop := SlA B W 26 1 encLn v l
theorem elemId : Elem Try.prog 62 26 1 8 := elem_of Try.underlying62 (z := .int .i64 0) (by kernel_rfl) rfl (by decide) (by decide)
theorem Ids.at {B : Nat} {W : World} {v : Value} {l : List Nat} (h : Ids B W v l) {i : Nat} (hi : i < l.length) :
    ∃ g cap, v = .slice (some ⟨g, 0, none⟩) l.length cap ∧ l.length ≤ cap ∧ cap ≤ maxLen ∧ ∀ (W' : World), Below W.heap.size W W' → ∀ i (hi : i < l.length), W'.cell? ⟨g, i, none⟩ = some (.int .i64 l[i]) := by
  rcases h.shape with ⟨-, rfl⟩ | ⟨g, cap, rfl, h1, h2⟩
  · simp at hi
  · refine ⟨g, cap, rfl, h1, h2, fun W' hb i hi => ?_⟩
    have h' := h.below hb
    have := SlA.cell encLn_len h' hi (j := 0) (by omega)
    rw [Nat.mul_one] at this
    exact this
abbrev mkV (m : Mk) : Value := .agg #[.int .i64 m.kind, .int .u8 m.letter, .int .i64 m.left, .int .i64 m.right, .int .i64 m.times]
def MkC (W : World) (g : Nat) (m : Mk) : Prop := W.heap[g]? = some (.cells #[.int .i64 m.kind, .int .u8 m.letter, .int .i64 m.left, .int .i64 m.right, .int .i64 m.times] 105 (0, 0))
theorem MkC.cells {W : World} {g : Nat} {m : Mk} (h : MkC W g m) : W.cell? ⟨g, 0, none⟩ = some (.int .i64 m.kind) ∧ W.cell? ⟨g, 1, none⟩ = some (.int .u8 m.letter) ∧ W.cell? ⟨g, 2, none⟩ = some (.int .i64 m.left) ∧ W.cell? ⟨g, 3, none⟩ = some (.int .i64 m.right) ∧ W.cell? ⟨g, 4, none⟩ = some (.int .i64 m.times) := by
  unfold MkC at h
  simp [World.cell?, h]
theorem lenAt_in {L : List Nat} (hL : ∀ x ∈ L, 0 < x ∧ x ≤ 1152921504606846976) {i : Nat} (h0 : i ≠ 0) (hi : i ≤ L.length) : 0 < lenAt L i ∧ lenAt L i ≤ 1152921504606846976 := by
  unfold lenAt
  rw [if_neg h0, List.getElem?_eq_getElem (by omega)]
  exact hL _ (List.getElem_mem _)
theorem pk_cast (n : Int) {m : Nat} (h : 0 < m) : n % (m : Int) = (pk n m : Int) := by
  unfold pk
  have h1 := Int.emod_nonneg n (show (m : Int) ≠ 0 by omega)
  omega
/-- What One has made. -/
def OneP (W : World) (A : (List Ru × List Nat) × Nat) (e : Ending) (w' : World) : Prop := ∃ v' u', e = .returned (.tuple #[.agg #[v', u'], .int .i64 A.2]) ∧ Rus 0 w' v' A.1.1 ∧ Lns 0 w' u' A.1.2 ∧ Below W.heap.size W w'
set_option maxRecDepth 100000 in
set_option maxHeartbeats 8000000 in
theorem refOne_any {B : Nat} {W : World} {v u sv : Value} {R : List Ru} {L S : List Nat} (hR : Rus 0 W v R) (hL : Lns 0 W u L) (hS : Ids B W sv S) (m : Mk) (hlt : m.letter < 256) (hRL : R.length = L.length) (hl : R.length ≤ 1000000) (hLb : ∀ x ∈ L, 0 < x ∧ x ≤ 1152921504606846976) (hS0 : 0 < S.length) (hSl : S.length ≤ 1000000) (hSb : ∀ x ∈ S, x ≤ L.length) :
    Calls Try.prog 50 #[.agg #[v, u], mkV m, sv] W (OneP W (oneR R L S m)) := by
  have HF : ∀ f, Fence.wide.fn f := fun _ => trivial
  obtain ⟨va, vc, rfl⟩ := hR.len
  obtain ⟨ua, uc, rfl⟩ := hL.len
  obtain ⟨W1, hW1⟩ : ∃ w, W.alloc (.cells #[.slice va R.length vc, .slice ua L.length uc] 61) = w := ⟨_, rfl⟩
  have b1 : Below W.heap.size W W1 := by rw [← hW1]; exact (Below.refl _ _).alloc (Nat.le_refl _) _
  have k1 : RsC W1 W.heap.size (.slice va R.length vc) (.slice ua L.length uc) := by rw [← hW1]; exact heap_new' _ _
  have s1 : W1.heap.size = W.heap.size + 1 := by rw [← hW1]; simp
  obtain ⟨W2, hW2⟩ : ∃ w, W1.alloc (.cells #[.int .i64 m.kind, .int .u8 m.letter, .int .i64 m.left, .int .i64 m.right, .int .i64 m.times] 105) = w := ⟨_, rfl⟩
  have b2 : Below W1.heap.size W1 W2 := by rw [← hW2]; exact (Below.refl _ _).alloc (Nat.le_refl _) _
  have k2 : MkC W2 W1.heap.size m := by rw [← hW2]; exact heap_new' _ _
  have s2 : W2.heap.size = W.heap.size + 2 := by rw [← hW2]; simp [s1]
  obtain ⟨W3, hW3⟩ : ∃ w, W2.alloc (.cells #[.slice none 0 0, .slice none 0 0] 61) = w := ⟨_, rfl⟩
  have b3 : Below W2.heap.size W2 W3 := by rw [← hW3]; exact (Below.refl _ _).alloc (Nat.le_refl _) _
  have k3 : RsC W3 W2.heap.size (.slice none 0 0) (.slice none 0 0) := by rw [← hW3]; exact heap_new' _ _
  have B3 := Lib.hid (Below.after b1 (Below.after b2 b3))
  have K1 : Hid (RsC W3 W.heap.size (.slice va R.length vc) (.slice ua L.length uc)) := Lib.hid (below_block b3 (below_block b2 k1))
  have K2 : Hid (MkC W3 (W.heap.size + 1) m) := Lib.hid (by rw [← s1]; exact below_block b3 k2)
  have K3 : Hid (RsC W3 (W.heap.size + 2) (.slice none 0 0) (.slice none 0 0)) := Lib.hid (by rw [← s2]; exact k3)
  obtain ⟨z0, z1, -, -⟩ := K1.out.cells
  obtain ⟨m0, m1, m2, m3, m4⟩ := K2.out.cells
  have HR := Lib.hid (hR.below B3.out); have HL := Lib.hid (hL.below B3.out); have HRL := Lib.hid hRL; have S1 := Lib.hid s1; have S2 := Lib.hid s2
  have ha := pk_lt m.left hS0
  have hb := pk_lt m.right hS0
  obtain ⟨g, cap, rfl, hc1, hc2, hc⟩ := hS.at ha
  have ca := hc W3 B3.out (pk m.left S.length) ha
  have cb := hc W3 B3.out (pk m.right S.length) hb
  have HA0 : Hid (resAt S m.left = S[pk m.left S.length]) := Lib.hid (by unfold resAt; rw [List.getElem?_eq_getElem ha]; rfl)
  have HB0 : Hid (resAt S m.right = S[pk m.right S.length]) := Lib.hid (by unfold resAt; rw [List.getElem?_eq_getElem hb]; rfl)
  have hxl := hSb _ (List.getElem_mem ha)
  have hxr := hSb _ (List.getElem_mem hb)
  obtain ⟨l, hl0⟩ : ∃ l, resAt S m.left = l := ⟨_, rfl⟩
  obtain ⟨r, hr0⟩ : ∃ r, resAt S m.right = r := ⟨_, rfl⟩
  rw [← HA0.out, hl0] at ca hxl
  rw [← HB0.out, hr0] at cb hxr
  have HONE : Hid (oneR R L S m = oneR R L S m) := Lib.hid rfl
  obtain ⟨A, hA⟩ : ∃ A, oneR R L S m = A := ⟨_, rfl⟩
  rw [hA]
  unfold oneR at hA
  rw [hl0, hr0] at hA
  have pa := pk_cast m.left hS0
  have pb := pk_cast m.right hS0
  have pc := pk_cast m.kind (show 0 < 4 by omega)
  have hkd := pk_lt m.kind (show 0 < 4 by omega)
  obtain ⟨kd, lt, lf, rt, tm⟩ := m
  dsimp only at *
  generalize pk lf S.length = i at *
  generalize pk rt S.length = j at *
  generalize pk kd 4 = k at *
  have PA := Lib.hid pa; have PB := Lib.hid pb; have PC := Lib.hid pc
  have HAA := Lib.hid hA
  have ha3 : (i : Int) < (S.length : Int) := by omega
  have hb3 : (j : Int) < (S.length : Int) := by omega
  have HLB := Lib.hid hLb
  have HS0 := Lib.hid hS0
  have HLL : L.length ≤ 1000000 := by omega
  clear hR hL hS hc HA0 HB0 HONE hA hl0 hr0 pa pb pc b1 b2 b3 k1 k2 k3 hRL hSb hLb
  by_cases h0 : k = 0
  · have h0i : ((k : Int) == 0) = true := by simp; omega
    have HE : Hid (A = addR R L ⟨1, lt, 0, 0, 0⟩ 1) := Lib.hid (by rw [← HAA.out, if_pos h0])
    clear h0
    go_enter Try.func50, Try.ntmps50
    go_wp2_with fail
    clear hW1 hW2 hW3
    refine (pick_any _ lf S.length HS0.out hSl).mono ?_; rintro e w ⟨rfl, h⟩; rw [h, PA.out]; clear h w
    go_wp2_with fail
    refine (pick_any _ rt S.length HS0.out hSl).mono ?_; rintro e w ⟨rfl, h⟩; rw [h, PB.out]; clear h w
    go_wp2_with fail
    refine (pick_any _ kd 4 (by omega) (by omega)).mono ?_; rintro e w ⟨rfl, h⟩; rw [h, PC.out]; clear h w
    go_wp2_with fail
    refine (refAdd_any HR.out HL.out ⟨1, lt, 0, 0, 0⟩ 1 HRL.out hl).mono ?_
    rintro e w5 ⟨v5, u5, rfl, hr5, hl5, b5⟩
    rw [← HE.out] at hr5 hl5
    obtain ⟨va5, vc5, rfl⟩ := hr5.len
    obtain ⟨ua5, uc5, rfl⟩ := hl5.len
    obtain ⟨n1, hn1⟩ : ∃ n, A.1.1.length = n := ⟨_, rfl⟩
    obtain ⟨n2, hn2⟩ : ∃ n, A.1.2.length = n := ⟨_, rfl⟩
    obtain ⟨n3, hn3⟩ : ∃ n, A.2 = n := ⟨_, rfl⟩
    rw [← HE.out]
    rw [hn1] at hr5 ⊢
    rw [hn2] at hl5 ⊢
    rw [hn3]
    have HR5 := Lib.hid hr5; have HL5 := Lib.hid hl5; have B5 := Lib.hid b5; have HN3 := Lib.hid hn3
    clear hr5 hl5 b5 hn1 hn2 hn3 z0 z1 m0 m1 m2 m3 m4 ca cb
    obtain ⟨g0, g1, f0, f1⟩ := RsC.cells (below_block B5.out K3.out)
    obtain ⟨wf, hwf⟩ : ∃ w, (w5.setCell ⟨W.heap.size + 2, 0, none⟩ (.slice va5 n1 vc5)).setCell ⟨W.heap.size + 2, 1, none⟩ (.slice ua5 n2 uc5) = w := ⟨_, rfl⟩
    have kf : RsC wf (W.heap.size + 2) (.slice va5 n1 vc5) (.slice ua5 n2 uc5) := by rw [← hwf]; exact (show RsC w5 (W.heap.size + 2) _ _ from below_block B5.out K3.out).set _ _
    obtain ⟨x0, x1, -, -⟩ := kf.cells
    have HBF : Hid (Below W.heap.size W wf) := Lib.hid (by
      rw [← hwf]
      exact ((Below.after B3.out B5.out).setCell (p := ⟨W.heap.size + 2, 0, none⟩) (by simp) _).setCell (p := ⟨W.heap.size + 2, 1, none⟩) (by simp) _)
    have HKT : Hid (∀ t, 61 ≠ t → KeepT t w5 wf) := Lib.hid (fun t ht => by
      rw [← hwf]
      exact (KeepT.setCell (a := ⟨W.heap.size + 2, 0, none⟩) (show w5.heap[W.heap.size + 2]? = _ from below_block B5.out K3.out) ht).trans (KeepT.setCell (a := ⟨W.heap.size + 2, 1, none⟩) (show (w5.setCell ⟨W.heap.size + 2, 0, none⟩ (.slice va5 n1 vc5)).heap[W.heap.size + 2]? = _ from heap_set0 _ (below_block B5.out K3.out)) ht))
    clear kf
    go_wp2_with fail
    exact bodyPost_ret (v := .tuple #[.agg #[.slice va5 n1 vc5, .slice ua5 n2 uc5], .int .i64 (n3)]) (by simp [results, Try.results50, go_sem, x0, x1]) rfl ⟨_, _, by rw [HN3.out]; try rfl, by exact SlA.keep (HR5.out) (HKT.out _ (by decide)), by exact SlA.keep (HL5.out) (HKT.out _ (by decide)), HBF.out⟩
  · have h0i : ((k : Int) == 0) = false := by simp; omega
    by_cases h3 : k = 3
    · have h3i : ((k : Int) == 3) = true := by simp; omega
      have HLN := Lib.hid (refLen_any (v := .slice va R.length vc) HL.out hxl HLL ⟨_, _, _, rfl⟩)
      obtain ⟨n, hn⟩ : ∃ n, lenAt L l = n := ⟨_, rfl⟩
      have HN := Lib.hid hn
      rw [hn] at HLN
      have HA3 : Hid ((if l = 0 ∨ tm ≤ 0 ∨ tm > ((1152921504606846976 / n : Nat) : Int) then ((R, L), 0) else if tm = 1 then ((R, L), l) else addR R L ⟨3, 0, l, 0, tm.toNat⟩ (n * tm.toNat)) = A) := Lib.hid (by rw [← HAA.out, if_neg h0, if_pos h3, hn])
      clear hn h3 h0
      by_cases hl0 : l = 0
      · have HE : Hid (A = ((R, L), 0)) := Lib.hid (by rw [← HA3.out, if_pos (.inl hl0)])
        have hl0i : ((l : Int) == 0) = true := by simp; omega
        clear hl0
        go_enter Try.func50, Try.ntmps50
        go_wp2_with fail
        clear hW1 hW2 hW3
        refine (pick_any _ lf S.length HS0.out hSl).mono ?_; rintro e w ⟨rfl, h⟩; rw [h, PA.out]; clear h w
        go_wp2_with fail
        refine (pick_any _ rt S.length HS0.out hSl).mono ?_; rintro e w ⟨rfl, h⟩; rw [h, PB.out]; clear h w
        go_wp2_with fail
        refine (pick_any _ kd 4 (by omega) (by omega)).mono ?_; rintro e w ⟨rfl, h⟩; rw [h, PC.out]; clear h w
        go_wp2_with fail
        refine HLN.out.mono ?_
        rintro e w4 ⟨rfl, b4⟩
        have B4 := Lib.hid b4
        have q0 : ∀ w, Below w4.heap.size w4 w → w.cell? ⟨W.heap.size + 1, 4, none⟩ = some (.int .i64 tm) := fun w hw => (MkC.cells (below_block (Below.after B4.out hw) K2.out)).2.2.2.2
        go_wp2_with fail
        refine wp_region_anyH (Below w4.heap.size w4) (by kernel_rfl) ?_
        have S0 : Below w4.heap.size w4 w4.drew := (Below.refl _ _).drew
        refine AnyH.take (i := 0) (d := some 44) (v := ?_) (by kernel_rfl) rfl rfl HF (fun _ _ _ h => h) (.inl ⟨by rfl, ?_⟩) (by first | assumption | rfl) ?_
        rotate_left
        · intro w hS; try subst hS
          go_simp; try with_reducible rfl
        try simp only [Act.put, List.setIfInBounds_toArray, List.set_cons_zero, List.set_cons_succ]
        refine AnyH.take (i := 1) (d := some 45) (v := ?_) (by kernel_rfl) rfl rfl HF (fun _ _ _ h => h) (.inl ⟨by rfl, ?_⟩) (by first | assumption | rfl) ?_
        rotate_left
        · intro w hS; try subst hS
          go_simp; try with_reducible rfl
        try simp only [Act.put, List.setIfInBounds_toArray, List.set_cons_zero, List.set_cons_succ]
        refine AnyH.take (i := 2) (d := some 46) (v := ?_) (by kernel_rfl) rfl rfl HF (fun _ _ _ h => h) (.inl ⟨by rfl, ?_⟩) (by first | assumption | rfl) ?_
        rotate_left
        · intro w hS; try subst hS
          go_simp; try with_reducible rfl
        try simp only [Act.put, List.setIfInBounds_toArray, List.set_cons_zero, List.set_cons_succ]
        refine AnyH.take (i := 3) (d := some 47) (v := undef) (by kernel_rfl) rfl rfl HF (fun _ _ _ h => h) (.inr ⟨by rfl, rfl⟩) (by first | assumption | rfl) ?_
        try simp only [Act.put, List.setIfInBounds_toArray, List.set_cons_zero, List.set_cons_succ]
        refine AnyH.take (i := 4) (d := some 48) (v := undef) (by kernel_rfl) rfl rfl HF (fun _ _ _ h => h) (.inr ⟨by rfl, rfl⟩) (by first | assumption | rfl) ?_
        try simp only [Act.put, List.setIfInBounds_toArray, List.set_cons_zero, List.set_cons_succ]
        refine AnyH.take (i := 5) (d := some 49) (v := undef) (by kernel_rfl) rfl rfl HF (fun _ _ _ h => h) (.inr ⟨by rfl, rfl⟩) (by first | assumption | rfl) ?_
        try simp only [Act.put, List.setIfInBounds_toArray, List.set_cons_zero, List.set_cons_succ]
        refine AnyH.take (i := 6) (d := some 50) (v := ?_) (by kernel_rfl) rfl rfl HF (fun _ _ _ h => h) (.inl ⟨by rfl, ?_⟩) (by first | assumption | rfl) ?_
        rotate_left
        · intro w hS; try subst hS
          go_simp; try with_reducible rfl
        try simp only [Act.put, List.setIfInBounds_toArray, List.set_cons_zero, List.set_cons_succ]
        refine AnyH.take (i := 7) (d := some 51) (v := ?_) (by kernel_rfl) rfl rfl HF (fun _ _ _ h => h) (.inl ⟨by rfl, ?_⟩) (by first | assumption | rfl) ?_
        rotate_left
        · intro w hS; try subst hS
          go_simp; try with_reducible rfl
        try simp only [Act.put, List.setIfInBounds_toArray, List.set_cons_zero, List.set_cons_succ]
        refine AnyH.take (i := 8) (d := some 52) (v := undef) (by kernel_rfl) rfl rfl HF (fun _ _ _ h => h) (.inr ⟨by rfl, rfl⟩) (by first | assumption | rfl) ?_
        try simp only [Act.put, List.setIfInBounds_toArray, List.set_cons_zero, List.set_cons_succ]
        refine AnyH.take (i := 9) (d := some 53) (v := undef) (by kernel_rfl) rfl rfl HF (fun _ _ _ h => h) (.inr ⟨by rfl, rfl⟩) (by first | assumption | rfl) ?_
        try simp only [Act.put, List.setIfInBounds_toArray, List.set_cons_zero, List.set_cons_succ]
        refine AnyH.take (i := 10) (d := some 54) (v := undef) (by kernel_rfl) rfl rfl HF (fun _ _ _ h => h) (.inr ⟨by rfl, rfl⟩) (by first | assumption | rfl) ?_
        try simp only [Act.put, List.setIfInBounds_toArray, List.set_cons_zero, List.set_cons_succ]
        refine AnyH.take (i := 11) (d := some 55) (v := undef) (by kernel_rfl) rfl rfl HF (fun _ _ _ h => h) (.inr ⟨by rfl, rfl⟩) (by first | assumption | rfl) ?_
        try simp only [Act.put, List.setIfInBounds_toArray, List.set_cons_zero, List.set_cons_succ]
        refine AnyH.take (i := 12) (d := some 56) (v := undef) (by kernel_rfl) rfl rfl HF (fun _ _ _ h => h) (.inr ⟨by rfl, rfl⟩) (by first | assumption | rfl) ?_
        try simp only [Act.put, List.setIfInBounds_toArray, List.set_cons_zero, List.set_cons_succ]
        refine AnyH.take (i := 13) (d := some 57) (v := ?_) (by kernel_rfl) rfl rfl HF (fun _ _ _ h => h) (.inl ⟨by rfl, ?_⟩) (by first | assumption | rfl) ?_
        rotate_left
        · intro w hS; try subst hS
          go_simp; try with_reducible rfl
        try simp only [Act.put, List.setIfInBounds_toArray, List.set_cons_zero, List.set_cons_succ]
        refine AnyH.done (by kernel_rfl) ?_
        obtain ⟨w5, hw5⟩ : ∃ w, w4.drew = w := ⟨_, rfl⟩
        rw [hw5] at S0
        have B5 : Hid (Below W3.heap.size W3 w5) := Lib.hid (Below.after B4.out S0)
        obtain ⟨z0', z1', -, -⟩ := RsC.cells (below_block B5.out K1.out)
        have m4' : w5.cell? ⟨W.heap.size + 1, 4, none⟩ = some (.int .i64 tm) := (MkC.cells (below_block B5.out K2.out)).2.2.2.2
        clear b4 q0 S0 z0 z1 m0 m1 m2 m3 m4 ca cb
        obtain ⟨g0, g1, f0, f1⟩ := RsC.cells (below_block B5.out K3.out)
        obtain ⟨wf, hwf⟩ : ∃ w, (w5.setCell ⟨W.heap.size + 2, 0, none⟩ (.slice va R.length vc)).setCell ⟨W.heap.size + 2, 1, none⟩ (.slice ua L.length uc) = w := ⟨_, rfl⟩
        have kf : RsC wf (W.heap.size + 2) (.slice va R.length vc) (.slice ua L.length uc) := by rw [← hwf]; exact (show RsC w5 (W.heap.size + 2) _ _ from below_block B5.out K3.out).set _ _
        obtain ⟨x0, x1, -, -⟩ := kf.cells
        have HBF : Hid (Below W.heap.size W wf) := Lib.hid (by
          rw [← hwf]
          exact ((Below.after B3.out B5.out).setCell (p := ⟨W.heap.size + 2, 0, none⟩) (by simp) _).setCell (p := ⟨W.heap.size + 2, 1, none⟩) (by simp) _)
        have HKT : Hid (∀ t, 61 ≠ t → KeepT t w5 wf) := Lib.hid (fun t ht => by
          rw [← hwf]
          exact (KeepT.setCell (a := ⟨W.heap.size + 2, 0, none⟩) (show w5.heap[W.heap.size + 2]? = _ from below_block B5.out K3.out) ht).trans (KeepT.setCell (a := ⟨W.heap.size + 2, 1, none⟩) (show (w5.setCell ⟨W.heap.size + 2, 0, none⟩ (.slice va R.length vc)).heap[W.heap.size + 2]? = _ from heap_set0 _ (below_block B5.out K3.out)) ht))
        clear kf
        go_wp2_with fail
        exact bodyPost_ret (v := .tuple #[.agg #[.slice va R.length vc, .slice ua L.length uc], .int .i64 (0)]) (by simp [results, Try.results50, go_sem, x0, x1]) rfl ⟨_, _, by rw [HE.out]; try rfl, by rw [HE.out]; exact SlA.keep (SlA.below HR.out B5.out) (HKT.out _ (by decide)), by rw [HE.out]; exact SlA.keep (SlA.below HL.out B5.out) (HKT.out _ (by decide)), HBF.out⟩
      · have hl0i : ((l : Int) == 0) = false := by simp; omega
        by_cases ht : tm ≤ 0
        · have HE : Hid (A = ((R, L), 0)) := Lib.hid (by rw [← HA3.out, if_pos (.inr (.inl ht))])
          have htb : decide (tm ≤ 0) = true := decide_eq_true ht
          go_enter Try.func50, Try.ntmps50
          go_wp2_with fail
          clear hW1 hW2 hW3
          refine (pick_any _ lf S.length HS0.out hSl).mono ?_; rintro e w ⟨rfl, h⟩; rw [h, PA.out]; clear h w
          go_wp2_with fail
          refine (pick_any _ rt S.length HS0.out hSl).mono ?_; rintro e w ⟨rfl, h⟩; rw [h, PB.out]; clear h w
          go_wp2_with fail
          refine (pick_any _ kd 4 (by omega) (by omega)).mono ?_; rintro e w ⟨rfl, h⟩; rw [h, PC.out]; clear h w
          go_wp2_with fail
          refine HLN.out.mono ?_
          rintro e w4 ⟨rfl, b4⟩
          have B4 := Lib.hid b4
          have q0 : ∀ w, Below w4.heap.size w4 w → w.cell? ⟨W.heap.size + 1, 4, none⟩ = some (.int .i64 tm) := fun w hw => (MkC.cells (below_block (Below.after B4.out hw) K2.out)).2.2.2.2
          go_wp2_with fail
          refine wp_region_anyH (Below w4.heap.size w4) (by kernel_rfl) ?_
          have S0 : Below w4.heap.size w4 w4.drew := (Below.refl _ _).drew
          refine AnyH.take (i := 0) (d := some 44) (v := ?_) (by kernel_rfl) rfl rfl HF (fun _ _ _ h => h) (.inl ⟨by rfl, ?_⟩) (by first | assumption | rfl) ?_
          rotate_left
          · intro w hS; try subst hS
            go_simp; try with_reducible rfl
          try simp only [Act.put, List.setIfInBounds_toArray, List.set_cons_zero, List.set_cons_succ]
          refine AnyH.take (i := 1) (d := some 45) (v := ?_) (by kernel_rfl) rfl rfl HF (fun _ _ _ h => h) (.inl ⟨by rfl, ?_⟩) (by first | assumption | rfl) ?_
          rotate_left
          · intro w hS; try subst hS
            go_simp; try with_reducible rfl
          try simp only [Act.put, List.setIfInBounds_toArray, List.set_cons_zero, List.set_cons_succ]
          refine AnyH.take (i := 2) (d := some 46) (v := ?_) (by kernel_rfl) rfl rfl HF (fun _ _ _ h => h) (.inl ⟨by rfl, ?_⟩) (by first | assumption | rfl) ?_
          rotate_left
          · intro w hS; try subst hS
            go_simp; try with_reducible rfl
          try simp only [Act.put, List.setIfInBounds_toArray, List.set_cons_zero, List.set_cons_succ]
          refine AnyH.take (i := 3) (d := some 47) (v := ?_) (by kernel_rfl) rfl rfl HF (fun _ _ _ h => h) (.inl ⟨by rfl, ?_⟩) (by first | assumption | rfl) ?_
          rotate_left
          · intro w hS; try subst hS
            go_simp; try with_reducible rfl
          try simp only [Act.put, List.setIfInBounds_toArray, List.set_cons_zero, List.set_cons_succ]
          refine AnyH.take (i := 4) (d := some 48) (v := ?_) (by kernel_rfl) rfl rfl HF (fun _ _ _ h => h) (.inl ⟨by rfl, ?_⟩) (by first | assumption | rfl) ?_
          rotate_left
          · intro w hS; try subst hS
            go_simp; try with_reducible rfl
          try simp only [Act.put, List.setIfInBounds_toArray, List.set_cons_zero, List.set_cons_succ]
          refine AnyH.take (i := 5) (d := some 49) (v := ?_) (by kernel_rfl) rfl rfl HF (fun _ _ _ h => h) (.inl ⟨by rfl, ?_⟩) (by first | assumption | rfl) ?_
          rotate_left
          · intro w hS; try subst hS
            go_simp; try with_reducible rfl
          try simp only [Act.put, List.setIfInBounds_toArray, List.set_cons_zero, List.set_cons_succ]
          refine AnyH.take (i := 6) (d := some 50) (v := ?_) (by kernel_rfl) rfl rfl HF (fun _ _ _ h => h) (.inl ⟨by rfl, ?_⟩) (by first | assumption | rfl) ?_
          rotate_left
          · intro w hS; try subst hS
            go_simp; try with_reducible rfl
          try simp only [Act.put, List.setIfInBounds_toArray, List.set_cons_zero, List.set_cons_succ]
          refine AnyH.take (i := 7) (d := some 51) (v := ?_) (by kernel_rfl) rfl rfl HF (fun _ _ _ h => h) (.inl ⟨by rfl, ?_⟩) (by first | assumption | rfl) ?_
          rotate_left
          · intro w hS; try subst hS
            go_simp; try with_reducible rfl
          try simp only [Act.put, List.setIfInBounds_toArray, List.set_cons_zero, List.set_cons_succ]
          refine AnyH.take (i := 8) (d := some 52) (v := undef) (by kernel_rfl) rfl rfl HF (fun _ _ _ h => h) (.inr ⟨by rfl, rfl⟩) (by first | assumption | rfl) ?_
          try simp only [Act.put, List.setIfInBounds_toArray, List.set_cons_zero, List.set_cons_succ]
          refine AnyH.take (i := 9) (d := some 53) (v := undef) (by kernel_rfl) rfl rfl HF (fun _ _ _ h => h) (.inr ⟨by rfl, rfl⟩) (by first | assumption | rfl) ?_
          try simp only [Act.put, List.setIfInBounds_toArray, List.set_cons_zero, List.set_cons_succ]
          refine AnyH.take (i := 10) (d := some 54) (v := undef) (by kernel_rfl) rfl rfl HF (fun _ _ _ h => h) (.inr ⟨by rfl, rfl⟩) (by first | assumption | rfl) ?_
          try simp only [Act.put, List.setIfInBounds_toArray, List.set_cons_zero, List.set_cons_succ]
          refine AnyH.take (i := 11) (d := some 55) (v := undef) (by kernel_rfl) rfl rfl HF (fun _ _ _ h => h) (.inr ⟨by rfl, rfl⟩) (by first | assumption | rfl) ?_
          try simp only [Act.put, List.setIfInBounds_toArray, List.set_cons_zero, List.set_cons_succ]
          refine AnyH.take (i := 12) (d := some 56) (v := undef) (by kernel_rfl) rfl rfl HF (fun _ _ _ h => h) (.inr ⟨by rfl, rfl⟩) (by first | assumption | rfl) ?_
          try simp only [Act.put, List.setIfInBounds_toArray, List.set_cons_zero, List.set_cons_succ]
          refine AnyH.take (i := 13) (d := some 57) (v := ?_) (by kernel_rfl) rfl rfl HF (fun _ _ _ h => h) (.inl ⟨by rfl, ?_⟩) (by first | assumption | rfl) ?_
          rotate_left
          · intro w hS; try subst hS
            go_simp; try with_reducible rfl
          try simp only [Act.put, List.setIfInBounds_toArray, List.set_cons_zero, List.set_cons_succ]
          refine AnyH.done (by kernel_rfl) ?_
          obtain ⟨w5, hw5⟩ : ∃ w, w4.drew = w := ⟨_, rfl⟩
          rw [hw5] at S0
          have B5 : Hid (Below W3.heap.size W3 w5) := Lib.hid (Below.after B4.out S0)
          obtain ⟨z0', z1', -, -⟩ := RsC.cells (below_block B5.out K1.out)
          have m4' : w5.cell? ⟨W.heap.size + 1, 4, none⟩ = some (.int .i64 tm) := (MkC.cells (below_block B5.out K2.out)).2.2.2.2
          clear b4 q0 S0 z0 z1 m0 m1 m2 m3 m4 ca cb
          obtain ⟨g0, g1, f0, f1⟩ := RsC.cells (below_block B5.out K3.out)
          obtain ⟨wf, hwf⟩ : ∃ w, (w5.setCell ⟨W.heap.size + 2, 0, none⟩ (.slice va R.length vc)).setCell ⟨W.heap.size + 2, 1, none⟩ (.slice ua L.length uc) = w := ⟨_, rfl⟩
          have kf : RsC wf (W.heap.size + 2) (.slice va R.length vc) (.slice ua L.length uc) := by rw [← hwf]; exact (show RsC w5 (W.heap.size + 2) _ _ from below_block B5.out K3.out).set _ _
          obtain ⟨x0, x1, -, -⟩ := kf.cells
          have HBF : Hid (Below W.heap.size W wf) := Lib.hid (by
            rw [← hwf]
            exact ((Below.after B3.out B5.out).setCell (p := ⟨W.heap.size + 2, 0, none⟩) (by simp) _).setCell (p := ⟨W.heap.size + 2, 1, none⟩) (by simp) _)
          have HKT : Hid (∀ t, 61 ≠ t → KeepT t w5 wf) := Lib.hid (fun t ht => by
            rw [← hwf]
            exact (KeepT.setCell (a := ⟨W.heap.size + 2, 0, none⟩) (show w5.heap[W.heap.size + 2]? = _ from below_block B5.out K3.out) ht).trans (KeepT.setCell (a := ⟨W.heap.size + 2, 1, none⟩) (show (w5.setCell ⟨W.heap.size + 2, 0, none⟩ (.slice va R.length vc)).heap[W.heap.size + 2]? = _ from heap_set0 _ (below_block B5.out K3.out)) ht))
          clear kf
          go_wp2_with fail
          exact bodyPost_ret (v := .tuple #[.agg #[.slice va R.length vc, .slice ua L.length uc], .int .i64 (0)]) (by simp [results, Try.results50, go_sem, x0, x1]) rfl ⟨_, _, by rw [HE.out]; try rfl, by rw [HE.out]; exact SlA.keep (SlA.below HR.out B5.out) (HKT.out _ (by decide)), by rw [HE.out]; exact SlA.keep (SlA.below HL.out B5.out) (HKT.out _ (by decide)), HBF.out⟩
        · have hnb := lenAt_in HLB.out hl0 hxl
          rw [HN.out] at hnb
          obtain ⟨tn, rfl⟩ : ∃ t : Nat, tm = (t : Int) := ⟨tm.toNat, by omega⟩
          have htb : decide ((tn : Int) ≤ 0) = false := decide_eq_false ht
          have htc : ¬ tn = 0 := by omega
          have htd : decide (tn = 0) = false := decide_eq_false htc
          have hte : (tn == 0) = false := by simp; omega
          have hn0 : ((n : Int) == 0) = false := by simp; omega
          have hn00 : ¬ ((n : Int) = 0) := by omega
          have hnz : ¬ n = 0 := by omega
          have hq : (1152921504606846976 : Int).tdiv (n : Int) = ((1152921504606846976 / n : Nat) : Int) := rfl
          obtain ⟨q, hq0⟩ : ∃ q, 1152921504606846976 / n = q := ⟨_, rfl⟩
          rw [hq0] at hq
          rw [hq0] at HA3
          have hqb : q ≤ 1152921504606846976 := by rw [← hq0]; exact Nat.div_le_self _ _
          have hqw : IntKind.i64.wrap (q : Int) = (q : Int) := by rw [IntKind.wrap_i64]; omega
          have HQ := Lib.hid hq0
          clear hq0
          by_cases hbig : (tn : Int) > (q : Int)
          · have HE : Hid (A = ((R, L), 0)) := Lib.hid (by rw [← HA3.out, if_pos (.inr (.inr hbig))])
            have hbn : q < tn := by omega
            go_enter Try.func50, Try.ntmps50
            go_wp2_with fail
            clear hW1 hW2 hW3
            refine (pick_any _ lf S.length HS0.out hSl).mono ?_; rintro e w ⟨rfl, h⟩; rw [h, PA.out]; clear h w
            go_wp2_with fail
            refine (pick_any _ rt S.length HS0.out hSl).mono ?_; rintro e w ⟨rfl, h⟩; rw [h, PB.out]; clear h w
            go_wp2_with fail
            refine (pick_any _ kd 4 (by omega) (by omega)).mono ?_; rintro e w ⟨rfl, h⟩; rw [h, PC.out]; clear h w
            go_wp2_with fail
            refine HLN.out.mono ?_
            rintro e w4 ⟨rfl, b4⟩
            have B4 := Lib.hid b4
            have q0 : ∀ w, Below w4.heap.size w4 w → w.cell? ⟨W.heap.size + 1, 4, none⟩ = some (.int .i64 (tn : Int)) := fun w hw => (MkC.cells (below_block (Below.after B4.out hw) K2.out)).2.2.2.2
            go_wp2_with fail
            refine wp_region_anyH (Below w4.heap.size w4) (by kernel_rfl) ?_
            have S0 : Below w4.heap.size w4 w4.drew := (Below.refl _ _).drew
            refine AnyH.take (i := 0) (d := some 44) (v := ?_) (by kernel_rfl) rfl rfl HF (fun _ _ _ h => h) (.inl ⟨by rfl, ?_⟩) (by first | assumption | rfl) ?_
            rotate_left
            · intro w hS; try subst hS
              go_simp; try with_reducible rfl
            try simp only [Act.put, List.setIfInBounds_toArray, List.set_cons_zero, List.set_cons_succ]
            refine AnyH.take (i := 1) (d := some 45) (v := ?_) (by kernel_rfl) rfl rfl HF (fun _ _ _ h => h) (.inl ⟨by rfl, ?_⟩) (by first | assumption | rfl) ?_
            rotate_left
            · intro w hS; try subst hS
              go_simp; try with_reducible rfl
            try simp only [Act.put, List.setIfInBounds_toArray, List.set_cons_zero, List.set_cons_succ]
            refine AnyH.take (i := 2) (d := some 46) (v := ?_) (by kernel_rfl) rfl rfl HF (fun _ _ _ h => h) (.inl ⟨by rfl, ?_⟩) (by first | assumption | rfl) ?_
            rotate_left
            · intro w hS; try subst hS
              go_simp; try with_reducible rfl
            try simp only [Act.put, List.setIfInBounds_toArray, List.set_cons_zero, List.set_cons_succ]
            refine AnyH.take (i := 3) (d := some 47) (v := ?_) (by kernel_rfl) rfl rfl HF (fun _ _ _ h => h) (.inl ⟨by rfl, ?_⟩) (by first | assumption | rfl) ?_
            rotate_left
            · intro w hS; try subst hS
              go_simp; try with_reducible rfl
            try simp only [Act.put, List.setIfInBounds_toArray, List.set_cons_zero, List.set_cons_succ]
            refine AnyH.take (i := 4) (d := some 48) (v := ?_) (by kernel_rfl) rfl rfl HF (fun _ _ _ h => h) (.inl ⟨by rfl, ?_⟩) (by first | assumption | rfl) ?_
            rotate_left
            · intro w hS; try subst hS
              go_simp; try with_reducible rfl
            try simp only [Act.put, List.setIfInBounds_toArray, List.set_cons_zero, List.set_cons_succ]
            refine AnyH.take (i := 5) (d := some 49) (v := ?_) (by kernel_rfl) rfl rfl HF (fun _ _ _ h => h) (.inl ⟨by rfl, ?_⟩) (by first | assumption | rfl) ?_
            rotate_left
            · intro w hS; try subst hS
              go_simp; try with_reducible rfl
            try simp only [Act.put, List.setIfInBounds_toArray, List.set_cons_zero, List.set_cons_succ]
            refine AnyH.take (i := 6) (d := some 50) (v := ?_) (by kernel_rfl) rfl rfl HF (fun _ _ _ h => h) (.inl ⟨by rfl, ?_⟩) (by first | assumption | rfl) ?_
            rotate_left
            · intro w hS; try subst hS
              go_simp; try with_reducible rfl
            try simp only [Act.put, List.setIfInBounds_toArray, List.set_cons_zero, List.set_cons_succ]
            refine AnyH.take (i := 7) (d := some 51) (v := ?_) (by kernel_rfl) rfl rfl HF (fun _ _ _ h => h) (.inl ⟨by rfl, ?_⟩) (by first | assumption | rfl) ?_
            rotate_left
            · intro w hS; try subst hS
              go_simp; try with_reducible rfl
            try simp only [Act.put, List.setIfInBounds_toArray, List.set_cons_zero, List.set_cons_succ]
            refine AnyH.take (i := 8) (d := some 52) (v := ?_) (by kernel_rfl) rfl rfl HF (fun _ _ _ h => h) (.inl ⟨by rfl, ?_⟩) (by first | assumption | rfl) ?_
            rotate_left
            · intro w hS; try subst hS
              go_simp; try with_reducible rfl
            try simp only [Act.put, List.setIfInBounds_toArray, List.set_cons_zero, List.set_cons_succ]
            refine AnyH.take (i := 9) (d := some 53) (v := ?_) (by kernel_rfl) rfl rfl HF (fun _ _ _ h => h) (.inl ⟨by rfl, ?_⟩) (by first | assumption | rfl) ?_
            rotate_left
            · intro w hS; try subst hS
              go_simp; try with_reducible rfl
            try simp only [Act.put, List.setIfInBounds_toArray, List.set_cons_zero, List.set_cons_succ]
            refine AnyH.take (i := 10) (d := some 54) (v := ?_) (by kernel_rfl) rfl rfl HF (fun _ _ _ h => h) (.inl ⟨by rfl, ?_⟩) (by first | assumption | rfl) ?_
            rotate_left
            · intro w hS; try subst hS
              go_simp; try with_reducible rfl
            try simp only [Act.put, List.setIfInBounds_toArray, List.set_cons_zero, List.set_cons_succ]
            refine AnyH.take (i := 11) (d := some 55) (v := ?_) (by kernel_rfl) rfl rfl HF (fun _ _ _ h => h) (.inl ⟨by rfl, ?_⟩) (by first | assumption | rfl) ?_
            rotate_left
            · intro w hS; try subst hS
              go_simp; try with_reducible rfl
            try simp only [Act.put, List.setIfInBounds_toArray, List.set_cons_zero, List.set_cons_succ]
            refine AnyH.take (i := 12) (d := some 56) (v := ?_) (by kernel_rfl) rfl rfl HF (fun _ _ _ h => h) (.inl ⟨by rfl, ?_⟩) (by first | assumption | rfl) ?_
            rotate_left
            · intro w hS; try subst hS
              go_simp; try with_reducible rfl
            try simp only [Act.put, List.setIfInBounds_toArray, List.set_cons_zero, List.set_cons_succ]
            refine AnyH.take (i := 13) (d := some 57) (v := ?_) (by kernel_rfl) rfl rfl HF (fun _ _ _ h => h) (.inl ⟨by rfl, ?_⟩) (by first | assumption | rfl) ?_
            rotate_left
            · intro w hS; try subst hS
              go_simp; try with_reducible rfl
            try simp only [Act.put, List.setIfInBounds_toArray, List.set_cons_zero, List.set_cons_succ]
            refine AnyH.done (by kernel_rfl) ?_
            obtain ⟨w5, hw5⟩ : ∃ w, w4.drew = w := ⟨_, rfl⟩
            rw [hw5] at S0
            have B5 : Hid (Below W3.heap.size W3 w5) := Lib.hid (Below.after B4.out S0)
            obtain ⟨z0', z1', -, -⟩ := RsC.cells (below_block B5.out K1.out)
            have m4' : w5.cell? ⟨W.heap.size + 1, 4, none⟩ = some (.int .i64 (tn : Int)) := (MkC.cells (below_block B5.out K2.out)).2.2.2.2
            clear b4 q0 S0 z0 z1 m0 m1 m2 m3 m4 ca cb
            obtain ⟨g0, g1, f0, f1⟩ := RsC.cells (below_block B5.out K3.out)
            obtain ⟨wf, hwf⟩ : ∃ w, (w5.setCell ⟨W.heap.size + 2, 0, none⟩ (.slice va R.length vc)).setCell ⟨W.heap.size + 2, 1, none⟩ (.slice ua L.length uc) = w := ⟨_, rfl⟩
            have kf : RsC wf (W.heap.size + 2) (.slice va R.length vc) (.slice ua L.length uc) := by rw [← hwf]; exact (show RsC w5 (W.heap.size + 2) _ _ from below_block B5.out K3.out).set _ _
            obtain ⟨x0, x1, -, -⟩ := kf.cells
            have HBF : Hid (Below W.heap.size W wf) := Lib.hid (by
              rw [← hwf]
              exact ((Below.after B3.out B5.out).setCell (p := ⟨W.heap.size + 2, 0, none⟩) (by simp) _).setCell (p := ⟨W.heap.size + 2, 1, none⟩) (by simp) _)
            have HKT : Hid (∀ t, 61 ≠ t → KeepT t w5 wf) := Lib.hid (fun t ht => by
              rw [← hwf]
              exact (KeepT.setCell (a := ⟨W.heap.size + 2, 0, none⟩) (show w5.heap[W.heap.size + 2]? = _ from below_block B5.out K3.out) ht).trans (KeepT.setCell (a := ⟨W.heap.size + 2, 1, none⟩) (show (w5.setCell ⟨W.heap.size + 2, 0, none⟩ (.slice va R.length vc)).heap[W.heap.size + 2]? = _ from heap_set0 _ (below_block B5.out K3.out)) ht))
            clear kf
            go_wp2_with fail
            exact bodyPost_ret (v := .tuple #[.agg #[.slice va R.length vc, .slice ua L.length uc], .int .i64 (0)]) (by simp [results, Try.results50, go_sem, x0, x1]) rfl ⟨_, _, by rw [HE.out]; try rfl, by rw [HE.out]; exact SlA.keep (SlA.below HR.out B5.out) (HKT.out _ (by decide)), by rw [HE.out]; exact SlA.keep (SlA.below HL.out B5.out) (HKT.out _ (by decide)), HBF.out⟩
          · have HA4 : Hid ((if (tn : Int) = 1 then ((R, L), l) else addR R L ⟨3, 0, l, 0, (tn : Int).toNat⟩ (n * (tn : Int).toNat)) = A) := Lib.hid (by rw [← HA3.out, if_neg (show ¬ (l = 0 ∨ (tn : Int) ≤ 0 ∨ (tn : Int) > (q : Int)) by omega)])
            have hbn : ¬ q < tn := by omega
            have hbm : tn ≤ q := by omega
            by_cases h1 : (tn : Int) = 1
            · have HE : Hid (A = ((R, L), l)) := Lib.hid (by rw [← HA4.out, if_pos h1])
              have h1i : ((tn : Int) == 1) = true := by simp; omega
              clear h1
              go_enter Try.func50, Try.ntmps50
              go_wp2_with fail
              clear hW1 hW2 hW3
              refine (pick_any _ lf S.length HS0.out hSl).mono ?_; rintro e w ⟨rfl, h⟩; rw [h, PA.out]; clear h w
              go_wp2_with fail
              refine (pick_any _ rt S.length HS0.out hSl).mono ?_; rintro e w ⟨rfl, h⟩; rw [h, PB.out]; clear h w
              go_wp2_with fail
              refine (pick_any _ kd 4 (by omega) (by omega)).mono ?_; rintro e w ⟨rfl, h⟩; rw [h, PC.out]; clear h w
              go_wp2_with fail
              refine HLN.out.mono ?_
              rintro e w4 ⟨rfl, b4⟩
              have B4 := Lib.hid b4
              have q0 : ∀ w, Below w4.heap.size w4 w → w.cell? ⟨W.heap.size + 1, 4, none⟩ = some (.int .i64 (tn : Int)) := fun w hw => (MkC.cells (below_block (Below.after B4.out hw) K2.out)).2.2.2.2
              go_wp2_with fail
              refine wp_region_anyH (Below w4.heap.size w4) (by kernel_rfl) ?_
              have S0 : Below w4.heap.size w4 w4.drew := (Below.refl _ _).drew
              refine AnyH.take (i := 0) (d := some 44) (v := ?_) (by kernel_rfl) rfl rfl HF (fun _ _ _ h => h) (.inl ⟨by rfl, ?_⟩) (by first | assumption | rfl) ?_
              rotate_left
              · intro w hS; try subst hS
                go_simp; try with_reducible rfl
              try simp only [Act.put, List.setIfInBounds_toArray, List.set_cons_zero, List.set_cons_succ]
              refine AnyH.take (i := 1) (d := some 45) (v := ?_) (by kernel_rfl) rfl rfl HF (fun _ _ _ h => h) (.inl ⟨by rfl, ?_⟩) (by first | assumption | rfl) ?_
              rotate_left
              · intro w hS; try subst hS
                go_simp; try with_reducible rfl
              try simp only [Act.put, List.setIfInBounds_toArray, List.set_cons_zero, List.set_cons_succ]
              refine AnyH.take (i := 2) (d := some 46) (v := ?_) (by kernel_rfl) rfl rfl HF (fun _ _ _ h => h) (.inl ⟨by rfl, ?_⟩) (by first | assumption | rfl) ?_
              rotate_left
              · intro w hS; try subst hS
                go_simp; try with_reducible rfl
              try simp only [Act.put, List.setIfInBounds_toArray, List.set_cons_zero, List.set_cons_succ]
              refine AnyH.take (i := 3) (d := some 47) (v := ?_) (by kernel_rfl) rfl rfl HF (fun _ _ _ h => h) (.inl ⟨by rfl, ?_⟩) (by first | assumption | rfl) ?_
              rotate_left
              · intro w hS; try subst hS
                go_simp; try with_reducible rfl
              try simp only [Act.put, List.setIfInBounds_toArray, List.set_cons_zero, List.set_cons_succ]
              refine AnyH.take (i := 4) (d := some 48) (v := ?_) (by kernel_rfl) rfl rfl HF (fun _ _ _ h => h) (.inl ⟨by rfl, ?_⟩) (by first | assumption | rfl) ?_
              rotate_left
              · intro w hS; try subst hS
                go_simp; try with_reducible rfl
              try simp only [Act.put, List.setIfInBounds_toArray, List.set_cons_zero, List.set_cons_succ]
              refine AnyH.take (i := 5) (d := some 49) (v := ?_) (by kernel_rfl) rfl rfl HF (fun _ _ _ h => h) (.inl ⟨by rfl, ?_⟩) (by first | assumption | rfl) ?_
              rotate_left
              · intro w hS; try subst hS
                go_simp; try with_reducible rfl
              try simp only [Act.put, List.setIfInBounds_toArray, List.set_cons_zero, List.set_cons_succ]
              refine AnyH.take (i := 6) (d := some 50) (v := ?_) (by kernel_rfl) rfl rfl HF (fun _ _ _ h => h) (.inl ⟨by rfl, ?_⟩) (by first | assumption | rfl) ?_
              rotate_left
              · intro w hS; try subst hS
                go_simp; try with_reducible rfl
              try simp only [Act.put, List.setIfInBounds_toArray, List.set_cons_zero, List.set_cons_succ]
              refine AnyH.take (i := 7) (d := some 51) (v := ?_) (by kernel_rfl) rfl rfl HF (fun _ _ _ h => h) (.inl ⟨by rfl, ?_⟩) (by first | assumption | rfl) ?_
              rotate_left
              · intro w hS; try subst hS
                go_simp; try with_reducible rfl
              try simp only [Act.put, List.setIfInBounds_toArray, List.set_cons_zero, List.set_cons_succ]
              refine AnyH.take (i := 8) (d := some 52) (v := ?_) (by kernel_rfl) rfl rfl HF (fun _ _ _ h => h) (.inl ⟨by rfl, ?_⟩) (by first | assumption | rfl) ?_
              rotate_left
              · intro w hS; try subst hS
                go_simp; try with_reducible rfl
              try simp only [Act.put, List.setIfInBounds_toArray, List.set_cons_zero, List.set_cons_succ]
              refine AnyH.take (i := 9) (d := some 53) (v := ?_) (by kernel_rfl) rfl rfl HF (fun _ _ _ h => h) (.inl ⟨by rfl, ?_⟩) (by first | assumption | rfl) ?_
              rotate_left
              · intro w hS; try subst hS
                go_simp; try with_reducible rfl
              try simp only [Act.put, List.setIfInBounds_toArray, List.set_cons_zero, List.set_cons_succ]
              refine AnyH.take (i := 10) (d := some 54) (v := ?_) (by kernel_rfl) rfl rfl HF (fun _ _ _ h => h) (.inl ⟨by rfl, ?_⟩) (by first | assumption | rfl) ?_
              rotate_left
              · intro w hS; try subst hS
                go_simp; try with_reducible rfl
              try simp only [Act.put, List.setIfInBounds_toArray, List.set_cons_zero, List.set_cons_succ]
              refine AnyH.take (i := 11) (d := some 55) (v := ?_) (by kernel_rfl) rfl rfl HF (fun _ _ _ h => h) (.inl ⟨by rfl, ?_⟩) (by first | assumption | rfl) ?_
              rotate_left
              · intro w hS; try subst hS
                go_simp; try with_reducible rfl
              try simp only [Act.put, List.setIfInBounds_toArray, List.set_cons_zero, List.set_cons_succ]
              refine AnyH.take (i := 12) (d := some 56) (v := ?_) (by kernel_rfl) rfl rfl HF (fun _ _ _ h => h) (.inl ⟨by rfl, ?_⟩) (by first | assumption | rfl) ?_
              rotate_left
              · intro w hS; try subst hS
                go_simp; try with_reducible rfl
              try simp only [Act.put, List.setIfInBounds_toArray, List.set_cons_zero, List.set_cons_succ]
              refine AnyH.take (i := 13) (d := some 57) (v := ?_) (by kernel_rfl) rfl rfl HF (fun _ _ _ h => h) (.inl ⟨by rfl, ?_⟩) (by first | assumption | rfl) ?_
              rotate_left
              · intro w hS; try subst hS
                go_simp; try with_reducible rfl
              try simp only [Act.put, List.setIfInBounds_toArray, List.set_cons_zero, List.set_cons_succ]
              refine AnyH.done (by kernel_rfl) ?_
              obtain ⟨w5, hw5⟩ : ∃ w, w4.drew = w := ⟨_, rfl⟩
              rw [hw5] at S0
              have B5 : Hid (Below W3.heap.size W3 w5) := Lib.hid (Below.after B4.out S0)
              obtain ⟨z0', z1', -, -⟩ := RsC.cells (below_block B5.out K1.out)
              have m4' : w5.cell? ⟨W.heap.size + 1, 4, none⟩ = some (.int .i64 (tn : Int)) := (MkC.cells (below_block B5.out K2.out)).2.2.2.2
              clear b4 q0 S0 z0 z1 m0 m1 m2 m3 m4 ca cb
              obtain ⟨g0, g1, f0, f1⟩ := RsC.cells (below_block B5.out K3.out)
              obtain ⟨wf, hwf⟩ : ∃ w, (w5.setCell ⟨W.heap.size + 2, 0, none⟩ (.slice va R.length vc)).setCell ⟨W.heap.size + 2, 1, none⟩ (.slice ua L.length uc) = w := ⟨_, rfl⟩
              have kf : RsC wf (W.heap.size + 2) (.slice va R.length vc) (.slice ua L.length uc) := by rw [← hwf]; exact (show RsC w5 (W.heap.size + 2) _ _ from below_block B5.out K3.out).set _ _
              obtain ⟨x0, x1, -, -⟩ := kf.cells
              have HBF : Hid (Below W.heap.size W wf) := Lib.hid (by
                rw [← hwf]
                exact ((Below.after B3.out B5.out).setCell (p := ⟨W.heap.size + 2, 0, none⟩) (by simp) _).setCell (p := ⟨W.heap.size + 2, 1, none⟩) (by simp) _)
              have HKT : Hid (∀ t, 61 ≠ t → KeepT t w5 wf) := Lib.hid (fun t ht => by
                rw [← hwf]
                exact (KeepT.setCell (a := ⟨W.heap.size + 2, 0, none⟩) (show w5.heap[W.heap.size + 2]? = _ from below_block B5.out K3.out) ht).trans (KeepT.setCell (a := ⟨W.heap.size + 2, 1, none⟩) (show (w5.setCell ⟨W.heap.size + 2, 0, none⟩ (.slice va R.length vc)).heap[W.heap.size + 2]? = _ from heap_set0 _ (below_block B5.out K3.out)) ht))
              clear kf
              go_wp2_with fail
              exact bodyPost_ret (v := .tuple #[.agg #[.slice va R.length vc, .slice ua L.length uc], .int .i64 (l)]) (by simp [results, Try.results50, go_sem, x0, x1]) rfl ⟨_, _, by rw [HE.out]; try rfl, by rw [HE.out]; exact SlA.keep (SlA.below HR.out B5.out) (HKT.out _ (by decide)), by rw [HE.out]; exact SlA.keep (SlA.below HL.out B5.out) (HKT.out _ (by decide)), HBF.out⟩
            · have HE : Hid (A = addR R L ⟨3, 0, l, 0, tn⟩ (n * tn)) := Lib.hid (by rw [← HA4.out, if_neg h1]; simp)
              have h1i : ((tn : Int) == 1) = false := by simp; omega
              have hmul : n * tn ≤ 1152921504606846976 := by
                have : tn ≤ 1152921504606846976 / n := by rw [HQ.out]; omega
                have := (Nat.le_div_iff_mul_le (by omega)).1 this
                rw [Nat.mul_comm]; exact this
              obtain ⟨p, hp⟩ : ∃ p, n * tn = p := ⟨_, rfl⟩
              rw [hp] at hmul HE
              have hpw : IntKind.i64.wrap ((n : Int) * (tn : Int)) = (p : Int) := by rw [← Int.natCast_mul, hp, IntKind.wrap_i64]; omega
              clear hp
              go_enter Try.func50, Try.ntmps50
              go_wp2_with fail
              clear hW1 hW2 hW3
              refine (pick_any _ lf S.length HS0.out hSl).mono ?_; rintro e w ⟨rfl, h⟩; rw [h, PA.out]; clear h w
              go_wp2_with fail
              refine (pick_any _ rt S.length HS0.out hSl).mono ?_; rintro e w ⟨rfl, h⟩; rw [h, PB.out]; clear h w
              go_wp2_with fail
              refine (pick_any _ kd 4 (by omega) (by omega)).mono ?_; rintro e w ⟨rfl, h⟩; rw [h, PC.out]; clear h w
              go_wp2_with fail
              refine HLN.out.mono ?_
              rintro e w4 ⟨rfl, b4⟩
              have B4 := Lib.hid b4
              have q0 : ∀ w, Below w4.heap.size w4 w → w.cell? ⟨W.heap.size + 1, 4, none⟩ = some (.int .i64 (tn : Int)) := fun w hw => (MkC.cells (below_block (Below.after B4.out hw) K2.out)).2.2.2.2
              go_wp2_with fail
              refine wp_region_anyH (Below w4.heap.size w4) (by kernel_rfl) ?_
              have S0 : Below w4.heap.size w4 w4.drew := (Below.refl _ _).drew
              refine AnyH.take (i := 0) (d := some 44) (v := ?_) (by kernel_rfl) rfl rfl HF (fun _ _ _ h => h) (.inl ⟨by rfl, ?_⟩) (by first | assumption | rfl) ?_
              rotate_left
              · intro w hS; try subst hS
                go_simp; try with_reducible rfl
              try simp only [Act.put, List.setIfInBounds_toArray, List.set_cons_zero, List.set_cons_succ]
              refine AnyH.take (i := 1) (d := some 45) (v := ?_) (by kernel_rfl) rfl rfl HF (fun _ _ _ h => h) (.inl ⟨by rfl, ?_⟩) (by first | assumption | rfl) ?_
              rotate_left
              · intro w hS; try subst hS
                go_simp; try with_reducible rfl
              try simp only [Act.put, List.setIfInBounds_toArray, List.set_cons_zero, List.set_cons_succ]
              refine AnyH.take (i := 2) (d := some 46) (v := ?_) (by kernel_rfl) rfl rfl HF (fun _ _ _ h => h) (.inl ⟨by rfl, ?_⟩) (by first | assumption | rfl) ?_
              rotate_left
              · intro w hS; try subst hS
                go_simp; try with_reducible rfl
              try simp only [Act.put, List.setIfInBounds_toArray, List.set_cons_zero, List.set_cons_succ]
              refine AnyH.take (i := 3) (d := some 47) (v := ?_) (by kernel_rfl) rfl rfl HF (fun _ _ _ h => h) (.inl ⟨by rfl, ?_⟩) (by first | assumption | rfl) ?_
              rotate_left
              · intro w hS; try subst hS
                go_simp; try with_reducible rfl
              try simp only [Act.put, List.setIfInBounds_toArray, List.set_cons_zero, List.set_cons_succ]
              refine AnyH.take (i := 4) (d := some 48) (v := ?_) (by kernel_rfl) rfl rfl HF (fun _ _ _ h => h) (.inl ⟨by rfl, ?_⟩) (by first | assumption | rfl) ?_
              rotate_left
              · intro w hS; try subst hS
                go_simp; try with_reducible rfl
              try simp only [Act.put, List.setIfInBounds_toArray, List.set_cons_zero, List.set_cons_succ]
              refine AnyH.take (i := 5) (d := some 49) (v := ?_) (by kernel_rfl) rfl rfl HF (fun _ _ _ h => h) (.inl ⟨by rfl, ?_⟩) (by first | assumption | rfl) ?_
              rotate_left
              · intro w hS; try subst hS
                go_simp; try with_reducible rfl
              try simp only [Act.put, List.setIfInBounds_toArray, List.set_cons_zero, List.set_cons_succ]
              refine AnyH.take (i := 6) (d := some 50) (v := ?_) (by kernel_rfl) rfl rfl HF (fun _ _ _ h => h) (.inl ⟨by rfl, ?_⟩) (by first | assumption | rfl) ?_
              rotate_left
              · intro w hS; try subst hS
                go_simp; try with_reducible rfl
              try simp only [Act.put, List.setIfInBounds_toArray, List.set_cons_zero, List.set_cons_succ]
              refine AnyH.take (i := 7) (d := some 51) (v := ?_) (by kernel_rfl) rfl rfl HF (fun _ _ _ h => h) (.inl ⟨by rfl, ?_⟩) (by first | assumption | rfl) ?_
              rotate_left
              · intro w hS; try subst hS
                go_simp; try with_reducible rfl
              try simp only [Act.put, List.setIfInBounds_toArray, List.set_cons_zero, List.set_cons_succ]
              refine AnyH.take (i := 8) (d := some 52) (v := ?_) (by kernel_rfl) rfl rfl HF (fun _ _ _ h => h) (.inl ⟨by rfl, ?_⟩) (by first | assumption | rfl) ?_
              rotate_left
              · intro w hS; try subst hS
                go_simp; try with_reducible rfl
              try simp only [Act.put, List.setIfInBounds_toArray, List.set_cons_zero, List.set_cons_succ]
              refine AnyH.take (i := 9) (d := some 53) (v := ?_) (by kernel_rfl) rfl rfl HF (fun _ _ _ h => h) (.inl ⟨by rfl, ?_⟩) (by first | assumption | rfl) ?_
              rotate_left
              · intro w hS; try subst hS
                go_simp; try with_reducible rfl
              try simp only [Act.put, List.setIfInBounds_toArray, List.set_cons_zero, List.set_cons_succ]
              refine AnyH.take (i := 10) (d := some 54) (v := ?_) (by kernel_rfl) rfl rfl HF (fun _ _ _ h => h) (.inl ⟨by rfl, ?_⟩) (by first | assumption | rfl) ?_
              rotate_left
              · intro w hS; try subst hS
                go_simp; try with_reducible rfl
              try simp only [Act.put, List.setIfInBounds_toArray, List.set_cons_zero, List.set_cons_succ]
              refine AnyH.take (i := 11) (d := some 55) (v := ?_) (by kernel_rfl) rfl rfl HF (fun _ _ _ h => h) (.inl ⟨by rfl, ?_⟩) (by first | assumption | rfl) ?_
              rotate_left
              · intro w hS; try subst hS
                go_simp; try with_reducible rfl
              try simp only [Act.put, List.setIfInBounds_toArray, List.set_cons_zero, List.set_cons_succ]
              refine AnyH.take (i := 12) (d := some 56) (v := ?_) (by kernel_rfl) rfl rfl HF (fun _ _ _ h => h) (.inl ⟨by rfl, ?_⟩) (by first | assumption | rfl) ?_
              rotate_left
              · intro w hS; try subst hS
                go_simp; try with_reducible rfl
              try simp only [Act.put, List.setIfInBounds_toArray, List.set_cons_zero, List.set_cons_succ]
              refine AnyH.take (i := 13) (d := some 57) (v := ?_) (by kernel_rfl) rfl rfl HF (fun _ _ _ h => h) (.inl ⟨by rfl, ?_⟩) (by first | assumption | rfl) ?_
              rotate_left
              · intro w hS; try subst hS
                go_simp; try with_reducible rfl
              try simp only [Act.put, List.setIfInBounds_toArray, List.set_cons_zero, List.set_cons_succ]
              refine AnyH.done (by kernel_rfl) ?_
              obtain ⟨w5, hw5⟩ : ∃ w, w4.drew = w := ⟨_, rfl⟩
              rw [hw5] at S0
              have B5 : Hid (Below W3.heap.size W3 w5) := Lib.hid (Below.after B4.out S0)
              obtain ⟨z0', z1', -, -⟩ := RsC.cells (below_block B5.out K1.out)
              have m4' : w5.cell? ⟨W.heap.size + 1, 4, none⟩ = some (.int .i64 (tn : Int)) := (MkC.cells (below_block B5.out K2.out)).2.2.2.2
              clear b4 q0 S0 z0 z1 m0 m1 m2 m3 m4 ca cb
              go_wp2_with fail
              refine (refAdd_any (SlA.below HR.out B5.out) (SlA.below HL.out B5.out) ⟨3, 0, l, 0, tn⟩ p HRL.out hl).mono ?_
              rintro e w6 ⟨v5, u5, rfl, hr5, hl5, b5⟩
              rw [← HE.out] at hr5 hl5
              obtain ⟨va5, vc5, rfl⟩ := hr5.len
              obtain ⟨ua5, uc5, rfl⟩ := hl5.len
              obtain ⟨n1, hn1⟩ : ∃ n, A.1.1.length = n := ⟨_, rfl⟩
              obtain ⟨n2, hn2⟩ : ∃ n, A.1.2.length = n := ⟨_, rfl⟩
              obtain ⟨n3, hn3⟩ : ∃ n, A.2 = n := ⟨_, rfl⟩
              rw [← HE.out]
              rw [hn1] at hr5 ⊢
              rw [hn2] at hl5 ⊢
              rw [hn3]
              have HR5 := Lib.hid hr5; have HL5 := Lib.hid hl5; have B6 := Lib.hid (Below.after B5.out b5); have HN3 := Lib.hid hn3
              clear hr5 hl5 b5 hn1 hn2 hn3
              obtain ⟨g0, g1, f0, f1⟩ := RsC.cells (below_block B6.out K3.out)
              obtain ⟨wf, hwf⟩ : ∃ w, (w6.setCell ⟨W.heap.size + 2, 0, none⟩ (.slice va5 n1 vc5)).setCell ⟨W.heap.size + 2, 1, none⟩ (.slice ua5 n2 uc5) = w := ⟨_, rfl⟩
              have kf : RsC wf (W.heap.size + 2) (.slice va5 n1 vc5) (.slice ua5 n2 uc5) := by rw [← hwf]; exact (show RsC w6 (W.heap.size + 2) _ _ from below_block B6.out K3.out).set _ _
              obtain ⟨x0, x1, -, -⟩ := kf.cells
              have HBF : Hid (Below W.heap.size W wf) := Lib.hid (by
                rw [← hwf]
                exact ((Below.after B3.out B6.out).setCell (p := ⟨W.heap.size + 2, 0, none⟩) (by simp) _).setCell (p := ⟨W.heap.size + 2, 1, none⟩) (by simp) _)
              have HKT : Hid (∀ t, 61 ≠ t → KeepT t w6 wf) := Lib.hid (fun t ht => by
                rw [← hwf]
                exact (KeepT.setCell (a := ⟨W.heap.size + 2, 0, none⟩) (show w6.heap[W.heap.size + 2]? = _ from below_block B6.out K3.out) ht).trans (KeepT.setCell (a := ⟨W.heap.size + 2, 1, none⟩) (show (w6.setCell ⟨W.heap.size + 2, 0, none⟩ (.slice va5 n1 vc5)).heap[W.heap.size + 2]? = _ from heap_set0 _ (below_block B6.out K3.out)) ht))
              clear kf
              go_wp2_with fail
              exact bodyPost_ret (v := .tuple #[.agg #[.slice va5 n1 vc5, .slice ua5 n2 uc5], .int .i64 (n3)]) (by simp [results, Try.results50, go_sem, x0, x1]) rfl ⟨_, _, by rw [HN3.out]; try rfl, by exact SlA.keep (HR5.out) (HKT.out _ (by decide)), by exact SlA.keep (HL5.out) (HKT.out _ (by decide)), HBF.out⟩
    · have h3i : ((k : Int) == 3) = false := by simp; omega
      have HA3 : Hid ((if l = 0 then ((R, L), r) else if r = 0 then ((R, L), l) else if lenAt L l > 1152921504606846976 - lenAt L r then ((R, L), 0) else addR R L ⟨2, 0, l, r, 0⟩ (lenAt L l + lenAt L r)) = A) := Lib.hid (by rw [← HAA.out, if_neg h0, if_neg h3])
      by_cases hl0 : l = 0
      · have HE : Hid (A = ((R, L), r)) := Lib.hid (by rw [← HA3.out, if_pos hl0])
        have hl0i : ((l : Int) == 0) = true := by simp; omega
        clear hl0
        obtain ⟨g0, g1, f0, f1⟩ := RsC.cells (below_block (Below.refl _ _) K3.out)
        obtain ⟨wf, hwf⟩ : ∃ w, (W3.setCell ⟨W.heap.size + 2, 0, none⟩ (.slice va R.length vc)).setCell ⟨W.heap.size + 2, 1, none⟩ (.slice ua L.length uc) = w := ⟨_, rfl⟩
        have kf : RsC wf (W.heap.size + 2) (.slice va R.length vc) (.slice ua L.length uc) := by rw [← hwf]; exact (show RsC W3 (W.heap.size + 2) _ _ from below_block (Below.refl _ _) K3.out).set _ _
        obtain ⟨x0, x1, -, -⟩ := kf.cells
        have HBF : Hid (Below W.heap.size W wf) := Lib.hid (by
          rw [← hwf]
          exact ((Below.after B3.out (Below.refl _ _)).setCell (p := ⟨W.heap.size + 2, 0, none⟩) (by simp) _).setCell (p := ⟨W.heap.size + 2, 1, none⟩) (by simp) _)
        have HKT : Hid (∀ t, 61 ≠ t → KeepT t W3 wf) := Lib.hid (fun t ht => by
          rw [← hwf]
          exact (KeepT.setCell (a := ⟨W.heap.size + 2, 0, none⟩) (show W3.heap[W.heap.size + 2]? = _ from below_block (Below.refl _ _) K3.out) ht).trans (KeepT.setCell (a := ⟨W.heap.size + 2, 1, none⟩) (show (W3.setCell ⟨W.heap.size + 2, 0, none⟩ (.slice va R.length vc)).heap[W.heap.size + 2]? = _ from heap_set0 _ (below_block (Below.refl _ _) K3.out)) ht))
        clear kf
        go_enter Try.func50, Try.ntmps50
        go_wp2_with fail
        clear hW1 hW2 hW3
        refine (pick_any _ lf S.length HS0.out hSl).mono ?_; rintro e w ⟨rfl, h⟩; rw [h, PA.out]; clear h w
        go_wp2_with fail
        refine (pick_any _ rt S.length HS0.out hSl).mono ?_; rintro e w ⟨rfl, h⟩; rw [h, PB.out]; clear h w
        go_wp2_with fail
        refine (pick_any _ kd 4 (by omega) (by omega)).mono ?_; rintro e w ⟨rfl, h⟩; rw [h, PC.out]; clear h w
        go_wp2_with fail
        exact bodyPost_ret (v := .tuple #[.agg #[.slice va R.length vc, .slice ua L.length uc], .int .i64 (r)]) (by simp [results, Try.results50, go_sem, x0, x1]) rfl ⟨_, _, by rw [HE.out]; try rfl, by rw [HE.out]; exact SlA.keep (SlA.below HR.out (Below.refl _ _)) (HKT.out _ (by decide)), by rw [HE.out]; exact SlA.keep (SlA.below HL.out (Below.refl _ _)) (HKT.out _ (by decide)), HBF.out⟩
      · have hl0i : ((l : Int) == 0) = false := by simp; omega
        by_cases hr0 : r = 0
        · have HE : Hid (A = ((R, L), l)) := Lib.hid (by rw [← HA3.out, if_neg hl0, if_pos hr0])
          have hr0i : ((r : Int) == 0) = true := by simp; omega
          clear hr0 hl0
          obtain ⟨g0, g1, f0, f1⟩ := RsC.cells (below_block (Below.refl _ _) K3.out)
          obtain ⟨wf, hwf⟩ : ∃ w, (W3.setCell ⟨W.heap.size + 2, 0, none⟩ (.slice va R.length vc)).setCell ⟨W.heap.size + 2, 1, none⟩ (.slice ua L.length uc) = w := ⟨_, rfl⟩
          have kf : RsC wf (W.heap.size + 2) (.slice va R.length vc) (.slice ua L.length uc) := by rw [← hwf]; exact (show RsC W3 (W.heap.size + 2) _ _ from below_block (Below.refl _ _) K3.out).set _ _
          obtain ⟨x0, x1, -, -⟩ := kf.cells
          have HBF : Hid (Below W.heap.size W wf) := Lib.hid (by
            rw [← hwf]
            exact ((Below.after B3.out (Below.refl _ _)).setCell (p := ⟨W.heap.size + 2, 0, none⟩) (by simp) _).setCell (p := ⟨W.heap.size + 2, 1, none⟩) (by simp) _)
          have HKT : Hid (∀ t, 61 ≠ t → KeepT t W3 wf) := Lib.hid (fun t ht => by
            rw [← hwf]
            exact (KeepT.setCell (a := ⟨W.heap.size + 2, 0, none⟩) (show W3.heap[W.heap.size + 2]? = _ from below_block (Below.refl _ _) K3.out) ht).trans (KeepT.setCell (a := ⟨W.heap.size + 2, 1, none⟩) (show (W3.setCell ⟨W.heap.size + 2, 0, none⟩ (.slice va R.length vc)).heap[W.heap.size + 2]? = _ from heap_set0 _ (below_block (Below.refl _ _) K3.out)) ht))
          clear kf
          go_enter Try.func50, Try.ntmps50
          go_wp2_with fail
          clear hW1 hW2 hW3
          refine (pick_any _ lf S.length HS0.out hSl).mono ?_; rintro e w ⟨rfl, h⟩; rw [h, PA.out]; clear h w
          go_wp2_with fail
          refine (pick_any _ rt S.length HS0.out hSl).mono ?_; rintro e w ⟨rfl, h⟩; rw [h, PB.out]; clear h w
          go_wp2_with fail
          refine (pick_any _ kd 4 (by omega) (by omega)).mono ?_; rintro e w ⟨rfl, h⟩; rw [h, PC.out]; clear h w
          go_wp2_with fail
          exact bodyPost_ret (v := .tuple #[.agg #[.slice va R.length vc, .slice ua L.length uc], .int .i64 (l)]) (by simp [results, Try.results50, go_sem, x0, x1]) rfl ⟨_, _, by rw [HE.out]; try rfl, by rw [HE.out]; exact SlA.keep (SlA.below HR.out (Below.refl _ _)) (HKT.out _ (by decide)), by rw [HE.out]; exact SlA.keep (SlA.below HL.out (Below.refl _ _)) (HKT.out _ (by decide)), HBF.out⟩
        · have hr0i : ((r : Int) == 0) = false := by simp; omega
          have hnb := lenAt_in HLB.out hl0 hxl
          have hmb := lenAt_in HLB.out hr0 hxr
          have HLN : Hid (∀ w, Below W3.heap.size W3 w → Calls Try.prog 77 #[.agg #[.slice va R.length vc, .slice ua L.length uc], .int .i64 l] w fun e w' => e = .returned (.int .i64 (lenAt L l)) ∧ Below w.heap.size w w') := Lib.hid (fun w hw => refLen_any (v := .slice va R.length vc) (SlA.below HL.out hw) hxl HLL ⟨_, _, _, rfl⟩)
          have HLM : Hid (∀ w, Below W3.heap.size W3 w → Calls Try.prog 77 #[.agg #[.slice va R.length vc, .slice ua L.length uc], .int .i64 r] w fun e w' => e = .returned (.int .i64 (lenAt L r)) ∧ Below w.heap.size w w') := Lib.hid (fun w hw => refLen_any (v := .slice va R.length vc) (SlA.below HL.out hw) hxr HLL ⟨_, _, _, rfl⟩)
          obtain ⟨n, hn⟩ : ∃ n, lenAt L l = n := ⟨_, rfl⟩
          obtain ⟨p, hp⟩ : ∃ n, lenAt L r = n := ⟨_, rfl⟩
          rw [hn] at HLN hnb
          rw [hp] at HLM hmb
          rw [hn, hp] at HA3
          have hsw : IntKind.i64.wrap (1152921504606846976 - (p : Int)) = 1152921504606846976 - (p : Int) := by rw [IntKind.wrap_i64]; omega
          have haw : IntKind.i64.wrap ((n : Int) + (p : Int)) = ((n + p : Nat) : Int) := by rw [IntKind.wrap_i64]; omega
          have Z0 : ∀ w, Below W3.heap.size W3 w → w.cell? ⟨W.heap.size, 0, none⟩ = some (.slice va R.length vc) := fun w hw => (RsC.cells (below_block hw K1.out)).1
          have Z1 : ∀ w, Below W3.heap.size W3 w → w.cell? ⟨W.heap.size, 1, none⟩ = some (.slice ua L.length uc) := fun w hw => (RsC.cells (below_block hw K1.out)).2.1
          clear hn hp
          by_cases hbig : n > 1152921504606846976 - p
          · have HE : Hid (A = ((R, L), 0)) := Lib.hid (by rw [← HA3.out, if_neg hl0, if_neg hr0, if_pos hbig])
            have hbi : (n : Int) > 1152921504606846976 - (p : Int) := by omega
            go_enter Try.func50, Try.ntmps50
            go_wp2_with fail
            clear hW1 hW2 hW3
            refine (pick_any _ lf S.length HS0.out hSl).mono ?_; rintro e w ⟨rfl, h⟩; rw [h, PA.out]; clear h w
            go_wp2_with fail
            refine (pick_any _ rt S.length HS0.out hSl).mono ?_; rintro e w ⟨rfl, h⟩; rw [h, PB.out]; clear h w
            go_wp2_with fail
            refine (pick_any _ kd 4 (by omega) (by omega)).mono ?_; rintro e w ⟨rfl, h⟩; rw [h, PC.out]; clear h w
            go_wp2_with fail
            clear z0 z1 m0 m1 m2 m3 m4 ca cb
            refine wp_region_anyH (Below W3.heap.size W3) (by kernel_rfl) ?_
            have S0 : Below W3.heap.size W3 W3.drew := (Below.refl _ _).drew
            refine AnyH.take (i := 0) (d := some 84) (v := ?_) (by kernel_rfl) rfl rfl HF (fun _ _ _ h => h) (.inl ⟨by rfl, ?_⟩) (by first | assumption | rfl) ?_
            rotate_left
            · intro w hS; try subst hS
              go_simp; try with_reducible rfl
            try simp only [Act.put, List.setIfInBounds_toArray, List.set_cons_zero, List.set_cons_succ]
            refine AnyH.take (i := 1) (d := some 85) (v := ?_) (by kernel_rfl) rfl rfl HF (fun _ _ _ h => h) (.inl ⟨by rfl, ?_⟩) (by first | assumption | rfl) ?_
            rotate_left
            · intro w hS; try subst hS
              go_simp; try with_reducible rfl
            try simp only [Act.put, List.setIfInBounds_toArray, List.set_cons_zero, List.set_cons_succ]
            refine AnyH.take (i := 3) (d := some 87) (v := ?_) (by kernel_rfl) rfl rfl HF (fun _ _ _ h => h) (.inl ⟨by rfl, ?_⟩) (by first | assumption | rfl) ?_
            rotate_left
            · intro w hS; try subst hS
              go_simp; try with_reducible rfl
            try simp only [Act.put, List.setIfInBounds_toArray, List.set_cons_zero, List.set_cons_succ]
            refine AnyH.take (i := 4) (d := some 88) (v := ?_) (by kernel_rfl) rfl rfl HF (fun _ _ _ h => h) (.inl ⟨by rfl, ?_⟩) (by first | assumption | rfl) ?_
            rotate_left
            · intro w hS; try subst hS
              go_simp; try with_reducible rfl
            try simp only [Act.put, List.setIfInBounds_toArray, List.set_cons_zero, List.set_cons_succ]
            refine AnyH.one (i := 2) (by kernel_rfl) (by kernel_rfl) rfl HF (by rfl) (fun K hK => ?_)
            go_simp
            first | ((with_reducible refine And.intro ?hdep ?_); (case hdep => first | rfl | (intro h; cases h))) | skip
            refine callsIn_wide.2 ((HLN.out _ S0).mono ?_)
            rintro e w4 ⟨rfl, b4⟩
            have S4 := Below.after S0 b4
            clear b4
            refine hK _ _ S4 ?_
            clear hK K
            try simp only [Act.put, List.setIfInBounds_toArray, List.set_cons_zero, List.set_cons_succ]
            refine AnyH.one (i := 5) (by kernel_rfl) (by kernel_rfl) rfl HF (by rfl) (fun K hK => ?_)
            go_simp
            first | ((with_reducible refine And.intro ?hdep ?_); (case hdep => first | rfl | (intro h; cases h))) | skip
            refine callsIn_wide.2 ((HLM.out _ S4).mono ?_)
            rintro e w5 ⟨rfl, b5⟩
            have S5 := Below.after S4 b5
            clear b5
            refine hK _ _ S5 ?_
            clear hK K
            try simp only [Act.put, List.setIfInBounds_toArray, List.set_cons_zero, List.set_cons_succ]
            refine AnyH.take (i := 6) (d := some 90) (v := ?_) (by kernel_rfl) rfl rfl HF (fun _ _ _ h => h) (.inl ⟨by rfl, ?_⟩) (by first | assumption | rfl) ?_
            rotate_left
            · intro w hS; try subst hS
              go_simp; try with_reducible rfl
            try simp only [Act.put, List.setIfInBounds_toArray, List.set_cons_zero, List.set_cons_succ]
            refine AnyH.take (i := 7) (d := some 91) (v := ?_) (by kernel_rfl) rfl rfl HF (fun _ _ _ h => h) (.inl ⟨by rfl, ?_⟩) (by first | assumption | rfl) ?_
            rotate_left
            · intro w hS; try subst hS
              go_simp; try with_reducible rfl
            try simp only [Act.put, List.setIfInBounds_toArray, List.set_cons_zero, List.set_cons_succ]
            refine AnyH.done (by kernel_rfl) ?_
            have B5 := Lib.hid S5
            obtain ⟨z0, z1, -, -⟩ := RsC.cells (below_block B5.out K1.out)
            clear S0 S4 S5
            obtain ⟨g0, g1, f0, f1⟩ := RsC.cells (below_block B5.out K3.out)
            obtain ⟨wf, hwf⟩ : ∃ w, (w5.setCell ⟨W.heap.size + 2, 0, none⟩ (.slice va R.length vc)).setCell ⟨W.heap.size + 2, 1, none⟩ (.slice ua L.length uc) = w := ⟨_, rfl⟩
            have kf : RsC wf (W.heap.size + 2) (.slice va R.length vc) (.slice ua L.length uc) := by rw [← hwf]; exact (show RsC w5 (W.heap.size + 2) _ _ from below_block B5.out K3.out).set _ _
            obtain ⟨x0, x1, -, -⟩ := kf.cells
            have HBF : Hid (Below W.heap.size W wf) := Lib.hid (by
              rw [← hwf]
              exact ((Below.after B3.out B5.out).setCell (p := ⟨W.heap.size + 2, 0, none⟩) (by simp) _).setCell (p := ⟨W.heap.size + 2, 1, none⟩) (by simp) _)
            have HKT : Hid (∀ t, 61 ≠ t → KeepT t w5 wf) := Lib.hid (fun t ht => by
              rw [← hwf]
              exact (KeepT.setCell (a := ⟨W.heap.size + 2, 0, none⟩) (show w5.heap[W.heap.size + 2]? = _ from below_block B5.out K3.out) ht).trans (KeepT.setCell (a := ⟨W.heap.size + 2, 1, none⟩) (show (w5.setCell ⟨W.heap.size + 2, 0, none⟩ (.slice va R.length vc)).heap[W.heap.size + 2]? = _ from heap_set0 _ (below_block B5.out K3.out)) ht))
            clear kf
            go_wp2_with fail
            exact bodyPost_ret (v := .tuple #[.agg #[.slice va R.length vc, .slice ua L.length uc], .int .i64 (0)]) (by simp [results, Try.results50, go_sem, x0, x1]) rfl ⟨_, _, by rw [HE.out]; try rfl, by rw [HE.out]; exact SlA.keep (SlA.below HR.out B5.out) (HKT.out _ (by decide)), by rw [HE.out]; exact SlA.keep (SlA.below HL.out B5.out) (HKT.out _ (by decide)), HBF.out⟩
          · have HE : Hid (A = addR R L ⟨2, 0, l, r, 0⟩ (n + p)) := Lib.hid (by rw [← HA3.out, if_neg hl0, if_neg hr0, if_neg hbig])
            have hbi : ¬ (n : Int) > 1152921504606846976 - (p : Int) := by omega
            go_enter Try.func50, Try.ntmps50
            go_wp2_with fail
            clear hW1 hW2 hW3
            refine (pick_any _ lf S.length HS0.out hSl).mono ?_; rintro e w ⟨rfl, h⟩; rw [h, PA.out]; clear h w
            go_wp2_with fail
            refine (pick_any _ rt S.length HS0.out hSl).mono ?_; rintro e w ⟨rfl, h⟩; rw [h, PB.out]; clear h w
            go_wp2_with fail
            refine (pick_any _ kd 4 (by omega) (by omega)).mono ?_; rintro e w ⟨rfl, h⟩; rw [h, PC.out]; clear h w
            go_wp2_with fail
            clear z0 z1 m0 m1 m2 m3 m4 ca cb
            refine wp_region_anyH (Below W3.heap.size W3) (by kernel_rfl) ?_
            have S0 : Below W3.heap.size W3 W3.drew := (Below.refl _ _).drew
            refine AnyH.take (i := 0) (d := some 84) (v := ?_) (by kernel_rfl) rfl rfl HF (fun _ _ _ h => h) (.inl ⟨by rfl, ?_⟩) (by first | assumption | rfl) ?_
            rotate_left
            · intro w hS; try subst hS
              go_simp; try with_reducible rfl
            try simp only [Act.put, List.setIfInBounds_toArray, List.set_cons_zero, List.set_cons_succ]
            refine AnyH.take (i := 1) (d := some 85) (v := ?_) (by kernel_rfl) rfl rfl HF (fun _ _ _ h => h) (.inl ⟨by rfl, ?_⟩) (by first | assumption | rfl) ?_
            rotate_left
            · intro w hS; try subst hS
              go_simp; try with_reducible rfl
            try simp only [Act.put, List.setIfInBounds_toArray, List.set_cons_zero, List.set_cons_succ]
            refine AnyH.take (i := 3) (d := some 87) (v := ?_) (by kernel_rfl) rfl rfl HF (fun _ _ _ h => h) (.inl ⟨by rfl, ?_⟩) (by first | assumption | rfl) ?_
            rotate_left
            · intro w hS; try subst hS
              go_simp; try with_reducible rfl
            try simp only [Act.put, List.setIfInBounds_toArray, List.set_cons_zero, List.set_cons_succ]
            refine AnyH.take (i := 4) (d := some 88) (v := ?_) (by kernel_rfl) rfl rfl HF (fun _ _ _ h => h) (.inl ⟨by rfl, ?_⟩) (by first | assumption | rfl) ?_
            rotate_left
            · intro w hS; try subst hS
              go_simp; try with_reducible rfl
            try simp only [Act.put, List.setIfInBounds_toArray, List.set_cons_zero, List.set_cons_succ]
            refine AnyH.one (i := 2) (by kernel_rfl) (by kernel_rfl) rfl HF (by rfl) (fun K hK => ?_)
            go_simp
            first | ((with_reducible refine And.intro ?hdep ?_); (case hdep => first | rfl | (intro h; cases h))) | skip
            refine callsIn_wide.2 ((HLN.out _ S0).mono ?_)
            rintro e w4 ⟨rfl, b4⟩
            have S4 := Below.after S0 b4
            clear b4
            refine hK _ _ S4 ?_
            clear hK K
            try simp only [Act.put, List.setIfInBounds_toArray, List.set_cons_zero, List.set_cons_succ]
            refine AnyH.one (i := 5) (by kernel_rfl) (by kernel_rfl) rfl HF (by rfl) (fun K hK => ?_)
            go_simp
            first | ((with_reducible refine And.intro ?hdep ?_); (case hdep => first | rfl | (intro h; cases h))) | skip
            refine callsIn_wide.2 ((HLM.out _ S4).mono ?_)
            rintro e w5 ⟨rfl, b5⟩
            have S5 := Below.after S4 b5
            clear b5
            refine hK _ _ S5 ?_
            clear hK K
            try simp only [Act.put, List.setIfInBounds_toArray, List.set_cons_zero, List.set_cons_succ]
            refine AnyH.take (i := 6) (d := some 90) (v := ?_) (by kernel_rfl) rfl rfl HF (fun _ _ _ h => h) (.inl ⟨by rfl, ?_⟩) (by first | assumption | rfl) ?_
            rotate_left
            · intro w hS; try subst hS
              go_simp; try with_reducible rfl
            try simp only [Act.put, List.setIfInBounds_toArray, List.set_cons_zero, List.set_cons_succ]
            refine AnyH.take (i := 7) (d := some 91) (v := ?_) (by kernel_rfl) rfl rfl HF (fun _ _ _ h => h) (.inl ⟨by rfl, ?_⟩) (by first | assumption | rfl) ?_
            rotate_left
            · intro w hS; try subst hS
              go_simp; try with_reducible rfl
            try simp only [Act.put, List.setIfInBounds_toArray, List.set_cons_zero, List.set_cons_succ]
            refine AnyH.done (by kernel_rfl) ?_
            have B5 := Lib.hid S5
            obtain ⟨z0, z1, -, -⟩ := RsC.cells (below_block B5.out K1.out)
            clear S0 S4 S5
            obtain ⟨np, hnp⟩ : ∃ q, n + p = q := ⟨_, rfl⟩
            rw [hnp] at haw HE
            clear hnp
            go_wp2_with fail
            clear z0 z1
            refine wp_region_anyNP (Below W3.heap.size W3) (by kernel_rfl) ?_
            have S0 : Below W3.heap.size W3 w5.drew := B5.out.drew
            refine AnyH.take (i := 0) (d := some 93) (v := ?_) (by kernel_rfl) rfl rfl HF (fun _ _ _ h => h) (.inl ⟨by rfl, ?_⟩) (by first | assumption | rfl) ?_
            rotate_left
            · intro w hS; try subst hS
              go_simp; try with_reducible rfl
            try simp only [Act.put, List.setIfInBounds_toArray, List.set_cons_zero, List.set_cons_succ]
            refine AnyH.take (i := 1) (d := some 94) (v := ?_) (by kernel_rfl) rfl rfl HF (fun _ _ _ h => h) (.inl ⟨by rfl, ?_⟩) (by first | assumption | rfl) ?_
            rotate_left
            · intro w hS; try subst hS
              go_simp; try with_reducible rfl
            try simp only [Act.put, List.setIfInBounds_toArray, List.set_cons_zero, List.set_cons_succ]
            refine AnyH.take (i := 2) (d := some 95) (v := ?_) (by kernel_rfl) rfl rfl HF (fun _ _ _ h => h) (.inl ⟨by rfl, ?_⟩) (by first | assumption | rfl) ?_
            rotate_left
            · intro w hS; try subst hS
              go_simp; try with_reducible rfl
            try simp only [Act.put, List.setIfInBounds_toArray, List.set_cons_zero, List.set_cons_succ]
            refine AnyH.take (i := 3) (d := some 96) (v := ?_) (by kernel_rfl) rfl rfl HF (fun _ _ _ h => h) (.inl ⟨by rfl, ?_⟩) (by first | assumption | rfl) ?_
            rotate_left
            · intro w hS; try subst hS
              go_simp; try with_reducible rfl
            try simp only [Act.put, List.setIfInBounds_toArray, List.set_cons_zero, List.set_cons_succ]
            refine AnyH.take (i := 4) (d := some 97) (v := ?_) (by kernel_rfl) rfl rfl HF (fun _ _ _ h => h) (.inl ⟨by rfl, ?_⟩) (by first | assumption | rfl) ?_
            rotate_left
            · intro w hS; try subst hS
              go_simp; try with_reducible rfl
            try simp only [Act.put, List.setIfInBounds_toArray, List.set_cons_zero, List.set_cons_succ]
            refine AnyH.take (i := 5) (d := some 98) (v := ?_) (by kernel_rfl) rfl rfl HF (fun _ _ _ h => h) (.inl ⟨by rfl, ?_⟩) (by first | assumption | rfl) ?_
            rotate_left
            · intro w hS; try subst hS
              go_simp; try with_reducible rfl
            try simp only [Act.put, List.setIfInBounds_toArray, List.set_cons_zero, List.set_cons_succ]
            refine AnyH.take (i := 7) (d := some 100) (v := ?_) (by kernel_rfl) rfl rfl HF (fun _ _ _ h => h) (.inl ⟨by rfl, ?_⟩) (by first | assumption | rfl) ?_
            rotate_left
            · intro w hS; try subst hS
              go_simp; try with_reducible rfl
            try simp only [Act.put, List.setIfInBounds_toArray, List.set_cons_zero, List.set_cons_succ]
            refine AnyH.take (i := 8) (d := some 101) (v := ?_) (by kernel_rfl) rfl rfl HF (fun _ _ _ h => h) (.inl ⟨by rfl, ?_⟩) (by first | assumption | rfl) ?_
            rotate_left
            · intro w hS; try subst hS
              go_simp; try with_reducible rfl
            try simp only [Act.put, List.setIfInBounds_toArray, List.set_cons_zero, List.set_cons_succ]
            refine AnyH.one (i := 6) (by kernel_rfl) (by kernel_rfl) rfl HF (by rfl) (fun K hK => ?_)
            go_simp
            first | ((with_reducible refine And.intro ?hdep ?_); (case hdep => first | rfl | (intro h; cases h))) | skip
            refine callsIn_wide.2 ((HLN.out _ S0).mono ?_)
            rintro e w6 ⟨rfl, b4⟩
            have S4 := Below.after S0 b4
            clear b4
            refine hK _ _ S4 ?_
            clear hK K
            try simp only [Act.put, List.setIfInBounds_toArray, List.set_cons_zero, List.set_cons_succ]
            refine AnyH.one (i := 9) (by kernel_rfl) (by kernel_rfl) rfl HF (by rfl) (fun K hK => ?_)
            go_simp
            first | ((with_reducible refine And.intro ?hdep ?_); (case hdep => first | rfl | (intro h; cases h))) | skip
            refine callsIn_wide.2 ((HLM.out _ S4).mono ?_)
            rintro e w7 ⟨rfl, b5⟩
            have S5 := Below.after S4 b5
            clear b5
            refine hK _ _ S5 ?_
            clear hK K
            try simp only [Act.put, List.setIfInBounds_toArray, List.set_cons_zero, List.set_cons_succ]
            refine AnyH.take (i := 10) (d := some 103) (v := ?_) (by kernel_rfl) rfl rfl HF (fun _ _ _ h => h) (.inl ⟨by rfl, ?_⟩) (by first | assumption | rfl) ?_
            rotate_left
            · intro w hS; try subst hS
              go_simp; try with_reducible rfl
            try simp only [Act.put, List.setIfInBounds_toArray, List.set_cons_zero, List.set_cons_succ]
            refine AnyH.one (i := 11) (by kernel_rfl) (by kernel_rfl) rfl HF (by rfl) (fun K hK => ?_)
            go_simp
            first | ((with_reducible refine And.intro ?hdep ?_); (case hdep => first | rfl | (intro h; cases h))) | skip
            refine callsIn_wide.2 ((refAdd_any (SlA.below HR.out S5) (SlA.below HL.out S5) ⟨2, 0, l, r, 0⟩ np HRL.out hl).mono ?_)
            rintro e w8 ⟨v5, u5, rfl, hr5, hl5, b5⟩
            rw [← HE.out] at hr5 hl5
            obtain ⟨va5, vc5, rfl⟩ := hr5.len
            obtain ⟨ua5, uc5, rfl⟩ := hl5.len
            obtain ⟨n1, hn1⟩ : ∃ n, A.1.1.length = n := ⟨_, rfl⟩
            obtain ⟨n2, hn2⟩ : ∃ n, A.1.2.length = n := ⟨_, rfl⟩
            obtain ⟨n3, hn3⟩ : ∃ n, A.2 = n := ⟨_, rfl⟩
            rw [← HE.out]
            rw [hn1] at hr5 ⊢
            rw [hn2] at hl5 ⊢
            rw [hn3]
            have S8 := Below.after S5 b5
            have HR5 := Lib.hid hr5; have HL5 := Lib.hid hl5; have B8 := Lib.hid S8; have HN3 := Lib.hid hn3
            clear hr5 hl5 b5 hn1 hn2 hn3
            refine hK _ _ S8 ?_
            clear hK K
            try simp only [Act.put, List.setIfInBounds_toArray, List.set_cons_zero, List.set_cons_succ]
            refine AnyH.take (i := 12) (d := some 105) (v := ?_) (by kernel_rfl) rfl rfl HF (fun _ _ _ h => h) (.inl ⟨by rfl, ?_⟩) (by first | assumption | rfl) ?_
            rotate_left
            · intro w hS; try subst hS
              go_simp; try with_reducible rfl
            try simp only [Act.put, List.setIfInBounds_toArray, List.set_cons_zero, List.set_cons_succ]
            refine AnyH.take (i := 13) (d := some 106) (v := ?_) (by kernel_rfl) rfl rfl HF (fun _ _ _ h => h) (.inl ⟨by rfl, ?_⟩) (by first | assumption | rfl) ?_
            rotate_left
            · intro w hS; try subst hS
              go_simp; try with_reducible rfl
            try simp only [Act.put, List.setIfInBounds_toArray, List.set_cons_zero, List.set_cons_succ]
            refine AnyH.tailL 14 (by kernel_rfl) ?_
            simp only [List.drop_succ_cons, List.drop_zero]
            clear Z0 Z1 S0 S4 S5 S8
            obtain ⟨g0, g1, f0, f1⟩ := RsC.cells (below_block B8.out K3.out)
            obtain ⟨wf, hwf⟩ : ∃ w, (w8.setCell ⟨W.heap.size + 2, 0, none⟩ (.slice va5 n1 vc5)).setCell ⟨W.heap.size + 2, 1, none⟩ (.slice ua5 n2 uc5) = w := ⟨_, rfl⟩
            have kf : RsC wf (W.heap.size + 2) (.slice va5 n1 vc5) (.slice ua5 n2 uc5) := by rw [← hwf]; exact (show RsC w8 (W.heap.size + 2) _ _ from below_block B8.out K3.out).set _ _
            obtain ⟨x0, x1, -, -⟩ := kf.cells
            have HBF : Hid (Below W.heap.size W wf) := Lib.hid (by
              rw [← hwf]
              exact ((Below.after B3.out B8.out).setCell (p := ⟨W.heap.size + 2, 0, none⟩) (by simp) _).setCell (p := ⟨W.heap.size + 2, 1, none⟩) (by simp) _)
            have HKT : Hid (∀ t, 61 ≠ t → KeepT t w8 wf) := Lib.hid (fun t ht => by
              rw [← hwf]
              exact (KeepT.setCell (a := ⟨W.heap.size + 2, 0, none⟩) (show w8.heap[W.heap.size + 2]? = _ from below_block B8.out K3.out) ht).trans (KeepT.setCell (a := ⟨W.heap.size + 2, 1, none⟩) (show (w8.setCell ⟨W.heap.size + 2, 0, none⟩ (.slice va5 n1 vc5)).heap[W.heap.size + 2]? = _ from heap_set0 _ (below_block B8.out K3.out)) ht))
            clear kf
            gi_wp2_with fail
            refine NP.normal ?_
            go_wp2_with fail
            exact bodyPost_ret (v := .tuple #[.agg #[.slice va5 n1 vc5, .slice ua5 n2 uc5], .int .i64 (n3)]) (by simp [results, Try.results50, go_sem, x0, x1]) rfl ⟨_, _, by rw [HN3.out]; try rfl, by exact SlA.keep (HR5.out) (HKT.out _ (by decide)), by exact SlA.keep (HL5.out) (HKT.out _ (by decide)), HBF.out⟩
end M
end Go.Proofs.Ytjbllcakaljpgaa
