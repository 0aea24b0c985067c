/- CursorBack: the walk. -/
import Derived.Test.YtjbllcakaljpgaaBegun
namespace Go.Proofs.Ytjbllcakaljpgaa
open Go.RowKit Go.Lib
namespace M
attribute [local go_sem] Oper.semAt_some
theorem StAt.set {n0 B most g i : Nat} {W : World} {E : List En} (h : StAt n0 W B most E) {cs : Array Value} {t : TypeId} {fz : Nat × Nat} (hb : W.heap[g]? = some (.cells cs t fz)) (h1 : t ≠ 130) (h2 : t ≠ 117) (v : Value) : StAt n0 (W.setCell ⟨g, i, none⟩ v) B most E := by
  obtain ⟨lv, mb, k1, k2, k3, k4⟩ := h
  refine ⟨lv, mb, set_other (fun e => ?_) k1, SlA.setCell k2 v (a := ⟨g, i, none⟩) hb h2, MapR.of_block k3 (Below.heap_setCell _ _ _ _ (fun e => ?_)), k4⟩
  · subst e; unfold StC at k1; rw [hb] at k1; simp at k1; exact h1 k1.2.1
  · have e : mb = g := e
    subst e
    obtain ⟨es, c, h5, -⟩ := k3
    rw [hb] at h5; cases h5
theorem StAt.app {n0 n1 B most : Nat} {w0 w' : World} {E : List En} {α : Type} {e : TypeId} {size : Nat} {enc : α → List Value} {v : Value} {l : List α} {cs : Array Value} (h : StAt n0 w0 B most E) (hS : SlA n1 w0 e size enc v l) (hg : (w0.alloc (.cells cs e)).grownBy w' v.ownBlock) (h1 : 130 ≠ e) (h2 : 117 ≠ e) : StAt n0 w' B most E := by
  obtain ⟨lv, mb, k1, k2, k3, k4⟩ := h
  refine ⟨lv, mb, app_other hS hg k1 h1, SlA.keep k2 (fun k cs fz h => app_other hS hg h h2), ?_, k4⟩
  obtain ⟨es, c, h5, h6⟩ := k3
  exact ⟨es, c, (app_keepsOthers hS hg).same _ _ h5 rfl, h6⟩
def encB (n : Nat) : List Value := [.int .u8 n]
theorem encB_len (n : Nat) : (encB n).length = 1 := rfl
theorem encB_one (n : Nat) : ∀ u ∈ encB n, u.oneCell' = true := by simp [encB, Value.oneCell']
abbrev Bys (B : Nat) (W : World) (v : Value) (l : List Nat) : Prop := SlA B W 5 1 encB v l
theorem elemB : Elem Try.prog 37 5 1 1 := elem_of Try.underlying37 (z := .int .u8 0) (by kernel_rfl) rfl (by decide) (by decide)
theorem Bys.at {B : Nat} {W : World} {v : Value} {l : List Nat} (h : Bys B W v l) {i : Nat} (hi : i < l.length) :
    ∃ g cap, v = .slice (some ⟨g, 0, none⟩) l.length cap ∧ l.length ≤ cap ∧ cap ≤ maxLen ∧ ∀ (W' : World), Below W.heap.size W W' → ∀ i (hi : i < l.length), W'.cell? ⟨g, i, none⟩ = some (.int .u8 l[i]) := by
  rcases h.shape with ⟨-, rfl⟩ | ⟨g, cap, rfl, h1, h2⟩
  · simp at hi
  · refine ⟨g, cap, rfl, h1, h2, fun W' hb i hi => ?_⟩
    have h' := h.below hb
    have := SlA.cell encB_len h' hi (j := 0) (by omega)
    rw [Nat.mul_one] at this
    exact this
/-- The box of a question about a place. -/
def AtC (W : World) (g : Nat) (v : Value) (n a m : Int) : Prop := W.heap[g]? = some (.cells #[v, .int .i64 n, .int .i64 a, .int .i64 m] 33 (0, 0))
theorem AtC.cells {W : World} {g : Nat} {v : Value} {n a m : Int} (h : AtC W g v n a m) : W.cell? ⟨g, 0, none⟩ = some v ∧ W.cell? ⟨g, 1, none⟩ = some (.int .i64 n) ∧ W.cell? ⟨g, 2, none⟩ = some (.int .i64 a) ∧ W.cell? ⟨g, 3, none⟩ = some (.int .i64 m) := by
  unfold AtC at h
  simp [World.cell?, h]
set_option maxRecDepth 100000 in
set_option maxHeartbeats 8000000 in
theorem back_any {W : World} {v : Value} {M : List Mk} (hM : RowMk W v M) (n at' many : Int) :
    Calls Try.prog 4 #[.agg #[v, .int .i64 n, .int .i64 at', .int .i64 many]] W fun e w' => e = .returned (.bool true) ∧ Below W.heap.size W w' := by
  have HF : ∀ f, Fence.wide.fn f := fun _ => trivial
  have H := Lib.hid hM
  obtain ⟨va, vc, rfl, -, hcm, -, -⟩ := hM
  unfold maxLen at hcm
  obtain ⟨W1, hW1⟩ : ∃ w, W.alloc (.cells #[.slice va M.length vc, .int .i64 n, .int .i64 at', .int .i64 many] 33) = w := ⟨_, rfl⟩
  have k1 : AtC W1 W.heap.size (.slice va M.length vc) n at' many := by rw [← hW1]; exact heap_new' _ _
  have b1 : Below W.heap.size W W1 := by rw [← hW1]; exact (Below.refl _ _).alloc (Nat.le_refl _) _
  have m0 : ∀ w, Below W1.heap.size W1 w → w.cell? ⟨W.heap.size, 0, none⟩ = some (.slice va M.length vc) := fun w hw => (AtC.cells (below_block hw k1)).1
  have m1 : ∀ w, Below W1.heap.size W1 w → w.cell? ⟨W.heap.size, 1, none⟩ = some (.int .i64 n) := fun w hw => (AtC.cells (below_block hw k1)).2.1
  have m2 : ∀ w, Below W1.heap.size W1 w → w.cell? ⟨W.heap.size, 2, none⟩ = some (.int .i64 at') := fun w hw => (AtC.cells (below_block hw k1)).2.2.1
  have m3 : ∀ w, Below W1.heap.size W1 w → w.cell? ⟨W.heap.size, 3, none⟩ = some (.int .i64 many) := fun w hw => (AtC.cells (below_block hw k1)).2.2.2
  have B1 := Lib.hid b1
  obtain ⟨w2, hw2⟩ : ∃ w, W1.drew = w := ⟨_, rfl⟩
  have S0 : Below W1.heap.size W1 w2 := by rw [← hw2]; exact (Below.refl _ _).drew
  have HB2 := Lib.hid (Below.after b1 S0)
  clear k1 b1
  by_cases hl : M.length ≤ 100
  · have hl2 : ¬ (M.length : Int) > 100 := by omega
    by_cases hmy : many ≤ 300
    · have hmy2 : ¬ many > 300 := by omega
      have HG := Lib.hid (begun_any (H.out.below HB2.out) hl n)
      have HWF : Hid (Wf (bldF M [] [0]).1 ∧ (bldF M [] [0]).1.length ≤ 100 ∧ resAt (bldF M [] [0]).2 n ≤ (bldF M [] [0]).1.length) := Lib.hid (by
        obtain ⟨a', cap', ha', -, -, hmb, -⟩ := H.out
        obtain ⟨q1, q2, q3, q4⟩ := bldF_wf M (E := []) (R := [0]) .nil (by simp) (fun m hm => (hmb m hm).1)
        exact ⟨q1, by simp at q2; omega, resAt_le q4 n⟩)
      unfold BegunP at HG
      generalize (bldF M [] [0]).1 = E at *
      generalize resAt (bldF M [] [0]).2 n = id at *
      obtain ⟨hw, hlen⟩ := HWF.out.1.len HWF.out.2.2
      obtain ⟨t, ht⟩ : ∃ t, txt E id = t := ⟨_, rfl⟩
      have hul : (entAt E id).w.len = t.length := by rw [hw, ← ht]; rfl
      rw [ht] at hlen
      rw [hul] at HG
      have HT := Lib.hid ht
      clear hw hul ht
      obtain ⟨len, hle⟩ : ∃ l, t.length = l := ⟨_, rfl⟩
      rw [hle] at HG hlen
      have HLE := Lib.hid hle
      clear hle
      have HW0 : Hid (W.heap.size ≤ w2.heap.size) := Lib.hid HB2.out.size
      by_cases hin : 0 ≤ at' ∧ at' ≤ (len : Int)
      · obtain ⟨a, rfl⟩ : ∃ a : Nat, at' = (a : Int) := ⟨at'.toNat, by omega⟩
        have hal : a ≤ len := by omega
        go_enter Try.func4, Try.ntmps4
        go_wp2_with fail
        refine wp_region_anyH (Below W1.heap.size W1) (by kernel_rfl) ?_
        rw [hw2]
        clear hw2 hW1
        refine AnyH.take (i := 0) (d := some 18) (v := ?_) (by kernel_rfl) rfl rfl HF (fun _ _ _ h => h) (.inl ⟨by rfl, ?_⟩) (by first | assumption | rfl) ?_
        rotate_left
        · intro w hS; try subst hS
          go_simp; try with_reducible rfl
        try simp only [Act.put, List.setIfInBounds_toArray, List.set_cons_zero, List.set_cons_succ]
        refine AnyH.take (i := 1) (d := some 19) (v := ?_) (by kernel_rfl) rfl rfl HF (fun _ _ _ h => h) (.inl ⟨by rfl, ?_⟩) (by first | assumption | rfl) ?_
        rotate_left
        · intro w hS; try subst hS
          go_simp; try with_reducible rfl
        try simp only [Act.put, List.setIfInBounds_toArray, List.set_cons_zero, List.set_cons_succ]
        refine AnyH.take (i := 2) (d := some 20) (v := ?_) (by kernel_rfl) rfl rfl HF (fun _ _ _ h => h) (.inl ⟨by rfl, ?_⟩) (by first | assumption | rfl) ?_
        rotate_left
        · intro w hS; try subst hS
          go_simp; try with_reducible rfl
        try simp only [Act.put, List.setIfInBounds_toArray, List.set_cons_zero, List.set_cons_succ]
        refine AnyH.take (i := 3) (d := some 21) (v := ?_) (by kernel_rfl) rfl rfl HF (fun _ _ _ h => h) (.inl ⟨by rfl, ?_⟩) (by first | assumption | rfl) ?_
        rotate_left
        · intro w hS; try subst hS
          go_simp; try with_reducible rfl
        try simp only [Act.put, List.setIfInBounds_toArray, List.set_cons_zero, List.set_cons_succ]
        refine AnyH.take (i := 4) (d := some 22) (v := ?_) (by kernel_rfl) rfl rfl HF (fun _ _ _ h => h) (.inl ⟨by rfl, ?_⟩) (by first | assumption | rfl) ?_
        rotate_left
        · intro w hS; try subst hS
          go_simp; try with_reducible rfl
        try simp only [Act.put, List.setIfInBounds_toArray, List.set_cons_zero, List.set_cons_succ]
        refine AnyH.take (i := 5) (d := some 23) (v := ?_) (by kernel_rfl) rfl rfl HF (fun _ _ _ h => h) (.inl ⟨by rfl, ?_⟩) (by first | assumption | rfl) ?_
        rotate_left
        · intro w hS; try subst hS
          go_simp; try with_reducible rfl
        try simp only [Act.put, List.setIfInBounds_toArray, List.set_cons_zero, List.set_cons_succ]
        refine AnyH.take (i := 6) (d := some 24) (v := ?_) (by kernel_rfl) rfl rfl HF (fun _ _ _ h => h) (.inl ⟨by rfl, ?_⟩) (by first | assumption | rfl) ?_
        rotate_left
        · intro w hS; try subst hS
          go_simp; try with_reducible rfl
        try simp only [Act.put, List.setIfInBounds_toArray, List.set_cons_zero, List.set_cons_succ]
        refine AnyH.take (i := 7) (d := some 25) (v := ?_) (by kernel_rfl) rfl rfl HF (fun _ _ _ h => h) (.inl ⟨by rfl, ?_⟩) (by first | assumption | rfl) ?_
        rotate_left
        · intro w hS; try subst hS
          go_simp; try with_reducible rfl
        try simp only [Act.put, List.setIfInBounds_toArray, List.set_cons_zero, List.set_cons_succ]
        refine AnyH.take (i := 8) (d := some 3) (v := ?_) (by kernel_rfl) rfl rfl HF (fun _ _ _ h => h) (.inl ⟨by rfl, ?_⟩) (by first | assumption | rfl) ?_
        rotate_left
        · intro w hS; try subst hS
          go_simp; try with_reducible rfl
        try simp only [Act.put, List.setIfInBounds_toArray, List.set_cons_zero, List.set_cons_succ]
        refine AnyH.take (i := 9) (d := some 4) (v := ?_) (by kernel_rfl) rfl rfl HF (fun _ _ _ h => h) (.inl ⟨by rfl, ?_⟩) (by first | assumption | rfl) ?_
        rotate_left
        · intro w hS; try subst hS
          go_simp; try with_reducible rfl
        try simp only [Act.put, List.setIfInBounds_toArray, List.set_cons_zero, List.set_cons_succ]
        refine AnyH.take (i := 10) (d := some 5) (v := ?_) (by kernel_rfl) rfl rfl HF (fun _ _ _ h => h) (.inl ⟨by rfl, ?_⟩) (by first | assumption | rfl) ?_
        rotate_left
        · intro w hS; try subst hS
          go_simp; try with_reducible rfl
        try simp only [Act.put, List.setIfInBounds_toArray, List.set_cons_zero, List.set_cons_succ]
        refine AnyH.take (i := 11) (d := some 6) (v := ?_) (by kernel_rfl) rfl rfl HF (fun _ _ _ h => h) (.inl ⟨by rfl, ?_⟩) (by first | assumption | rfl) ?_
        rotate_left
        · intro w hS; try subst hS
          go_simp; try with_reducible rfl
        try simp only [Act.put, List.setIfInBounds_toArray, List.set_cons_zero, List.set_cons_succ]
        refine AnyH.done (by kernel_rfl) ?_
        clear m0 m1 m2 m3 S0
        go_wp2_with fail
        refine HG.out.mono ?_
        rintro e w3 ⟨B, c, rfl, s3, k3, hc, b3⟩
        have HB3 := Lib.hid (Below.after HB2.out b3)
        have HC : Hid (W.heap.size ≤ c) := Lib.hid (Nat.le_trans HB2.out.size hc)
        have HSK := Lib.hid (seek_any k3 (a : Int))
        have HS3 : Hid (StAt W.heap.size w3 B 1000 E) := Lib.hid (s3.mono HB2.out.size)
        have K3 := Lib.hid k3
        clear s3 k3 b3 hc HG
        go_wp2_with fail
        refine HSK.out.mono ?_
        rintro e w' (⟨-, -, rfl, rfl⟩ | ⟨hno, -⟩)
        rotate_left
        · exact absurd ⟨by omega, by omega⟩ hno
        have k4 := CuC.move K3.out a
        have s4 := StAt.set (i := 3) HS3.out K3.out (by decide) (by decide) (.int .i64 a)
        have b4 : Below W.heap.size W (w3.setCell ⟨c, 3, none⟩ (.int .i64 a)) := HB3.out.setCell (p := ⟨c, 3, none⟩) HC.out _
        generalize w3.setCell ⟨c, 3, none⟩ (.int .i64 a) = w4 at *
        have K4 := Lib.hid k4; have HS4 := Lib.hid s4; have HB4 := Lib.hid b4
        clear k4 s4 b4 HSK
        go_wp2_with fail
        go_loopw [11, 12] (fun lv iv wr => ∃ i : Nat, iv = .int .i64 i ∧ a + i ≤ len ∧ ((i : Int) ≤ many ∨ i = 0) ∧ Bys W.heap.size wr lv ((t.drop a).take i) ∧ CuC wr c B id len (a + i) ∧ StAt W.heap.size wr B 1000 E ∧ Below W.heap.size W wr) (fun _ iv _ => len + 1 - (intOf iv).toNat)
        case atStart => exact ⟨0, rfl, by omega, .inr rfl, SlA.nil _ _ _ _ _, K4.out, HS4.out, HB4.out⟩
        case round =>
          clear K4 HS4 HB4 K3 HS3
          obtain ⟨i, rfl, hai, him, hL, hk, hs, hB⟩ := hrel
          obtain ⟨la, lc, rfl⟩ := hL.len
          have htl : ((t.drop a).take i).length = i := by have := HLE.out; rw [List.length_take, List.length_drop]; omega
          rw [htl] at hL ⊢
          have HL := Lib.hid hL; have HK := Lib.hid hk; have HS := Lib.hid hs; have HB := Lib.hid hB
          clear hL hk hs hB htl
          by_cases hA : (i : Int) < many ∧ a + i < len
          · obtain ⟨hA1, hA2⟩ := hA
            have hgt : a + i < t.length := by have := HLE.out; omega
            obtain ⟨b, hb⟩ : ∃ b, t[a + i]? = some b := ⟨_, List.getElem?_eq_getElem hgt⟩
            have HN := Lib.hid (next_some HS.out HWF.out.1 (by have := HWF.out.2.1; omega) HK.out HWF.out.2.2 hA2 hlen (by rw [HT.out]; exact hb))
            have HTK : Hid ((t.drop a).take (i + 1) = (t.drop a).take i ++ [b]) := Lib.hid (by
              rw [List.take_add_one, List.getElem?_drop, hb]; rfl)
            clear hb hgt
            go_wp2_with fail
            refine HN.out.mono ?_
            rintro e w' ⟨rfl, w5, b5, rfl⟩
            have k5 : CuC w5 c B id len (a + i) := below_block b5 HK.out
            have k6 := CuC.move k5 (a + i + 1)
            have s6 := StAt.set (i := 3) (HS.out.below b5) k5 (by decide) (by decide) (.int .i64 ((a + i + 1 : Nat) : Int))
            have l6 : Bys W.heap.size (w5.setCell ⟨c, 3, none⟩ (.int .i64 ((a + i + 1 : Nat) : Int))) (.slice la i lc) ((t.drop a).take i) := SlA.setCell (SlA.below HL.out b5) _ (a := ⟨c, 3, none⟩) k5 (by decide)
            have b6 : Below W.heap.size W (w5.setCell ⟨c, 3, none⟩ (.int .i64 ((a + i + 1 : Nat) : Int))) := (HB.out.trans (b5.mono HB.out.size)).setCell (p := ⟨c, 3, none⟩) HC.out _
            generalize w5.setCell ⟨c, 3, none⟩ (.int .i64 ((a + i + 1 : Nat) : Int)) = w6 at *
            have K6 := Lib.hid k6; have HS6 := Lib.hid s6; have HL6 := Lib.hid l6; have HB6 := Lib.hid b6
            have HBY : Hid ((((t.drop a).take i).length + 1) * 1 ≤ 140737488355328) := Lib.hid (by have : ((t.drop a).take i).length ≤ i := List.length_take_le _ _; omega)
            clear k5 k6 s6 l6 b6 b5 HN
            go_wp2_with (
              at_builtin
              refine wp_app1G (w0 := w6) (enc := encB) elemB encB_len rfl _ _ rfl rfl HL6.out b rfl rfl (encB_one b) HBY.out HB6.out.size ?_
              intro v7 w7 hS7 hg7 hb7
              have HX1 : Hid (StAt W.heap.size w7 B 1000 E) := Lib.hid (StAt.app HS6.out HL6.out hg7 (by decide) (by decide))
              have HX2 : Hid (CuC w7 c B id len (a + i + 1)) := Lib.hid (app_other HL6.out hg7 K6.out (by decide))
              have HX3 := Lib.hid hS7
              have HX4 := Lib.hid (HB6.out.trans hb7)
              clear hS7 hg7 hb7)
            go_roundw
            case rel => exact ⟨i + 1, by go_num, by omega, .inl (by omega), by rw [HTK.out]; exact HX3.out, HX2.out, HX1.out, HX4.out⟩
            case measure => first | (simp [intOf]; omega) | simp [intOf]
          · have hBC : ((i : Int) < many ∧ a + i = len) ∨ ¬ (i : Int) < many := by omega
            clear hA
            obtain ⟨j, hj⟩ : ∃ j, a + i = j := ⟨_, rfl⟩
            rw [hj] at HK hai hBC
            have HJ := Lib.hid hj
            have hne : ((j : Int) != (a : Int) + (i : Int)) = false := by simp only [bne_eq_false_iff_eq]; omega
            clear hj
            rcases hBC with ⟨h1, h2⟩ | h1
            rotate_left
            generalize wr = wx at *
            have HO := Lib.hid (offset_any HK.out)
            have HK2 : Hid (CuC wx c B id len (a + i)) := Lib.hid (by rw [HJ.out]; exact HK.out)
            go_wp2_with fail
            refine HO.out.mono ?_; rintro e w ⟨rfl, h⟩; rw [h]; clear h w
            go_wp2_with fail
            rotate_left
            have HKn : Hid (CuC wr c B id len len) := Lib.hid (by have := HK.out; rwa [h2] at this)
            have HN := Lib.hid (next_none HKn.out)
            have HJ2 : Hid (a + i = len) := Lib.hid (by rw [HJ.out]; exact h2)
            rw [h2] at hne
            clear h2
            go_wp2_with fail
            refine HN.out.mono ?_
            rintro e wy ⟨rfl, bx⟩
            have HL := Lib.hid (SlA.below HL.out bx); have HKy := Lib.hid (show CuC wy c B id len len from below_block bx HKn.out); have HS := Lib.hid (HS.out.below bx); have HB := Lib.hid (HB.out.trans (bx.mono HB.out.size))
            have HO := Lib.hid (offset_any HKy.out)
            have HLf := Lib.hid (left_any HKy.out (Nat.le_refl _) hlen)
            clear bx HN
            go_wp2_with fail
            refine HO.out.mono ?_; rintro e w ⟨rfl, h⟩; rw [h]; clear h w
            go_wp2_with fail
            refine HLf.out.mono ?_
            rintro e wx ⟨rfl, bx⟩
            have HL := Lib.hid (SlA.below HL.out bx); have HK2 : Hid (CuC wx c B id len (a + i)) := Lib.hid (by rw [HJ2.out]; exact below_block bx HKy.out)
            have HS := Lib.hid (HS.out.below bx); have HB := Lib.hid (HB.out.trans (bx.mono HB.out.size))
            clear bx HO HLf
            go_wp2_with fail
            all_goals
              clear hne
              have htl : ((t.drop a).take i).length = i := by have := HLE.out; have := HJ.out; rw [List.length_take, List.length_drop]; omega
              have HTL := Lib.hid htl
              clear htl
              go_loopw [15] (fun jv wr2 => ∃ k : Nat, jv = .int .i64 ((k : Int) - 1) ∧ k ≤ i ∧ CuC wr2 c B id len (a + k) ∧ StAt W.heap.size wr2 B 1000 E ∧ Bys W.heap.size wr2 (.slice la i lc) ((t.drop a).take i) ∧ Below W.heap.size W wr2) (fun jv _ => (intOf jv + 1).toNat)
              case atStart => exact ⟨i, rfl, Nat.le_refl _, HK2.out, HS.out, HL.out, HB.out⟩
              case round =>
                clear HK2 HS HL HB
                obtain ⟨k, rfl, hki, hk, hs, hL, hB⟩ := hrel
                have HK := Lib.hid hk; have HS := Lib.hid hs; have HL := Lib.hid hL; have HB := Lib.hid hB
                clear hk hs hL hB
                cases k with
                | zero =>
                  have HO := Lib.hid (offset_any (show CuC wr c B id len a from HK.out))
                  rw [show ((0 : Nat) : Int) - 1 = -1 from rfl]
                  go_wp2_with fail
                  refine HO.out.mono ?_; rintro e w ⟨rfl, h⟩; rw [h]; clear h w
                  go_wp2_with fail
                  go_ret
                  exact ⟨rfl, HB.out⟩
                | succ q =>
                  rw [show ((q + 1 : Nat) : Int) - 1 = (q : Int) by omega]
                  have hq : q < ((t.drop a).take i).length := by rw [HTL.out]; omega
                  obtain ⟨g, cap, hsv, -, -, hc⟩ := HL.out.at hq
                  rw [HTL.out] at hsv
                  simp only [Value.slice.injEq] at hsv
                  obtain ⟨rfl, -, rfl⟩ := hsv
                  have hgt : a + q < t.length := by have := HLE.out; have := HJ.out; omega
                  obtain ⟨b, hb⟩ : ∃ b, t[a + q]? = some b := ⟨_, List.getElem?_eq_getElem hgt⟩
                  have hbq : ((t.drop a).take i)[q]? = some b := by rw [List.getElem?_take, if_pos (by omega), List.getElem?_drop, hb]
                  have HC0 : Hid (wr.heap[g]? = wr.heap[g]?) := Lib.hid rfl
                  have HP := Lib.hid (prev_some HS.out HWF.out.1 (by have := HWF.out.2.1; omega) (k := a + q) HK.out HWF.out.2.2 (by have := HLE.out; omega) hlen (by rw [HT.out]; exact hb))
                  have HBQ := Lib.hid hbq
                  have hqi : (q : Int) < (i : Int) := by omega
                  have hq0 : (0 : Int) ≤ (q : Int) := by omega
                  clear hq hc hgt hb hbq
                  go_wp2_with fail
                  refine HP.out.mono ?_
                  rintro e w' ⟨rfl, w5, b5, rfl⟩
                  have k5 : CuC w5 c B id len (a + (q + 1)) := below_block b5 HK.out
                  have k6 := CuC.move k5 (a + q)
                  have s6 := StAt.set (i := 3) (HS.out.below b5) k5 (by decide) (by decide) (.int .i64 ((a + q : Nat) : Int))
                  have l6 : Bys W.heap.size (w5.setCell ⟨c, 3, none⟩ (.int .i64 ((a + q : Nat) : Int))) (.slice (some ⟨g, 0, none⟩) i lc) ((t.drop a).take i) := SlA.setCell (SlA.below HL.out b5) _ (a := ⟨c, 3, none⟩) k5 (by decide)
                  have b6 : Below W.heap.size W (w5.setCell ⟨c, 3, none⟩ (.int .i64 ((a + q : Nat) : Int))) := (HB.out.trans (b5.mono HB.out.size)).setCell (p := ⟨c, 3, none⟩) HC.out _
                  have c6 : (w5.setCell ⟨c, 3, none⟩ (.int .i64 ((a + q : Nat) : Int))).cell? ⟨g, q, none⟩ = some (.int .u8 b) := by
                    have hq2 : q < ((t.drop a).take i).length := by rw [HTL.out]; omega
                    have := SlA.cell encB_len l6 hq2 (j := 0) (by omega)
                    have hq3 : ((t.drop a).take i)[q] = b := by
                      have h := HBQ.out
                      rw [List.getElem?_eq_getElem hq2] at h
                      exact Option.some.inj h
                    rw [Nat.mul_one, Nat.add_zero, hq3] at this
                    exact this
                  generalize w5.setCell ⟨c, 3, none⟩ (.int .i64 ((a + q : Nat) : Int)) = w6 at *
                  have K6 := Lib.hid k6; have HS6 := Lib.hid s6; have HL6 := Lib.hid l6; have HB6 := Lib.hid b6
                  clear k5 k6 s6 l6 b6 b5 HP
                  go_wp2_with fail
                  go_roundw
                  case rel => exact ⟨q, rfl, by omega, K6.out, HS6.out, HL6.out, HB6.out⟩
                  case measure => first | (simp [intOf]; omega) | simp [intOf]
      · have hcase : at' < 0 ∨ (¬ at' < 0 ∧ at' > (len : Int)) := by omega
        go_enter Try.func4, Try.ntmps4
        go_wp2_with fail
        refine wp_region_anyH (Below W1.heap.size W1) (by kernel_rfl) ?_
        rw [hw2]
        clear hw2 hW1
        refine AnyH.take (i := 0) (d := some 18) (v := ?_) (by kernel_rfl) rfl rfl HF (fun _ _ _ h => h) (.inl ⟨by rfl, ?_⟩) (by first | assumption | rfl) ?_
        rotate_left
        · intro w hS; try subst hS
          go_simp; try with_reducible rfl
        try simp only [Act.put, List.setIfInBounds_toArray, List.set_cons_zero, List.set_cons_succ]
        refine AnyH.take (i := 1) (d := some 19) (v := ?_) (by kernel_rfl) rfl rfl HF (fun _ _ _ h => h) (.inl ⟨by rfl, ?_⟩) (by first | assumption | rfl) ?_
        rotate_left
        · intro w hS; try subst hS
          go_simp; try with_reducible rfl
        try simp only [Act.put, List.setIfInBounds_toArray, List.set_cons_zero, List.set_cons_succ]
        refine AnyH.take (i := 2) (d := some 20) (v := ?_) (by kernel_rfl) rfl rfl HF (fun _ _ _ h => h) (.inl ⟨by rfl, ?_⟩) (by first | assumption | rfl) ?_
        rotate_left
        · intro w hS; try subst hS
          go_simp; try with_reducible rfl
        try simp only [Act.put, List.setIfInBounds_toArray, List.set_cons_zero, List.set_cons_succ]
        refine AnyH.take (i := 3) (d := some 21) (v := ?_) (by kernel_rfl) rfl rfl HF (fun _ _ _ h => h) (.inl ⟨by rfl, ?_⟩) (by first | assumption | rfl) ?_
        rotate_left
        · intro w hS; try subst hS
          go_simp; try with_reducible rfl
        try simp only [Act.put, List.setIfInBounds_toArray, List.set_cons_zero, List.set_cons_succ]
        refine AnyH.take (i := 4) (d := some 22) (v := ?_) (by kernel_rfl) rfl rfl HF (fun _ _ _ h => h) (.inl ⟨by rfl, ?_⟩) (by first | assumption | rfl) ?_
        rotate_left
        · intro w hS; try subst hS
          go_simp; try with_reducible rfl
        try simp only [Act.put, List.setIfInBounds_toArray, List.set_cons_zero, List.set_cons_succ]
        refine AnyH.take (i := 5) (d := some 23) (v := ?_) (by kernel_rfl) rfl rfl HF (fun _ _ _ h => h) (.inl ⟨by rfl, ?_⟩) (by first | assumption | rfl) ?_
        rotate_left
        · intro w hS; try subst hS
          go_simp; try with_reducible rfl
        try simp only [Act.put, List.setIfInBounds_toArray, List.set_cons_zero, List.set_cons_succ]
        refine AnyH.take (i := 6) (d := some 24) (v := ?_) (by kernel_rfl) rfl rfl HF (fun _ _ _ h => h) (.inl ⟨by rfl, ?_⟩) (by first | assumption | rfl) ?_
        rotate_left
        · intro w hS; try subst hS
          go_simp; try with_reducible rfl
        try simp only [Act.put, List.setIfInBounds_toArray, List.set_cons_zero, List.set_cons_succ]
        refine AnyH.take (i := 7) (d := some 25) (v := ?_) (by kernel_rfl) rfl rfl HF (fun _ _ _ h => h) (.inl ⟨by rfl, ?_⟩) (by first | assumption | rfl) ?_
        rotate_left
        · intro w hS; try subst hS
          go_simp; try with_reducible rfl
        try simp only [Act.put, List.setIfInBounds_toArray, List.set_cons_zero, List.set_cons_succ]
        refine AnyH.take (i := 8) (d := some 3) (v := ?_) (by kernel_rfl) rfl rfl HF (fun _ _ _ h => h) (.inl ⟨by rfl, ?_⟩) (by first | assumption | rfl) ?_
        rotate_left
        · intro w hS; try subst hS
          go_simp; try with_reducible rfl
        try simp only [Act.put, List.setIfInBounds_toArray, List.set_cons_zero, List.set_cons_succ]
        refine AnyH.take (i := 9) (d := some 4) (v := ?_) (by kernel_rfl) rfl rfl HF (fun _ _ _ h => h) (.inl ⟨by rfl, ?_⟩) (by first | assumption | rfl) ?_
        rotate_left
        · intro w hS; try subst hS
          go_simp; try with_reducible rfl
        try simp only [Act.put, List.setIfInBounds_toArray, List.set_cons_zero, List.set_cons_succ]
        refine AnyH.take (i := 10) (d := some 5) (v := ?_) (by kernel_rfl) rfl rfl HF (fun _ _ _ h => h) (.inl ⟨by rfl, ?_⟩) (by first | assumption | rfl) ?_
        rotate_left
        · intro w hS; try subst hS
          go_simp; try with_reducible rfl
        try simp only [Act.put, List.setIfInBounds_toArray, List.set_cons_zero, List.set_cons_succ]
        refine AnyH.take (i := 11) (d := some 6) (v := ?_) (by kernel_rfl) rfl rfl HF (fun _ _ _ h => h) (.inl ⟨by rfl, ?_⟩) (by first | assumption | rfl) ?_
        rotate_left
        · intro w hS; try subst hS
          go_simp; try with_reducible rfl
        try simp only [Act.put, List.setIfInBounds_toArray, List.set_cons_zero, List.set_cons_succ]
        refine AnyH.done (by kernel_rfl) ?_
        clear m0 m1 m2 m3 S0
        go_wp2_with fail
        refine HG.out.mono ?_
        rintro e w3 ⟨B, c, rfl, -, k3, hc, b3⟩
        have HB3 := Lib.hid (Below.after HB2.out b3)
        have HSK := Lib.hid (seek_any k3 at')
        have HL3 := Lib.hid (length_any k3)
        clear k3 b3 hc HG
        go_wp2_with fail
        refine HSK.out.mono ?_
        rintro e w' (⟨h1, h2, -⟩ | ⟨-, rfl, h⟩)
        · exact absurd ⟨h1, h2⟩ hin
        rw [h]
        clear h HSK
        unfold err
        rcases hcase with h1 | ⟨h1, h2⟩
        · go_wp2_with fail
          go_ret
          exact ⟨rfl, HB3.out⟩
        · go_wp2_with fail
          refine HL3.out.mono ?_; rintro e w ⟨rfl, h⟩; rw [h]; clear h w
          go_wp2_with fail
          go_ret
          exact ⟨rfl, HB3.out⟩
    · have hmy2 : many > 300 := by omega
      go_enter Try.func4, Try.ntmps4
      go_wp2_with fail
      refine wp_region_anyH (Below W1.heap.size W1) (by kernel_rfl) ?_
      rw [hw2]
      clear hw2 hW1
      refine AnyH.take (i := 0) (d := some 18) (v := ?_) (by kernel_rfl) rfl rfl HF (fun _ _ _ h => h) (.inl ⟨by rfl, ?_⟩) (by first | assumption | rfl) ?_
      rotate_left
      · intro w hS; try subst hS
        go_simp; try with_reducible rfl
      try simp only [Act.put, List.setIfInBounds_toArray, List.set_cons_zero, List.set_cons_succ]
      refine AnyH.take (i := 1) (d := some 19) (v := ?_) (by kernel_rfl) rfl rfl HF (fun _ _ _ h => h) (.inl ⟨by rfl, ?_⟩) (by first | assumption | rfl) ?_
      rotate_left
      · intro w hS; try subst hS
        go_simp; try with_reducible rfl
      try simp only [Act.put, List.setIfInBounds_toArray, List.set_cons_zero, List.set_cons_succ]
      refine AnyH.take (i := 2) (d := some 20) (v := ?_) (by kernel_rfl) rfl rfl HF (fun _ _ _ h => h) (.inl ⟨by rfl, ?_⟩) (by first | assumption | rfl) ?_
      rotate_left
      · intro w hS; try subst hS
        go_simp; try with_reducible rfl
      try simp only [Act.put, List.setIfInBounds_toArray, List.set_cons_zero, List.set_cons_succ]
      refine AnyH.take (i := 3) (d := some 21) (v := ?_) (by kernel_rfl) rfl rfl HF (fun _ _ _ h => h) (.inl ⟨by rfl, ?_⟩) (by first | assumption | rfl) ?_
      rotate_left
      · intro w hS; try subst hS
        go_simp; try with_reducible rfl
      try simp only [Act.put, List.setIfInBounds_toArray, List.set_cons_zero, List.set_cons_succ]
      refine AnyH.take (i := 4) (d := some 22) (v := ?_) (by kernel_rfl) rfl rfl HF (fun _ _ _ h => h) (.inl ⟨by rfl, ?_⟩) (by first | assumption | rfl) ?_
      rotate_left
      · intro w hS; try subst hS
        go_simp; try with_reducible rfl
      try simp only [Act.put, List.setIfInBounds_toArray, List.set_cons_zero, List.set_cons_succ]
      refine AnyH.take (i := 5) (d := some 23) (v := ?_) (by kernel_rfl) rfl rfl HF (fun _ _ _ h => h) (.inl ⟨by rfl, ?_⟩) (by first | assumption | rfl) ?_
      rotate_left
      · intro w hS; try subst hS
        go_simp; try with_reducible rfl
      try simp only [Act.put, List.setIfInBounds_toArray, List.set_cons_zero, List.set_cons_succ]
      refine AnyH.take (i := 6) (d := some 24) (v := ?_) (by kernel_rfl) rfl rfl HF (fun _ _ _ h => h) (.inl ⟨by rfl, ?_⟩) (by first | assumption | rfl) ?_
      rotate_left
      · intro w hS; try subst hS
        go_simp; try with_reducible rfl
      try simp only [Act.put, List.setIfInBounds_toArray, List.set_cons_zero, List.set_cons_succ]
      refine AnyH.take (i := 7) (d := some 25) (v := ?_) (by kernel_rfl) rfl rfl HF (fun _ _ _ h => h) (.inl ⟨by rfl, ?_⟩) (by first | assumption | rfl) ?_
      rotate_left
      · intro w hS; try subst hS
        go_simp; try with_reducible rfl
      try simp only [Act.put, List.setIfInBounds_toArray, List.set_cons_zero, List.set_cons_succ]
      refine AnyH.take (i := 8) (d := some 3) (v := ?_) (by kernel_rfl) rfl rfl HF (fun _ _ _ h => h) (.inl ⟨by rfl, ?_⟩) (by first | assumption | rfl) ?_
      rotate_left
      · intro w hS; try subst hS
        go_simp; try with_reducible rfl
      try simp only [Act.put, List.setIfInBounds_toArray, List.set_cons_zero, List.set_cons_succ]
      refine AnyH.take (i := 9) (d := some 4) (v := ?_) (by kernel_rfl) rfl rfl HF (fun _ _ _ h => h) (.inl ⟨by rfl, ?_⟩) (by first | assumption | rfl) ?_
      rotate_left
      · intro w hS; try subst hS
        go_simp; try with_reducible rfl
      try simp only [Act.put, List.setIfInBounds_toArray, List.set_cons_zero, List.set_cons_succ]
      refine AnyH.take (i := 10) (d := some 5) (v := ?_) (by kernel_rfl) rfl rfl HF (fun _ _ _ h => h) (.inl ⟨by rfl, ?_⟩) (by first | assumption | rfl) ?_
      rotate_left
      · intro w hS; try subst hS
        go_simp; try with_reducible rfl
      try simp only [Act.put, List.setIfInBounds_toArray, List.set_cons_zero, List.set_cons_succ]
      refine AnyH.take (i := 11) (d := some 6) (v := ?_) (by kernel_rfl) rfl rfl HF (fun _ _ _ h => h) (.inl ⟨by rfl, ?_⟩) (by first | assumption | rfl) ?_
      rotate_left
      · intro w hS; try subst hS
        go_simp; try with_reducible rfl
      try simp only [Act.put, List.setIfInBounds_toArray, List.set_cons_zero, List.set_cons_succ]
      refine AnyH.done (by kernel_rfl) ?_
      clear m0 m1 m2 m3 S0
      go_wp2_with fail
      go_ret
      exact ⟨rfl, HB2.out⟩
  · have hl2 : (M.length : Int) > 100 := by omega
    go_enter Try.func4, Try.ntmps4
    go_wp2_with fail
    refine wp_region_anyH (Below W1.heap.size W1) (by kernel_rfl) ?_
    rw [hw2]
    clear hw2 hW1
    refine AnyH.take (i := 0) (d := some 18) (v := ?_) (by kernel_rfl) rfl rfl HF (fun _ _ _ h => h) (.inl ⟨by rfl, ?_⟩) (by first | assumption | rfl) ?_
    rotate_left
    · intro w hS; try subst hS
      go_simp; try with_reducible rfl
    try simp only [Act.put, List.setIfInBounds_toArray, List.set_cons_zero, List.set_cons_succ]
    refine AnyH.take (i := 1) (d := some 19) (v := ?_) (by kernel_rfl) rfl rfl HF (fun _ _ _ h => h) (.inl ⟨by rfl, ?_⟩) (by first | assumption | rfl) ?_
    rotate_left
    · intro w hS; try subst hS
      go_simp; try with_reducible rfl
    try simp only [Act.put, List.setIfInBounds_toArray, List.set_cons_zero, List.set_cons_succ]
    refine AnyH.take (i := 2) (d := some 20) (v := ?_) (by kernel_rfl) rfl rfl HF (fun _ _ _ h => h) (.inl ⟨by rfl, ?_⟩) (by first | assumption | rfl) ?_
    rotate_left
    · intro w hS; try subst hS
      go_simp; try with_reducible rfl
    try simp only [Act.put, List.setIfInBounds_toArray, List.set_cons_zero, List.set_cons_succ]
    refine AnyH.take (i := 3) (d := some 21) (v := ?_) (by kernel_rfl) rfl rfl HF (fun _ _ _ h => h) (.inl ⟨by rfl, ?_⟩) (by first | assumption | rfl) ?_
    rotate_left
    · intro w hS; try subst hS
      go_simp; try with_reducible rfl
    try simp only [Act.put, List.setIfInBounds_toArray, List.set_cons_zero, List.set_cons_succ]
    refine AnyH.take (i := 4) (d := some 22) (v := ?_) (by kernel_rfl) rfl rfl HF (fun _ _ _ h => h) (.inl ⟨by rfl, ?_⟩) (by first | assumption | rfl) ?_
    rotate_left
    · intro w hS; try subst hS
      go_simp; try with_reducible rfl
    try simp only [Act.put, List.setIfInBounds_toArray, List.set_cons_zero, List.set_cons_succ]
    refine AnyH.take (i := 5) (d := some 23) (v := ?_) (by kernel_rfl) rfl rfl HF (fun _ _ _ h => h) (.inl ⟨by rfl, ?_⟩) (by first | assumption | rfl) ?_
    rotate_left
    · intro w hS; try subst hS
      go_simp; try with_reducible rfl
    try simp only [Act.put, List.setIfInBounds_toArray, List.set_cons_zero, List.set_cons_succ]
    refine AnyH.take (i := 6) (d := some 24) (v := ?_) (by kernel_rfl) rfl rfl HF (fun _ _ _ h => h) (.inl ⟨by rfl, ?_⟩) (by first | assumption | rfl) ?_
    rotate_left
    · intro w hS; try subst hS
      go_simp; try with_reducible rfl
    try simp only [Act.put, List.setIfInBounds_toArray, List.set_cons_zero, List.set_cons_succ]
    refine AnyH.take (i := 7) (d := some 25) (v := ?_) (by kernel_rfl) rfl rfl HF (fun _ _ _ h => h) (.inl ⟨by rfl, ?_⟩) (by first | assumption | rfl) ?_
    rotate_left
    · intro w hS; try subst hS
      go_simp; try with_reducible rfl
    try simp only [Act.put, List.setIfInBounds_toArray, List.set_cons_zero, List.set_cons_succ]
    refine AnyH.take (i := 8) (d := some 3) (v := ?_) (by kernel_rfl) rfl rfl HF (fun _ _ _ h => h) (.inl ⟨by rfl, ?_⟩) (by first | assumption | rfl) ?_
    rotate_left
    · intro w hS; try subst hS
      go_simp; try with_reducible rfl
    try simp only [Act.put, List.setIfInBounds_toArray, List.set_cons_zero, List.set_cons_succ]
    refine AnyH.take (i := 9) (d := some 4) (v := ?_) (by kernel_rfl) rfl rfl HF (fun _ _ _ h => h) (.inl ⟨by rfl, ?_⟩) (by first | assumption | rfl) ?_
    rotate_left
    · intro w hS; try subst hS
      go_simp; try with_reducible rfl
    try simp only [Act.put, List.setIfInBounds_toArray, List.set_cons_zero, List.set_cons_succ]
    refine AnyH.take (i := 10) (d := some 5) (v := ?_) (by kernel_rfl) rfl rfl HF (fun _ _ _ h => h) (.inl ⟨by rfl, ?_⟩) (by first | assumption | rfl) ?_
    rotate_left
    · intro w hS; try subst hS
      go_simp; try with_reducible rfl
    try simp only [Act.put, List.setIfInBounds_toArray, List.set_cons_zero, List.set_cons_succ]
    refine AnyH.take (i := 11) (d := some 6) (v := ?_) (by kernel_rfl) rfl rfl HF (fun _ _ _ h => h) (.inl ⟨by rfl, ?_⟩) (by first | assumption | rfl) ?_
    rotate_left
    · intro w hS; try subst hS
      go_simp; try with_reducible rfl
    try simp only [Act.put, List.setIfInBounds_toArray, List.set_cons_zero, List.set_cons_succ]
    refine AnyH.done (by kernel_rfl) ?_
    clear m0 m1 m2 m3 S0
    go_wp2_with fail
    go_ret
    exact ⟨rfl, HB2.out⟩
end M
end Go.Proofs.Ytjbllcakaljpgaa
