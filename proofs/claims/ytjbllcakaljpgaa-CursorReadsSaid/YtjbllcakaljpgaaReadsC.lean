/- CursorReads: the walk. -/
import Derived.Test.YtjbllcakaljpgaaBegun
import Derived.Test.YtjbllcakaljpgaaRead
import Derived.Test.YtjbllcakaljpgaaBytes
namespace Go.Proofs.Ytjbllcakaljpgaa
open Go.RowKit Go.Lib
namespace M
attribute [local go_sem] Oper.semAt_some
set_option maxRecDepth 100000 in
set_option maxHeartbeats 8000000 in
theorem reads_any {W : World} {v : Value} {M : List Mk} (hM : RowMk W v M) (n at' many : Int) :
    Calls Try.prog 5 #[.agg #[v, .int .i64 n, .int .i64 at', .int .i64 many]] W fun e w' => e = .returned (.bool true) ∧ Below W.heap.size W w' := by
  have HF : ∀ f, Fence.wide.fn f := fun _ => trivial
  have H := Lib.hid hM
  obtain ⟨va, vc, rfl, -, hcm, -, -⟩ := hM
  unfold maxLen at hcm
  obtain ⟨W1, hW1⟩ : ∃ w, W.alloc (.cells #[.slice va M.length vc, .int .i64 n, .int .i64 at', .int .i64 many] 33) = w := ⟨_, rfl⟩
  have k1 : AtC W1 W.heap.size (.slice va M.length vc) n at' many := by rw [← hW1]; exact heap_new' _ _
  have b1 : Below W.heap.size W W1 := by rw [← hW1]; exact (Below.refl _ _).alloc (Nat.le_refl _) _
  have m0 : ∀ w, Below W1.heap.size W1 w → w.cell? ⟨W.heap.size, 0, none⟩ = some (.slice va M.length vc) := fun w hw => (AtC.cells (below_block hw k1)).1
  have m1 : ∀ w, Below W1.heap.size W1 w → w.cell? ⟨W.heap.size, 1, none⟩ = some (.int .i64 n) := fun w hw => (AtC.cells (below_block hw k1)).2.1
  have m2 : ∀ w, Below W1.heap.size W1 w → w.cell? ⟨W.heap.size, 2, none⟩ = some (.int .i64 at') := fun w hw => (AtC.cells (below_block hw k1)).2.2.1
  have m3 : ∀ w, Below W1.heap.size W1 w → w.cell? ⟨W.heap.size, 3, none⟩ = some (.int .i64 many) := fun w hw => (AtC.cells (below_block hw k1)).2.2.2
  obtain ⟨w2, hw2⟩ : ∃ w, W1.drew = w := ⟨_, rfl⟩
  have S0 : Below W1.heap.size W1 w2 := by rw [← hw2]; exact (Below.refl _ _).drew
  have HB2 := Lib.hid (Below.after b1 S0)
  clear k1 b1
  by_cases hl : M.length ≤ 100
  · have hl2 : ¬ (M.length : Int) > 100 := by omega
    by_cases hmy : many ≤ 5000
    · have hmy2 : ¬ many > 5000 := by omega
      have HG := Lib.hid (begun_any (H.out.below HB2.out) hl n)
      have HWF : Hid (Wf (bldF M [] [0]).1 ∧ (bldF M [] [0]).1.length ≤ 100 ∧ resAt (bldF M [] [0]).2 n ≤ (bldF M [] [0]).1.length) := Lib.hid (by
        obtain ⟨a', cap', ha', -, -, hmb, -⟩ := H.out
        obtain ⟨q1, q2, q3, q4⟩ := bldF_wf M (E := []) (R := [0]) .nil (by simp) (fun m hm => (hmb m hm).1)
        exact ⟨q1, by simp at q2; omega, resAt_le q4 n⟩)
      unfold BegunP at HG
      generalize (bldF M [] [0]).1 = E at *
      generalize resAt (bldF M [] [0]).2 n = id at *
      obtain ⟨hw, hlen⟩ := HWF.out.1.len HWF.out.2.2
      obtain ⟨t, ht⟩ : ∃ t, txt E id = t := ⟨_, rfl⟩
      have hul : (entAt E id).w.len = t.length := by rw [hw, ← ht]; rfl
      rw [ht] at hlen
      rw [hul] at HG
      have HT := Lib.hid ht
      clear hw hul ht
      obtain ⟨len, hle⟩ : ∃ l, t.length = l := ⟨_, rfl⟩
      rw [hle] at HG hlen
      have HLE := Lib.hid hle
      clear hle
      have HW0 : Hid (W.heap.size ≤ w2.heap.size) := Lib.hid HB2.out.size
      by_cases hin : 0 ≤ at' ∧ at' ≤ (len : Int)
      · obtain ⟨a, rfl⟩ : ∃ a : Nat, at' = (a : Int) := ⟨at'.toNat, by omega⟩
        have hal : a ≤ len := by omega
        go_enter Try.func5, Try.ntmps5
        go_wp2_with fail
        refine wp_region_anyH (Below W1.heap.size W1) (by kernel_rfl) ?_
        rw [hw2]
        clear hw2 hW1
        refine AnyH.take (i := 0) (d := some 14) (v := ?_) (by kernel_rfl) rfl rfl HF (fun _ _ _ h => h) (.inl ⟨by rfl, ?_⟩) (by first | assumption | rfl) ?_
        rotate_left
        · intro w hS; try subst hS
          go_simp; try with_reducible rfl
        try simp only [Act.put, List.setIfInBounds_toArray, List.set_cons_zero, List.set_cons_succ]
        refine AnyH.take (i := 1) (d := some 15) (v := ?_) (by kernel_rfl) rfl rfl HF (fun _ _ _ h => h) (.inl ⟨by rfl, ?_⟩) (by first | assumption | rfl) ?_
        rotate_left
        · intro w hS; try subst hS
          go_simp; try with_reducible rfl
        try simp only [Act.put, List.setIfInBounds_toArray, List.set_cons_zero, List.set_cons_succ]
        refine AnyH.take (i := 2) (d := some 16) (v := ?_) (by kernel_rfl) rfl rfl HF (fun _ _ _ h => h) (.inl ⟨by rfl, ?_⟩) (by first | assumption | rfl) ?_
        rotate_left
        · intro w hS; try subst hS
          go_simp; try with_reducible rfl
        try simp only [Act.put, List.setIfInBounds_toArray, List.set_cons_zero, List.set_cons_succ]
        refine AnyH.take (i := 3) (d := some 17) (v := ?_) (by kernel_rfl) rfl rfl HF (fun _ _ _ h => h) (.inl ⟨by rfl, ?_⟩) (by first | assumption | rfl) ?_
        rotate_left
        · intro w hS; try subst hS
          go_simp; try with_reducible rfl
        try simp only [Act.put, List.setIfInBounds_toArray, List.set_cons_zero, List.set_cons_succ]
        refine AnyH.take (i := 4) (d := some 18) (v := ?_) (by kernel_rfl) rfl rfl HF (fun _ _ _ h => h) (.inl ⟨by rfl, ?_⟩) (by first | assumption | rfl) ?_
        rotate_left
        · intro w hS; try subst hS
          go_simp; try with_reducible rfl
        try simp only [Act.put, List.setIfInBounds_toArray, List.set_cons_zero, List.set_cons_succ]
        refine AnyH.take (i := 5) (d := some 19) (v := ?_) (by kernel_rfl) rfl rfl HF (fun _ _ _ h => h) (.inl ⟨by rfl, ?_⟩) (by first | assumption | rfl) ?_
        rotate_left
        · intro w hS; try subst hS
          go_simp; try with_reducible rfl
        try simp only [Act.put, List.setIfInBounds_toArray, List.set_cons_zero, List.set_cons_succ]
        refine AnyH.take (i := 6) (d := some 20) (v := ?_) (by kernel_rfl) rfl rfl HF (fun _ _ _ h => h) (.inl ⟨by rfl, ?_⟩) (by first | assumption | rfl) ?_
        rotate_left
        · intro w hS; try subst hS
          go_simp; try with_reducible rfl
        try simp only [Act.put, List.setIfInBounds_toArray, List.set_cons_zero, List.set_cons_succ]
        refine AnyH.take (i := 7) (d := some 21) (v := ?_) (by kernel_rfl) rfl rfl HF (fun _ _ _ h => h) (.inl ⟨by rfl, ?_⟩) (by first | assumption | rfl) ?_
        rotate_left
        · intro w hS; try subst hS
          go_simp; try with_reducible rfl
        try simp only [Act.put, List.setIfInBounds_toArray, List.set_cons_zero, List.set_cons_succ]
        refine AnyH.take (i := 8) (d := some 3) (v := ?_) (by kernel_rfl) rfl rfl HF (fun _ _ _ h => h) (.inl ⟨by rfl, ?_⟩) (by first | assumption | rfl) ?_
        rotate_left
        · intro w hS; try subst hS
          go_simp; try with_reducible rfl
        try simp only [Act.put, List.setIfInBounds_toArray, List.set_cons_zero, List.set_cons_succ]
        refine AnyH.take (i := 9) (d := some 4) (v := ?_) (by kernel_rfl) rfl rfl HF (fun _ _ _ h => h) (.inl ⟨by rfl, ?_⟩) (by first | assumption | rfl) ?_
        rotate_left
        · intro w hS; try subst hS
          go_simp; try with_reducible rfl
        try simp only [Act.put, List.setIfInBounds_toArray, List.set_cons_zero, List.set_cons_succ]
        refine AnyH.take (i := 10) (d := some 5) (v := ?_) (by kernel_rfl) rfl rfl HF (fun _ _ _ h => h) (.inl ⟨by rfl, ?_⟩) (by first | assumption | rfl) ?_
        rotate_left
        · intro w hS; try subst hS
          go_simp; try with_reducible rfl
        try simp only [Act.put, List.setIfInBounds_toArray, List.set_cons_zero, List.set_cons_succ]
        refine AnyH.take (i := 11) (d := some 6) (v := ?_) (by kernel_rfl) rfl rfl HF (fun _ _ _ h => h) (.inl ⟨by rfl, ?_⟩) (by first | assumption | rfl) ?_
        rotate_left
        · intro w hS; try subst hS
          go_simp; try with_reducible rfl
        try simp only [Act.put, List.setIfInBounds_toArray, List.set_cons_zero, List.set_cons_succ]
        refine AnyH.done (by kernel_rfl) ?_
        clear m0 m1 m2 m3 S0
        go_wp2_with fail
        refine HG.out.mono ?_
        rintro e w3 ⟨B, c, rfl, s3, k3, hc, b3⟩
        have HB3 := Lib.hid (Below.after HB2.out b3)
        have HC : Hid (W.heap.size ≤ c) := Lib.hid (Nat.le_trans HB2.out.size hc)
        have HSK := Lib.hid (seek_any k3 (a : Int))
        have HS3 : Hid (StAt W.heap.size w3 B 1000 E) := Lib.hid (s3.mono HB2.out.size)
        have K3 := Lib.hid k3
        clear s3 k3 b3 hc HG
        go_wp2_with fail
        refine HSK.out.mono ?_
        rintro e w' (⟨-, -, rfl, rfl⟩ | ⟨hno, -⟩)
        rotate_left
        · exact absurd ⟨by omega, by omega⟩ hno
        have k4 := CuC.move K3.out a
        have b4 : BC c w3 (w3.setCell ⟨c, 3, none⟩ (.int .i64 a)) := (BC.refl c w3).set (p := ⟨c, 3, none⟩) (.inr rfl) _
        have s4 := StAt.bc HS3.out K3.out b4
        have b5 := below_bc HB3.out b4 HC.out HB3.out.size
        generalize w3.setCell ⟨c, 3, none⟩ (.int .i64 a) = w4 at *
        have K4 := Lib.hid k4; have HS4 := Lib.hid s4; have HB4 := Lib.hid b5
        clear k4 s4 b4 b5 HSK HS3 K3 HB3
        obtain ⟨lf, hlf⟩ : ∃ x, len - a = x := ⟨_, rfl⟩
        have HLF : Hid (Calls Try.prog 17 #[.pointer (some ⟨c, 0, none⟩)] w4 fun e w' => e = .returned (.int .i64 (lf : Int)) ∧ Below w4.heap.size w4 w') := Lib.hid (by
          have := left_any K4.out hal hlen
          rwa [show (len : Int) - (a : Int) = (lf : Int) by omega] at this)
        have HEX : Hid (∀ (q : Nat) (w : World), q ≤ lf → q ≤ 65536 → Below w4.heap.size w4 w → Calls Try.prog 19 #[.pointer (some ⟨B, 0, none⟩), .int .i64 id, .int .i64 a, .int .i64 q] w fun e w' => ∃ v, e = .returned (.tuple #[v, .nilIface]) ∧ Bys w.heap.size w' v ((t.drop a).take q) ∧ Below w.heap.size w w') := Lib.hid (fun q w h1 h2 hw => by
          have := extract_any (frm := a) (n := q) (HS4.out.below hw) HWF.out.1 (by have := HWF.out.2.1; omega) HWF.out.2.2 (by rw [HT.out, HLE.out]; omega) h2
          rw [HT.out] at this
          exact this)
        have HRD : Hid (∀ (q : Nat) (w : World), rdN len a many = q → Below w4.heap.size w4 w → Calls Try.prog 21 #[.pointer (some ⟨c, 0, none⟩), .int .i64 many] w fun e w' => ∃ v, e = .returned v ∧ Bys w.heap.size w' v ((t.drop a).take q) ∧ CuC w' c B id len (a + q) ∧ BC c w w') := Lib.hid (fun q w h1 hw => by
          have := read_any (HS4.out.below hw) HWF.out.1 (by have := HWF.out.2.1; omega) (show CuC w c B id len a from below_block hw K4.out) HWF.out.2.2 (by rw [HT.out, HLE.out]) hal many
          rw [HT.out, h1] at this
          exact this)
        have HTK : Hid (∀ q, q ≤ lf → ((t.drop a).take q).length = q) := Lib.hid (fun q hq => by rw [List.length_take, List.length_drop, HLE.out]; omega)
        have HLT : Hid (lf ≤ len) := Lib.hid (by omega)
        have hlf0 : ¬ (lf : Int) < 0 := by omega
        have HLFE := Lib.hid hlf
        clear hlf
        have HQ : Hid (∃ q : Nat, q ≤ lf ∧ q ≤ 5000 ∧ rdN len a many = q ∧ ((many < 0 ∧ q = 0) ∨ (¬ many < 0 ∧ ¬ (lf : Int) < many ∧ many = (q : Int)) ∨ (¬ many < 0 ∧ (lf : Int) < many ∧ q = lf))) := Lib.hid (by
          have hl := HLFE.out
          unfold rdN
          rw [hl]
          refine ⟨_, Nat.min_le_right _ _, ?_, rfl, ?_⟩
          · refine Nat.le_trans (Nat.min_le_left _ _) ?_
            split
            · omega
            · split <;> omega
          · by_cases h1 : many < 0
            · left; refine ⟨h1, ?_⟩; rw [if_pos h1]; simp
            · by_cases h2 : ¬ (lf : Int) < many
              · right; left; refine ⟨h1, h2, ?_⟩; rw [if_neg h1, if_neg (by omega), Nat.min_eq_left (by omega)]; omega
              · right; right; refine ⟨h1, by omega, ?_⟩; rw [if_neg h1, if_neg (by omega), Nat.min_eq_right (by omega)])
        obtain ⟨q, hql, hq5, hrd, hcs⟩ := HQ.out
        have HRDq := Lib.hid (fun w hw => HRD.out q w hrd hw)
        have hTL := HTK.out q hql
        have hwA : IntKind.i64.wrap ((a : Int) + (q : Int)) = ((a + q : Nat) : Int) := by rw [IntKind.wrap_i64]; have := HLT.out; have := HLFE.out; omega
        have HEXq := Lib.hid (fun w hw => HEX.out q w hql (by omega) hw)
        clear hrd hql hq5 HQ HRD HEX
        rcases hcs with ⟨h1, rfl⟩ | ⟨h1, h2, rfl⟩ | ⟨h1, h2, rfl⟩
        · have hwA : IntKind.i64.wrap (a : Int) = (a : Int) := by rw [IntKind.wrap_i64]; omega
          go_wp2_with fail
          refine HLF.out.mono ?_
          rintro e w5 ⟨rfl, b5⟩
          have B5 := Lib.hid b5
          clear b5 HLF
          go_wp2_with fail
          refine (HEXq.out w5 B5.out).mono ?_
          rintro e w6 ⟨v6, rfl, y6, b6⟩
          obtain ⟨ya, yc, rfl⟩ := y6.len
          rw [hTL] at y6 ⊢
          have HY6 := Lib.hid y6
          have B6 := Lib.hid (Below.after B5.out b6)
          clear y6 b6 HEXq
          go_wp2_with fail
          refine (HRDq.out w6 B6.out).mono ?_
          rintro e w7 ⟨v7, rfl, y7, k7, b7⟩
          have HBY := Lib.hid (bytes_any y7 (SlA.keep HY6.out (fun k cs fz h => b7.obj (ne_type h (show CuC w6 c B id len a from below_block B6.out K4.out) (by decide)) h)))
          have HOF := Lib.hid (offset_any k7)
          have HB7 := Lib.hid (below_bc (Below.after HB4.out B6.out) b7 HC.out (Below.after HB4.out B6.out).size)
          clear y7 k7 b7 HRDq
          go_wp2_with fail
          refine HBY.out.mono ?_; rintro e w ⟨rfl, h⟩; rw [h]; clear h w
          go_wp2_with fail
          refine HOF.out.mono ?_; rintro e w ⟨rfl, h⟩; rw [h]; clear h w
          go_wp2_with fail
          go_ret
          exact ⟨rfl, HB7.out⟩
        · go_wp2_with fail
          refine HLF.out.mono ?_
          rintro e w5 ⟨rfl, b5⟩
          have B5 := Lib.hid b5
          clear b5 HLF
          go_wp2_with fail
          refine (HEXq.out w5 B5.out).mono ?_
          rintro e w6 ⟨v6, rfl, y6, b6⟩
          obtain ⟨ya, yc, rfl⟩ := y6.len
          rw [hTL] at y6 ⊢
          have HY6 := Lib.hid y6
          have B6 := Lib.hid (Below.after B5.out b6)
          clear y6 b6 HEXq
          go_wp2_with fail
          refine (HRDq.out w6 B6.out).mono ?_
          rintro e w7 ⟨v7, rfl, y7, k7, b7⟩
          have HBY := Lib.hid (bytes_any y7 (SlA.keep HY6.out (fun k cs fz h => b7.obj (ne_type h (show CuC w6 c B id len a from below_block B6.out K4.out) (by decide)) h)))
          have HOF := Lib.hid (offset_any k7)
          have HB7 := Lib.hid (below_bc (Below.after HB4.out B6.out) b7 HC.out (Below.after HB4.out B6.out).size)
          clear y7 k7 b7 HRDq
          go_wp2_with fail
          refine HBY.out.mono ?_; rintro e w ⟨rfl, h⟩; rw [h]; clear h w
          go_wp2_with fail
          refine HOF.out.mono ?_; rintro e w ⟨rfl, h⟩; rw [h]; clear h w
          go_wp2_with fail
          go_ret
          exact ⟨rfl, HB7.out⟩
        · go_wp2_with fail
          refine HLF.out.mono ?_
          rintro e w5 ⟨rfl, b5⟩
          have B5 := Lib.hid b5
          clear b5 HLF
          go_wp2_with fail
          refine (HEXq.out w5 B5.out).mono ?_
          rintro e w6 ⟨v6, rfl, y6, b6⟩
          obtain ⟨ya, yc, rfl⟩ := y6.len
          rw [hTL] at y6 ⊢
          have HY6 := Lib.hid y6
          have B6 := Lib.hid (Below.after B5.out b6)
          clear y6 b6 HEXq
          go_wp2_with fail
          refine (HRDq.out w6 B6.out).mono ?_
          rintro e w7 ⟨v7, rfl, y7, k7, b7⟩
          have HBY := Lib.hid (bytes_any y7 (SlA.keep HY6.out (fun k cs fz h => b7.obj (ne_type h (show CuC w6 c B id len a from below_block B6.out K4.out) (by decide)) h)))
          have HOF := Lib.hid (offset_any k7)
          have HB7 := Lib.hid (below_bc (Below.after HB4.out B6.out) b7 HC.out (Below.after HB4.out B6.out).size)
          clear y7 k7 b7 HRDq
          go_wp2_with fail
          refine HBY.out.mono ?_; rintro e w ⟨rfl, h⟩; rw [h]; clear h w
          go_wp2_with fail
          refine HOF.out.mono ?_; rintro e w ⟨rfl, h⟩; rw [h]; clear h w
          go_wp2_with fail
          go_ret
          exact ⟨rfl, HB7.out⟩
      · have hcase : at' < 0 ∨ (¬ at' < 0 ∧ at' > (len : Int)) := by omega
        go_enter Try.func5, Try.ntmps5
        go_wp2_with fail
        refine wp_region_anyH (Below W1.heap.size W1) (by kernel_rfl) ?_
        rw [hw2]
        clear hw2 hW1
        refine AnyH.take (i := 0) (d := some 14) (v := ?_) (by kernel_rfl) rfl rfl HF (fun _ _ _ h => h) (.inl ⟨by rfl, ?_⟩) (by first | assumption | rfl) ?_
        rotate_left
        · intro w hS; try subst hS
          go_simp; try with_reducible rfl
        try simp only [Act.put, List.setIfInBounds_toArray, List.set_cons_zero, List.set_cons_succ]
        refine AnyH.take (i := 1) (d := some 15) (v := ?_) (by kernel_rfl) rfl rfl HF (fun _ _ _ h => h) (.inl ⟨by rfl, ?_⟩) (by first | assumption | rfl) ?_
        rotate_left
        · intro w hS; try subst hS
          go_simp; try with_reducible rfl
        try simp only [Act.put, List.setIfInBounds_toArray, List.set_cons_zero, List.set_cons_succ]
        refine AnyH.take (i := 2) (d := some 16) (v := ?_) (by kernel_rfl) rfl rfl HF (fun _ _ _ h => h) (.inl ⟨by rfl, ?_⟩) (by first | assumption | rfl) ?_
        rotate_left
        · intro w hS; try subst hS
          go_simp; try with_reducible rfl
        try simp only [Act.put, List.setIfInBounds_toArray, List.set_cons_zero, List.set_cons_succ]
        refine AnyH.take (i := 3) (d := some 17) (v := ?_) (by kernel_rfl) rfl rfl HF (fun _ _ _ h => h) (.inl ⟨by rfl, ?_⟩) (by first | assumption | rfl) ?_
        rotate_left
        · intro w hS; try subst hS
          go_simp; try with_reducible rfl
        try simp only [Act.put, List.setIfInBounds_toArray, List.set_cons_zero, List.set_cons_succ]
        refine AnyH.take (i := 4) (d := some 18) (v := ?_) (by kernel_rfl) rfl rfl HF (fun _ _ _ h => h) (.inl ⟨by rfl, ?_⟩) (by first | assumption | rfl) ?_
        rotate_left
        · intro w hS; try subst hS
          go_simp; try with_reducible rfl
        try simp only [Act.put, List.setIfInBounds_toArray, List.set_cons_zero, List.set_cons_succ]
        refine AnyH.take (i := 5) (d := some 19) (v := ?_) (by kernel_rfl) rfl rfl HF (fun _ _ _ h => h) (.inl ⟨by rfl, ?_⟩) (by first | assumption | rfl) ?_
        rotate_left
        · intro w hS; try subst hS
          go_simp; try with_reducible rfl
        try simp only [Act.put, List.setIfInBounds_toArray, List.set_cons_zero, List.set_cons_succ]
        refine AnyH.take (i := 6) (d := some 20) (v := ?_) (by kernel_rfl) rfl rfl HF (fun _ _ _ h => h) (.inl ⟨by rfl, ?_⟩) (by first | assumption | rfl) ?_
        rotate_left
        · intro w hS; try subst hS
          go_simp; try with_reducible rfl
        try simp only [Act.put, List.setIfInBounds_toArray, List.set_cons_zero, List.set_cons_succ]
        refine AnyH.take (i := 7) (d := some 21) (v := ?_) (by kernel_rfl) rfl rfl HF (fun _ _ _ h => h) (.inl ⟨by rfl, ?_⟩) (by first | assumption | rfl) ?_
        rotate_left
        · intro w hS; try subst hS
          go_simp; try with_reducible rfl
        try simp only [Act.put, List.setIfInBounds_toArray, List.set_cons_zero, List.set_cons_succ]
        refine AnyH.take (i := 8) (d := some 3) (v := ?_) (by kernel_rfl) rfl rfl HF (fun _ _ _ h => h) (.inl ⟨by rfl, ?_⟩) (by first | assumption | rfl) ?_
        rotate_left
        · intro w hS; try subst hS
          go_simp; try with_reducible rfl
        try simp only [Act.put, List.setIfInBounds_toArray, List.set_cons_zero, List.set_cons_succ]
        refine AnyH.take (i := 9) (d := some 4) (v := ?_) (by kernel_rfl) rfl rfl HF (fun _ _ _ h => h) (.inl ⟨by rfl, ?_⟩) (by first | assumption | rfl) ?_
        rotate_left
        · intro w hS; try subst hS
          go_simp; try with_reducible rfl
        try simp only [Act.put, List.setIfInBounds_toArray, List.set_cons_zero, List.set_cons_succ]
        refine AnyH.take (i := 10) (d := some 5) (v := ?_) (by kernel_rfl) rfl rfl HF (fun _ _ _ h => h) (.inl ⟨by rfl, ?_⟩) (by first | assumption | rfl) ?_
        rotate_left
        · intro w hS; try subst hS
          go_simp; try with_reducible rfl
        try simp only [Act.put, List.setIfInBounds_toArray, List.set_cons_zero, List.set_cons_succ]
        refine AnyH.take (i := 11) (d := some 6) (v := ?_) (by kernel_rfl) rfl rfl HF (fun _ _ _ h => h) (.inl ⟨by rfl, ?_⟩) (by first | assumption | rfl) ?_
        rotate_left
        · intro w hS; try subst hS
          go_simp; try with_reducible rfl
        try simp only [Act.put, List.setIfInBounds_toArray, List.set_cons_zero, List.set_cons_succ]
        refine AnyH.done (by kernel_rfl) ?_
        clear m0 m1 m2 m3 S0
        go_wp2_with fail
        refine HG.out.mono ?_
        rintro e w3 ⟨B, c, rfl, -, k3, hc, b3⟩
        have HB3 := Lib.hid (Below.after HB2.out b3)
        have HSK := Lib.hid (seek_any k3 at')
        have HL3 := Lib.hid (length_any k3)
        clear k3 b3 hc HG
        go_wp2_with fail
        refine HSK.out.mono ?_
        rintro e w' (⟨h1, h2, -⟩ | ⟨-, rfl, h⟩)
        · exact absurd ⟨h1, h2⟩ hin
        rw [h]
        clear h HSK
        unfold err
        rcases hcase with h1 | ⟨h1, h2⟩
        · go_wp2_with fail
          go_ret
          exact ⟨rfl, HB3.out⟩
        · go_wp2_with fail
          refine HL3.out.mono ?_; rintro e w ⟨rfl, h⟩; rw [h]; clear h w
          go_wp2_with fail
          go_ret
          exact ⟨rfl, HB3.out⟩
    · have hmy2 : many > 5000 := by omega
      go_enter Try.func5, Try.ntmps5
      go_wp2_with fail
      refine wp_region_anyH (Below W1.heap.size W1) (by kernel_rfl) ?_
      rw [hw2]
      clear hw2 hW1
      refine AnyH.take (i := 0) (d := some 14) (v := ?_) (by kernel_rfl) rfl rfl HF (fun _ _ _ h => h) (.inl ⟨by rfl, ?_⟩) (by first | assumption | rfl) ?_
      rotate_left
      · intro w hS; try subst hS
        go_simp; try with_reducible rfl
      try simp only [Act.put, List.setIfInBounds_toArray, List.set_cons_zero, List.set_cons_succ]
      refine AnyH.take (i := 1) (d := some 15) (v := ?_) (by kernel_rfl) rfl rfl HF (fun _ _ _ h => h) (.inl ⟨by rfl, ?_⟩) (by first | assumption | rfl) ?_
      rotate_left
      · intro w hS; try subst hS
        go_simp; try with_reducible rfl
      try simp only [Act.put, List.setIfInBounds_toArray, List.set_cons_zero, List.set_cons_succ]
      refine AnyH.take (i := 2) (d := some 16) (v := ?_) (by kernel_rfl) rfl rfl HF (fun _ _ _ h => h) (.inl ⟨by rfl, ?_⟩) (by first | assumption | rfl) ?_
      rotate_left
      · intro w hS; try subst hS
        go_simp; try with_reducible rfl
      try simp only [Act.put, List.setIfInBounds_toArray, List.set_cons_zero, List.set_cons_succ]
      refine AnyH.take (i := 3) (d := some 17) (v := ?_) (by kernel_rfl) rfl rfl HF (fun _ _ _ h => h) (.inl ⟨by rfl, ?_⟩) (by first | assumption | rfl) ?_
      rotate_left
      · intro w hS; try subst hS
        go_simp; try with_reducible rfl
      try simp only [Act.put, List.setIfInBounds_toArray, List.set_cons_zero, List.set_cons_succ]
      refine AnyH.take (i := 4) (d := some 18) (v := ?_) (by kernel_rfl) rfl rfl HF (fun _ _ _ h => h) (.inl ⟨by rfl, ?_⟩) (by first | assumption | rfl) ?_
      rotate_left
      · intro w hS; try subst hS
        go_simp; try with_reducible rfl
      try simp only [Act.put, List.setIfInBounds_toArray, List.set_cons_zero, List.set_cons_succ]
      refine AnyH.take (i := 5) (d := some 19) (v := ?_) (by kernel_rfl) rfl rfl HF (fun _ _ _ h => h) (.inl ⟨by rfl, ?_⟩) (by first | assumption | rfl) ?_
      rotate_left
      · intro w hS; try subst hS
        go_simp; try with_reducible rfl
      try simp only [Act.put, List.setIfInBounds_toArray, List.set_cons_zero, List.set_cons_succ]
      refine AnyH.take (i := 6) (d := some 20) (v := ?_) (by kernel_rfl) rfl rfl HF (fun _ _ _ h => h) (.inl ⟨by rfl, ?_⟩) (by first | assumption | rfl) ?_
      rotate_left
      · intro w hS; try subst hS
        go_simp; try with_reducible rfl
      try simp only [Act.put, List.setIfInBounds_toArray, List.set_cons_zero, List.set_cons_succ]
      refine AnyH.take (i := 7) (d := some 21) (v := ?_) (by kernel_rfl) rfl rfl HF (fun _ _ _ h => h) (.inl ⟨by rfl, ?_⟩) (by first | assumption | rfl) ?_
      rotate_left
      · intro w hS; try subst hS
        go_simp; try with_reducible rfl
      try simp only [Act.put, List.setIfInBounds_toArray, List.set_cons_zero, List.set_cons_succ]
      refine AnyH.take (i := 8) (d := some 3) (v := ?_) (by kernel_rfl) rfl rfl HF (fun _ _ _ h => h) (.inl ⟨by rfl, ?_⟩) (by first | assumption | rfl) ?_
      rotate_left
      · intro w hS; try subst hS
        go_simp; try with_reducible rfl
      try simp only [Act.put, List.setIfInBounds_toArray, List.set_cons_zero, List.set_cons_succ]
      refine AnyH.take (i := 9) (d := some 4) (v := ?_) (by kernel_rfl) rfl rfl HF (fun _ _ _ h => h) (.inl ⟨by rfl, ?_⟩) (by first | assumption | rfl) ?_
      rotate_left
      · intro w hS; try subst hS
        go_simp; try with_reducible rfl
      try simp only [Act.put, List.setIfInBounds_toArray, List.set_cons_zero, List.set_cons_succ]
      refine AnyH.take (i := 10) (d := some 5) (v := ?_) (by kernel_rfl) rfl rfl HF (fun _ _ _ h => h) (.inl ⟨by rfl, ?_⟩) (by first | assumption | rfl) ?_
      rotate_left
      · intro w hS; try subst hS
        go_simp; try with_reducible rfl
      try simp only [Act.put, List.setIfInBounds_toArray, List.set_cons_zero, List.set_cons_succ]
      refine AnyH.take (i := 11) (d := some 6) (v := ?_) (by kernel_rfl) rfl rfl HF (fun _ _ _ h => h) (.inl ⟨by rfl, ?_⟩) (by first | assumption | rfl) ?_
      rotate_left
      · intro w hS; try subst hS
        go_simp; try with_reducible rfl
      try simp only [Act.put, List.setIfInBounds_toArray, List.set_cons_zero, List.set_cons_succ]
      refine AnyH.done (by kernel_rfl) ?_
      clear m0 m1 m2 m3 S0
      go_wp2_with fail
      go_ret
      exact ⟨rfl, HB2.out⟩
  · have hl2 : (M.length : Int) > 100 := by omega
    go_enter Try.func5, Try.ntmps5
    go_wp2_with fail
    refine wp_region_anyH (Below W1.heap.size W1) (by kernel_rfl) ?_
    rw [hw2]
    clear hw2 hW1
    refine AnyH.take (i := 0) (d := some 14) (v := ?_) (by kernel_rfl) rfl rfl HF (fun _ _ _ h => h) (.inl ⟨by rfl, ?_⟩) (by first | assumption | rfl) ?_
    rotate_left
    · intro w hS; try subst hS
      go_simp; try with_reducible rfl
    try simp only [Act.put, List.setIfInBounds_toArray, List.set_cons_zero, List.set_cons_succ]
    refine AnyH.take (i := 1) (d := some 15) (v := ?_) (by kernel_rfl) rfl rfl HF (fun _ _ _ h => h) (.inl ⟨by rfl, ?_⟩) (by first | assumption | rfl) ?_
    rotate_left
    · intro w hS; try subst hS
      go_simp; try with_reducible rfl
    try simp only [Act.put, List.setIfInBounds_toArray, List.set_cons_zero, List.set_cons_succ]
    refine AnyH.take (i := 2) (d := some 16) (v := ?_) (by kernel_rfl) rfl rfl HF (fun _ _ _ h => h) (.inl ⟨by rfl, ?_⟩) (by first | assumption | rfl) ?_
    rotate_left
    · intro w hS; try subst hS
      go_simp; try with_reducible rfl
    try simp only [Act.put, List.setIfInBounds_toArray, List.set_cons_zero, List.set_cons_succ]
    refine AnyH.take (i := 3) (d := some 17) (v := ?_) (by kernel_rfl) rfl rfl HF (fun _ _ _ h => h) (.inl ⟨by rfl, ?_⟩) (by first | assumption | rfl) ?_
    rotate_left
    · intro w hS; try subst hS
      go_simp; try with_reducible rfl
    try simp only [Act.put, List.setIfInBounds_toArray, List.set_cons_zero, List.set_cons_succ]
    refine AnyH.take (i := 4) (d := some 18) (v := ?_) (by kernel_rfl) rfl rfl HF (fun _ _ _ h => h) (.inl ⟨by rfl, ?_⟩) (by first | assumption | rfl) ?_
    rotate_left
    · intro w hS; try subst hS
      go_simp; try with_reducible rfl
    try simp only [Act.put, List.setIfInBounds_toArray, List.set_cons_zero, List.set_cons_succ]
    refine AnyH.take (i := 5) (d := some 19) (v := ?_) (by kernel_rfl) rfl rfl HF (fun _ _ _ h => h) (.inl ⟨by rfl, ?_⟩) (by first | assumption | rfl) ?_
    rotate_left
    · intro w hS; try subst hS
      go_simp; try with_reducible rfl
    try simp only [Act.put, List.setIfInBounds_toArray, List.set_cons_zero, List.set_cons_succ]
    refine AnyH.take (i := 6) (d := some 20) (v := ?_) (by kernel_rfl) rfl rfl HF (fun _ _ _ h => h) (.inl ⟨by rfl, ?_⟩) (by first | assumption | rfl) ?_
    rotate_left
    · intro w hS; try subst hS
      go_simp; try with_reducible rfl
    try simp only [Act.put, List.setIfInBounds_toArray, List.set_cons_zero, List.set_cons_succ]
    refine AnyH.take (i := 7) (d := some 21) (v := ?_) (by kernel_rfl) rfl rfl HF (fun _ _ _ h => h) (.inl ⟨by rfl, ?_⟩) (by first | assumption | rfl) ?_
    rotate_left
    · intro w hS; try subst hS
      go_simp; try with_reducible rfl
    try simp only [Act.put, List.setIfInBounds_toArray, List.set_cons_zero, List.set_cons_succ]
    refine AnyH.take (i := 8) (d := some 3) (v := ?_) (by kernel_rfl) rfl rfl HF (fun _ _ _ h => h) (.inl ⟨by rfl, ?_⟩) (by first | assumption | rfl) ?_
    rotate_left
    · intro w hS; try subst hS
      go_simp; try with_reducible rfl
    try simp only [Act.put, List.setIfInBounds_toArray, List.set_cons_zero, List.set_cons_succ]
    refine AnyH.take (i := 9) (d := some 4) (v := ?_) (by kernel_rfl) rfl rfl HF (fun _ _ _ h => h) (.inl ⟨by rfl, ?_⟩) (by first | assumption | rfl) ?_
    rotate_left
    · intro w hS; try subst hS
      go_simp; try with_reducible rfl
    try simp only [Act.put, List.setIfInBounds_toArray, List.set_cons_zero, List.set_cons_succ]
    refine AnyH.take (i := 10) (d := some 5) (v := ?_) (by kernel_rfl) rfl rfl HF (fun _ _ _ h => h) (.inl ⟨by rfl, ?_⟩) (by first | assumption | rfl) ?_
    rotate_left
    · intro w hS; try subst hS
      go_simp; try with_reducible rfl
    try simp only [Act.put, List.setIfInBounds_toArray, List.set_cons_zero, List.set_cons_succ]
    refine AnyH.take (i := 11) (d := some 6) (v := ?_) (by kernel_rfl) rfl rfl HF (fun _ _ _ h => h) (.inl ⟨by rfl, ?_⟩) (by first | assumption | rfl) ?_
    rotate_left
    · intro w hS; try subst hS
      go_simp; try with_reducible rfl
    try simp only [Act.put, List.setIfInBounds_toArray, List.set_cons_zero, List.set_cons_succ]
    refine AnyH.done (by kernel_rfl) ?_
    clear m0 m1 m2 m3 S0
    go_wp2_with fail
    go_ret
    exact ⟨rfl, HB2.out⟩
end M
end Go.Proofs.Ytjbllcakaljpgaa
