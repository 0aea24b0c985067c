/- The reference: Back. -/
import Derived.Test.YtplccefjljdjnaaRefA
import Derived.Test.YtplccefjljdjnaaMoveQ
set_option linter.unusedVariables false
set_option linter.unusedSimpArgs false
namespace Go.Proofs.Ytplccefjljdjnaa
open Go.RowKit Go.Lib
namespace M
attribute [local go_sem] Oper.semAt_some
set_option maxRecDepth 100000 in
set_option maxHeartbeats 4000000 in
theorem refBack_any {b0 : Nat} {W : World} {E : List En} {v : Value} {L : List Chg} (hR : Rcs b0 W v (L.map (rcOf E))) (hLb : L.length ≤ 1000) {len y : Int} (hy : 0 ≤ y ∧ y ≤ 1152921504606846976) (hok : (lngF E len L).2 = 0) :
    Calls Try.prog 29 #[v, .int .i64 y] W fun e w' => e = .returned (.tuple #[.int .i64 (backR E y 0 L).1, .bool (backR E y 0 L).2]) ∧ Below W.heap.size W w' := by
  have HFn : ∀ f, Fence.wide.fn f := fun _ => trivial
  obtain ⟨o1, o2, o3, -, -⟩ := lngF_ok hok
  have HR := Lib.hid hR; have HOK := Lib.hid hok; have HFo := Lib.hid o3
  obtain ⟨va, vc, rfl⟩ := hR.len
  rw [List.length_map] at hR HR ⊢
  obtain ⟨res, hres⟩ : ∃ r, backR E y 0 L = r := ⟨_, rfl⟩
  have HRS := Lib.hid hres
  rw [hres]
  obtain ⟨hy0, hy1⟩ := hy
  clear hR hres hok o3
  go_enter Try.func29, Try.ntmps29
  go_wp2_with fail
  go_loopw [6, 7] (fun sv iv wr => ∃ (j : Nat) (s : Int), iv = .int .i64 j ∧ sv = .int .i64 s ∧ j ≤ L.length ∧ s = moreF E 0 (L.take j) ∧ backR E y s (L.drop j) = res ∧ Below W.heap.size W wr) (fun _ iv _ => L.length - (intOf iv).toNat)
  case atStart => exact ⟨0, 0, rfl, rfl, Nat.zero_le _, rfl, HRS.out, Below.refl _ _⟩
  case round =>
    obtain ⟨j, s, rfl, rfl, hj, hs, hm, hB⟩ := hrel
    have HB := Lib.hid hB; have HS := Lib.hid hs; have HM := Lib.hid hm
    have hsb := more_in HOK.out j
    rw [← hs] at hsb
    obtain ⟨hs1, hs2⟩ := hsb
    clear hB hs hm
    by_cases hlt : j < L.length
    · have hlt2 : (j : Int) < (L.length : Int) := by omega
      have hlt3 : (0 : Int) ≤ (j : Int) := by omega
      obtain ⟨g, cap, hv, -, -, hc⟩ := Rcs.at HR.out hlt
      simp only [Value.slice.injEq] at hv
      obtain ⟨rfl, -, rfl⟩ := hv
      obtain ⟨q0, q1, q2⟩ := hc wr HB.out j hlt
      have HC := Lib.hid (fun w hw => hc w hw j hlt)
      obtain ⟨m1, m2, m3⟩ := formF_mem L _ HFo.out L[j] (List.getElem_mem hlt)
      have htl := ins_in HOK.out (List.getElem_mem hlt)
      have hmd := HM.out
      rw [backR_drop hlt] at hmd
      have HNX : Hid (moreF E 0 (L.take (j + 1)) = s + ((txt E L[j].id).length - L[j].n)) := Lib.hid (by rw [take_snoc hlt, moreF_snoc, ← HS.out])
      clear hc
      generalize L[j] = c at *
      obtain ⟨tl, htl2⟩ : ∃ n, (txt E c.id).length = n := ⟨_, rfl⟩
      rw [htl2] at q2 htl hmd HNX HC
      have HMD := Lib.hid hmd
      have a2 : IntKind.i64.wrap (c.pos + s) = c.pos + s := by rw [IntKind.wrap_i64]; omega
      have a3 : IntKind.i64.wrap (c.pos + s + (tl : Int)) = c.pos + s + (tl : Int) := by rw [IntKind.wrap_i64]; omega
      have a4 : IntKind.i64.wrap ((tl : Int) - c.n) = (tl : Int) - c.n := by rw [IntKind.wrap_i64]; omega
      have a5 : IntKind.i64.wrap (s + ((tl : Int) - c.n)) = s + ((tl : Int) - c.n) := by rw [IntKind.wrap_i64]; omega
      have a6 : IntKind.i64.wrap (y - s) = y - s := by rw [IntKind.wrap_i64]; omega
      clear htl hmd htl2 m1 m2 m3 hs1 hs2
      by_cases h1 : y < c.pos + s
      · have HE : Hid (res = (y - s, true)) := Lib.hid (by rw [← HMD.out, if_pos h1])
        go_wp2_with fail
        go_ret2
        exact ⟨by rw [HE.out]; rfl, HB.out⟩
      · by_cases h2 : y < c.pos + s + (tl : Int)
        · have HE : Hid (res = (0, false)) := Lib.hid (by rw [← HMD.out, if_neg h1, if_pos h2])
          go_wp2_with fail
          go_ret2
          exact ⟨by rw [HE.out]; rfl, HB.out⟩
        · have HE : Hid (backR E y (s + ((tl : Int) - c.n)) (L.drop (j + 1)) = res) := Lib.hid (by rw [← HMD.out, if_neg h1, if_neg h2])
          go_wp2_with fail
          have m1 : ∀ w, Below wr.heap.size wr w → w.cell? ⟨g, j * 3 + 1, none⟩ = some (.int .i64 c.n) := fun w hw => (HC.out w (Below.after HB.out hw)).2.1
          have m2 : ∀ w, Below wr.heap.size wr w → w.cell? ⟨g, j * 3 + 2, none⟩ = some (.int .i64 tl) := fun w hw => (HC.out w (Below.after HB.out hw)).2.2
          clear q0 q1 q2
          refine wp_region_anyH (Below wr.heap.size wr) (by kernel_rfl) ?_
          have B1 : Below wr.heap.size wr wr.drew := (Below.refl _ _).drew
          have HF : ∀ f, Fence.wide.fn f := fun _ => trivial
          refine AnyH.take (i := 0) (d := some 34) (v := ?_) (by kernel_rfl) rfl rfl HF (fun _ _ _ h => h) (.inl ⟨by rfl, ?_⟩) (by first | assumption | rfl) ?_
          rotate_left
          · intro w hS; try subst hS
            go_simp; try with_reducible rfl
          try simp only [Act.put, List.setIfInBounds_toArray, List.set_cons_zero, List.set_cons_succ]
          refine AnyH.take (i := 1) (d := some 35) (v := ?_) (by kernel_rfl) rfl rfl HF (fun _ _ _ h => h) (.inl ⟨by rfl, ?_⟩) (by first | assumption | rfl) ?_
          rotate_left
          · intro w hS; try subst hS
            go_simp; try with_reducible rfl
          try simp only [Act.put, List.setIfInBounds_toArray, List.set_cons_zero, List.set_cons_succ]
          refine AnyH.take (i := 2) (d := some 36) (v := ?_) (by kernel_rfl) rfl rfl HF (fun _ _ _ h => h) (.inl ⟨by rfl, ?_⟩) (by first | assumption | rfl) ?_
          rotate_left
          · intro w hS; try subst hS
            go_simp; try with_reducible rfl
          try simp only [Act.put, List.setIfInBounds_toArray, List.set_cons_zero, List.set_cons_succ]
          refine AnyH.take (i := 3) (d := some 37) (v := ?_) (by kernel_rfl) rfl rfl HF (fun _ _ _ h => h) (.inl ⟨by rfl, ?_⟩) (by first | assumption | rfl) ?_
          rotate_left
          · intro w hS; try subst hS
            go_simp; try with_reducible rfl
          try simp only [Act.put, List.setIfInBounds_toArray, List.set_cons_zero, List.set_cons_succ]
          refine AnyH.take (i := 4) (d := some 38) (v := ?_) (by kernel_rfl) rfl rfl HF (fun _ _ _ h => h) (.inl ⟨by rfl, ?_⟩) (by first | assumption | rfl) ?_
          rotate_left
          · intro w hS; try subst hS
            go_simp; try with_reducible rfl
          try simp only [Act.put, List.setIfInBounds_toArray, List.set_cons_zero, List.set_cons_succ]
          refine AnyH.take (i := 5) (d := some 39) (v := ?_) (by kernel_rfl) rfl rfl HF (fun _ _ _ h => h) (.inl ⟨by rfl, ?_⟩) (by first | assumption | rfl) ?_
          rotate_left
          · intro w hS; try subst hS
            go_simp; try with_reducible rfl
          try simp only [Act.put, List.setIfInBounds_toArray, List.set_cons_zero, List.set_cons_succ]
          refine AnyH.take (i := 6) (d := some 40) (v := ?_) (by kernel_rfl) rfl rfl HF (fun _ _ _ h => h) (.inl ⟨by rfl, ?_⟩) (by first | assumption | rfl) ?_
          rotate_left
          · intro w hS; try subst hS
            go_simp; try with_reducible rfl
          try simp only [Act.put, List.setIfInBounds_toArray, List.set_cons_zero, List.set_cons_succ]
          refine AnyH.take (i := 7) (d := some 41) (v := ?_) (by kernel_rfl) rfl rfl HF (fun _ _ _ h => h) (.inl ⟨by rfl, ?_⟩) (by first | assumption | rfl) ?_
          rotate_left
          · intro w hS; try subst hS
            go_simp; try with_reducible rfl
          try simp only [Act.put, List.setIfInBounds_toArray, List.set_cons_zero, List.set_cons_succ]
          refine AnyH.take (i := 8) (d := some 42) (v := ?_) (by kernel_rfl) rfl rfl HF (fun _ _ _ h => h) (.inl ⟨by rfl, ?_⟩) (by first | assumption | rfl) ?_
          rotate_left
          · intro w hS; try subst hS
            go_simp; try with_reducible rfl
          try simp only [Act.put, List.setIfInBounds_toArray, List.set_cons_zero, List.set_cons_succ]
          refine AnyH.take (i := 9) (d := some 43) (v := ?_) (by kernel_rfl) rfl rfl HF (fun _ _ _ h => h) (.inl ⟨by rfl, ?_⟩) (by first | assumption | rfl) ?_
          rotate_left
          · intro w hS; try subst hS
            go_simp; try with_reducible rfl
          try simp only [Act.put, List.setIfInBounds_toArray, List.set_cons_zero, List.set_cons_succ]
          refine AnyH.take (i := 10) (d := some 44) (v := ?_) (by kernel_rfl) rfl rfl HF (fun _ _ _ h => h) (.inl ⟨by rfl, ?_⟩) (by first | assumption | rfl) ?_
          rotate_left
          · intro w hS; try subst hS
            go_simp; try with_reducible rfl
          try simp only [Act.put, List.setIfInBounds_toArray, List.set_cons_zero, List.set_cons_succ]
          refine AnyH.take (i := 11) (d := some 45) (v := ?_) (by kernel_rfl) rfl rfl HF (fun _ _ _ h => h) (.inl ⟨by rfl, ?_⟩) (by first | assumption | rfl) ?_
          rotate_left
          · intro w hS; try subst hS
            go_simp; try with_reducible rfl
          try simp only [Act.put, List.setIfInBounds_toArray, List.set_cons_zero, List.set_cons_succ]
          refine AnyH.take (i := 12) (d := some 46) (v := ?_) (by kernel_rfl) rfl rfl HF (fun _ _ _ h => h) (.inl ⟨by rfl, ?_⟩) (by first | assumption | rfl) ?_
          rotate_left
          · intro w hS; try subst hS
            go_simp; try with_reducible rfl
          try simp only [Act.put, List.setIfInBounds_toArray, List.set_cons_zero, List.set_cons_succ]
          refine AnyH.take (i := 13) (d := some 6) (v := ?_) (by kernel_rfl) rfl rfl HF (fun _ _ _ h => h) (.inl ⟨by rfl, ?_⟩) (by first | assumption | rfl) ?_
          rotate_left
          · intro w hS; try subst hS
            go_simp; try with_reducible rfl
          try simp only [Act.put, List.setIfInBounds_toArray, List.set_cons_zero, List.set_cons_succ]
          refine AnyH.done (by kernel_rfl) ?_
          have HB1 := Lib.hid (Below.after HB.out B1)
          clear m1 m2 B1
          go_wp2_with fail
          clear a2 a3 a4 a5 a6 h1 h2
          go_roundw
          case rel => exact ⟨j + 1, s + ((tl : Int) - c.n), by go_num, rfl, by omega, HNX.out.symm, HE.out, HB1.out⟩
          case measure => first | (simp [intOf]; omega) | simp [intOf]
    · have hlt2 : ¬ (j : Int) < (L.length : Int) := by omega
      have HE : Hid (res = (y - s, true)) := Lib.hid (by rw [← HM.out, List.drop_of_length_le (by omega)]; rfl)
      have a6 : IntKind.i64.wrap (y - s) = y - s := by rw [IntKind.wrap_i64]; omega
      go_wp2_with fail
      go_ret2
      exact ⟨by rw [HE.out]; rfl, HB.out⟩
end M
end Go.Proofs.Ytplccefjljdjnaa
