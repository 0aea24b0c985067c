/- law14's Last; law17's offset. -/
import Derived.Test.YtpjcfepngjpfbaaMd14
namespace Go.Proofs.Ytpjcfepngjpfbaa
open Go.RowKit Go.Lib
namespace M
attribute [local go_sem] Oper.semAt_some
/-- What Last returns. -/
def L14 (n0 : Nat) (W : World) (E : List En) (e : Ending) (w' : World) : Prop := ∃ (id : Nat) (u : Slc), e = .returned (.tuple #[.int .i64 id, .int .i64 (txt E id).length, slcV u, .bool (decide ((txt E id).length ≤ 4096))]) ∧ id ≤ E.length ∧ Bal0 E id (txt E id) ∧ (u.2.1 = (txt E id).length ∨ 4096 < (txt E id).length) ∧ ((txt E id).length ≤ 4096 → Bys n0 w' (slcV u) (txt E id)) ∧ Below W.heap.size W w'
set_option maxRecDepth 100000 in
set_option maxHeartbeats 4000000 in
theorem last_any {n0 B : Nat} {W : World} {E : List En} {ids : List Nat} {T : List Slc} {iv lv tv : Value} (hI : IdW n0 W iv ids) (hT : ItW n0 W lv (lnF E ids)) (hS : SlW n0 W tv T) (hO : MdOk n0 W E ids T) (hn : ids.length ≤ 90) :
    Calls Try.prog 13 #[.agg #[.pointer (some ⟨B, 0, none⟩), iv, lv, tv]] W (L14 n0 W E) := by
  have HF : ∀ f, Fence.wide.fn f := fun _ => trivial
  obtain ⟨W1, hW1⟩ : ∃ w, W.alloc (.cells #[.pointer (some ⟨B, 0, none⟩), iv, lv, tv] 28) = w := ⟨_, rfl⟩
  have k1 : McC W1 W.heap.size B iv lv tv := by rw [← hW1]; exact heap_new' _ _
  have b1 : Below W.heap.size W W1 := by rw [← hW1]; exact (Below.refl _ _).alloc (Nat.le_refl _) _
  obtain ⟨c0, c1, c2, c3⟩ := k1.cells
  have HK1 := Lib.hid k1; have HB1 := Lib.hid b1
  have hI1 := SlA.below hI b1; have hT1 := SlA.below hT b1; have hS1 := SlA.below hS b1
  obtain ⟨n, hnn⟩ : ∃ n, ids.length = n := ⟨_, rfl⟩
  by_cases h0 : n = 0
  · subst h0
    obtain rfl : ids = [] := List.length_eq_zero_iff.1 hnn
    obtain ⟨va, vc, rfl⟩ := hI.len
    simp only [List.length_nil] at hW1 c1
    clear hI hT hS hO hI1 hT1 hS1 k1 b1 hnn hn
    go_enter Try.func13, Try.ntmps13
    go_wp2_with fail
    refine bodyPost_ret (v := .tuple #[.int .i64 0, .int .i64 0, .slice none 0 0, .bool true]) (by simp [results, Try.results13, go_sem]) rfl ?_
    refine ⟨0, (none, 0, 0), by rw [txt_zero]; rfl, Nat.zero_le _, ?_, .inl (by rw [txt_zero]; rfl), fun _ => by rw [txt_zero]; exact SlA.nil _ _ _ _ _, by first | exact HB1.out | (rw [hW1]; exact HB1.out)⟩
    rw [txt_zero]
    exact ⟨Nat.zero_le _, txt_zero E, rfl⟩
  · obtain ⟨k, hk⟩ : ∃ k, n = k + 1 := ⟨n - 1, by omega⟩
    have hki : k < ids.length := by omega
    obtain ⟨gi, ci, hiv, hi1, hi2, hi3⟩ := SlA.one encI_len hI1 hki
    obtain ⟨gl, cl, hlv, hl1, hl2, hl3⟩ := SlA.one encI_len hT1 (i := k) (by rw [lnF_len]; exact hki)
    obtain ⟨gt, ct, htv, ht1, ht2, ht3⟩ := SlA.one encS_len hS1 (i := k) (by rw [hO.len]; exact hki)
    rw [hnn] at hiv
    rw [lnF_len, hnn] at hlv
    rw [hO.len, hnn] at htv
    obtain ⟨id, hid⟩ : ∃ y, ids[k] = y := ⟨_, rfl⟩
    obtain ⟨u, hu⟩ : ∃ y, T[k]'(by rw [hO.len]; exact hki) = y := ⟨_, rfl⟩
    obtain ⟨ln, hln⟩ : ∃ y, (txt E id).length = y := ⟨_, rfl⟩
    have d1 : ∀ w, Below W1.heap.size W1 w → w.cell? ⟨gi, k, none⟩ = some (.int .i64 id) := fun w hw => by
      rw [hi3 w (SlA.below hI1 hw) k hki, hid]; rfl
    have d2 : ∀ w, Below W1.heap.size W1 w → w.cell? ⟨gl, k, none⟩ = some (.int .i64 ln) := fun w hw => by
      rw [hl3 w (SlA.below hT1 hw) k (by rw [lnF_len]; exact hki), lnF_get, hid, hln]; rfl
    have d3 : ∀ w, Below W1.heap.size W1 w → w.cell? ⟨gt, k, none⟩ = some (slcV u) := fun w hw => by
      rw [ht3 w (SlA.below hS1 hw) k (by rw [hO.len]; exact hki), hu]; rfl
    have m1 : ∀ w, Below W1.heap.size W1 w → w.cell? ⟨W.heap.size, 1, none⟩ = some iv := fun w hw => (McC.cells (below_block hw HK1.out)).2.1
    have m2 : ∀ w, Below W1.heap.size W1 w → w.cell? ⟨W.heap.size, 2, none⟩ = some lv := fun w hw => (McC.cells (below_block hw HK1.out)).2.2.1
    have m3 : ∀ w, Below W1.heap.size W1 w → w.cell? ⟨W.heap.size, 3, none⟩ = some tv := fun w hw => (McC.cells (below_block hw HK1.out)).2.2.2
    have hkw : IntKind.i64.wrap ((n : Int) - 1) = (k : Int) := by rw [IntKind.wrap_i64]; omega
    have hkb : k ≤ 90 := by omega
    have hkn : (k : Int) < (n : Int) := by omega
    have hk0 : (0 : Int) ≤ (k : Int) := by omega
    have hdd : decide ((ln : Int) ≤ 4096) = decide (ln ≤ 4096) := by by_cases h : ln ≤ 4096 <;> simp [h] <;> omega
    have HFIN : Hid (id ≤ E.length ∧ Bal0 E id (txt E id) ∧ (ln ≤ 4096 → Bys n0 W (slcV u) (txt E id)) ∧ (txt E id).length = ln) := Lib.hid (by
      have hb := hO.bal id (by rw [← hid]; exact List.getElem_mem hki)
      refine ⟨hb.2.le, hb.2, fun h => ?_, hln⟩
      have := hO.txt k hki (by rw [hO.len]; exact hki) (by rw [hid, hln]; exact h)
      rw [hid, hu] at this
      exact this)
    obtain ⟨ua, ul, uc⟩ := u
    subst hiv; subst hlv; subst htv
    clear hI hT hS hO hI1 hT1 hS1 k1 b1 hnn hn hki hi1 hi2 hi3 hl1 hl2 hl3 ht1 ht2 ht3 hid hu hln
    have hnz : ¬ n = 0 := h0
    have hnzb : ((n : Int) == 0) = false := by simp; omega
    have hkl : k < n := by omega
    have hnb : n ≤ 91 := by omega
    clear h0 hk
    go_enter Try.func13, Try.ntmps13
    go_wp2_with fail
    refine wp_region_anyH (Below W1.heap.size W1) (by kernel_rfl) ?_
    have S0 : Below W1.heap.size W1 W1.drew := (Below.refl _ _).drew
    refine AnyH.take (i := 0) (d := some 15) (v := ?_) (by kernel_rfl) rfl rfl HF (fun _ _ _ h => h) (.inl ⟨by rfl, ?_⟩) (by first | assumption | rfl) ?_
    rotate_left
    · intro w hS; try subst hS
      go_simp; try with_reducible rfl
    try simp only [Act.put, List.setIfInBounds_toArray, List.set_cons_zero, List.set_cons_succ]
    refine AnyH.take (i := 1) (d := some 16) (v := ?_) (by kernel_rfl) rfl rfl HF (fun _ _ _ h => h) (.inl ⟨by rfl, ?_⟩) (by first | assumption | rfl) ?_
    rotate_left
    · intro w hS; try subst hS
      go_simp; try with_reducible rfl
    try simp only [Act.put, List.setIfInBounds_toArray, List.set_cons_zero, List.set_cons_succ]
    refine AnyH.take (i := 2) (d := some 17) (v := ?_) (by kernel_rfl) rfl rfl HF (fun _ _ _ h => h) (.inl ⟨by rfl, ?_⟩) (by first | assumption | rfl) ?_
    rotate_left
    · intro w hS; try subst hS
      go_simp; try with_reducible rfl
    try simp only [Act.put, List.setIfInBounds_toArray, List.set_cons_zero, List.set_cons_succ]
    refine AnyH.take (i := 3) (d := some 18) (v := ?_) (by kernel_rfl) rfl rfl HF (fun _ _ _ h => h) (.inl ⟨by rfl, ?_⟩) (by first | assumption | rfl) ?_
    rotate_left
    · intro w hS; try subst hS
      go_simp; try with_reducible rfl
    try simp only [Act.put, List.setIfInBounds_toArray, List.set_cons_zero, List.set_cons_succ]
    refine AnyH.take (i := 4) (d := some 19) (v := ?_) (by kernel_rfl) rfl rfl HF (fun _ _ _ h => h) (.inl ⟨by rfl, ?_⟩) (by first | assumption | rfl) ?_
    rotate_left
    · intro w hS; try subst hS
      go_simp; try with_reducible rfl
    try simp only [Act.put, List.setIfInBounds_toArray, List.set_cons_zero, List.set_cons_succ]
    refine AnyH.take (i := 5) (d := some 20) (v := ?_) (by kernel_rfl) rfl rfl HF (fun _ _ _ h => h) (.inl ⟨by rfl, ?_⟩) (by first | assumption | rfl) ?_
    rotate_left
    · intro w hS; try subst hS
      go_simp; try with_reducible rfl
    try simp only [Act.put, List.setIfInBounds_toArray, List.set_cons_zero, List.set_cons_succ]
    refine AnyH.take (i := 6) (d := some 21) (v := ?_) (by kernel_rfl) rfl rfl HF (fun _ _ _ h => h) (.inl ⟨by rfl, ?_⟩) (by first | assumption | rfl) ?_
    rotate_left
    · intro w hS; try subst hS
      go_simp; try with_reducible rfl
    try simp only [Act.put, List.setIfInBounds_toArray, List.set_cons_zero, List.set_cons_succ]
    refine AnyH.take (i := 7) (d := some 22) (v := ?_) (by kernel_rfl) rfl rfl HF (fun _ _ _ h => h) (.inl ⟨by rfl, ?_⟩) (by first | assumption | rfl) ?_
    rotate_left
    · intro w hS; try subst hS
      go_simp; try with_reducible rfl
    try simp only [Act.put, List.setIfInBounds_toArray, List.set_cons_zero, List.set_cons_succ]
    refine AnyH.take (i := 8) (d := some 23) (v := ?_) (by kernel_rfl) rfl rfl HF (fun _ _ _ h => h) (.inl ⟨by rfl, ?_⟩) (by first | assumption | rfl) ?_
    rotate_left
    · intro w hS; try subst hS
      go_simp; try with_reducible rfl
    try simp only [Act.put, List.setIfInBounds_toArray, List.set_cons_zero, List.set_cons_succ]
    refine AnyH.take (i := 9) (d := some 24) (v := ?_) (by kernel_rfl) rfl rfl HF (fun _ _ _ h => h) (.inl ⟨by rfl, ?_⟩) (by first | assumption | rfl) ?_
    rotate_left
    · intro w hS; try subst hS
      go_simp; try with_reducible rfl
    try simp only [Act.put, List.setIfInBounds_toArray, List.set_cons_zero, List.set_cons_succ]
    refine AnyH.take (i := 10) (d := some 25) (v := ?_) (by kernel_rfl) rfl rfl HF (fun _ _ _ h => h) (.inl ⟨by rfl, ?_⟩) (by first | assumption | rfl) ?_
    rotate_left
    · intro w hS; try subst hS
      go_simp; try with_reducible rfl
    try simp only [Act.put, List.setIfInBounds_toArray, List.set_cons_zero, List.set_cons_succ]
    refine AnyH.take (i := 11) (d := some 26) (v := ?_) (by kernel_rfl) rfl rfl HF (fun _ _ _ h => h) (.inl ⟨by rfl, ?_⟩) (by first | assumption | rfl) ?_
    rotate_left
    · intro w hS; try subst hS
      go_simp; try with_reducible rfl
    try simp only [Act.put, List.setIfInBounds_toArray, List.set_cons_zero, List.set_cons_succ]
    refine AnyH.take (i := 12) (d := some 27) (v := ?_) (by kernel_rfl) rfl rfl HF (fun _ _ _ h => h) (.inl ⟨by rfl, ?_⟩) (by first | assumption | rfl) ?_
    rotate_left
    · intro w hS; try subst hS
      go_simp; try with_reducible rfl
    try simp only [Act.put, List.setIfInBounds_toArray, List.set_cons_zero, List.set_cons_succ]
    refine AnyH.take (i := 13) (d := some 28) (v := ?_) (by kernel_rfl) rfl rfl HF (fun _ _ _ h => h) (.inl ⟨by rfl, ?_⟩) (by first | assumption | rfl) ?_
    rotate_left
    · intro w hS; try subst hS
      go_simp; try with_reducible rfl
    try simp only [Act.put, List.setIfInBounds_toArray, List.set_cons_zero, List.set_cons_succ]
    refine AnyH.take (i := 14) (d := some 29) (v := ?_) (by kernel_rfl) rfl rfl HF (fun _ _ _ h => h) (.inl ⟨by rfl, ?_⟩) (by first | assumption | rfl) ?_
    rotate_left
    · intro w hS; try subst hS
      go_simp; try with_reducible rfl
    try simp only [Act.put, List.setIfInBounds_toArray, List.set_cons_zero, List.set_cons_succ]
    refine AnyH.take (i := 15) (d := some 30) (v := ?_) (by kernel_rfl) rfl rfl HF (fun _ _ _ h => h) (.inl ⟨by rfl, ?_⟩) (by first | assumption | rfl) ?_
    rotate_left
    · intro w hS; try subst hS
      go_simp; try with_reducible rfl
    try simp only [Act.put, List.setIfInBounds_toArray, List.set_cons_zero, List.set_cons_succ]
    refine AnyH.take (i := 16) (d := some 31) (v := ?_) (by kernel_rfl) rfl rfl HF (fun _ _ _ h => h) (.inl ⟨by rfl, ?_⟩) (by first | assumption | rfl) ?_
    rotate_left
    · intro w hS; try subst hS
      go_simp; try with_reducible rfl
    try simp only [Act.put, List.setIfInBounds_toArray, List.set_cons_zero, List.set_cons_succ]
    refine AnyH.take (i := 17) (d := some 32) (v := ?_) (by kernel_rfl) rfl rfl HF (fun _ _ _ h => h) (.inl ⟨by rfl, ?_⟩) (by first | assumption | rfl) ?_
    rotate_left
    · intro w hS; try subst hS
      go_simp; try with_reducible rfl
    try simp only [Act.put, List.setIfInBounds_toArray, List.set_cons_zero, List.set_cons_succ]
    refine AnyH.take (i := 18) (d := some 33) (v := ?_) (by kernel_rfl) rfl rfl HF (fun _ _ _ h => h) (.inl ⟨by rfl, ?_⟩) (by first | assumption | rfl) ?_
    rotate_left
    · intro w hS; try subst hS
      go_simp; try with_reducible rfl
    try simp only [Act.put, List.setIfInBounds_toArray, List.set_cons_zero, List.set_cons_succ]
    refine AnyH.take (i := 19) (d := some 34) (v := ?_) (by kernel_rfl) rfl rfl HF (fun _ _ _ h => h) (.inl ⟨by rfl, ?_⟩) (by first | assumption | rfl) ?_
    rotate_left
    · intro w hS; try subst hS
      go_simp; try with_reducible rfl
    try simp only [Act.put, List.setIfInBounds_toArray, List.set_cons_zero, List.set_cons_succ]
    refine AnyH.take (i := 20) (d := some 35) (v := ?_) (by kernel_rfl) rfl rfl HF (fun _ _ _ h => h) (.inl ⟨by rfl, ?_⟩) (by first | assumption | rfl) ?_
    rotate_left
    · intro w hS; try subst hS
      go_simp; try with_reducible rfl
    try simp only [Act.put, List.setIfInBounds_toArray, List.set_cons_zero, List.set_cons_succ]
    refine AnyH.take (i := 21) (d := some 2) (v := ?_) (by kernel_rfl) rfl rfl HF (fun _ _ _ h => h) (.inl ⟨by rfl, ?_⟩) (by first | assumption | rfl) ?_
    rotate_left
    · intro w hS; try subst hS
      go_simp; try with_reducible rfl
    try simp only [Act.put, List.setIfInBounds_toArray, List.set_cons_zero, List.set_cons_succ]
    refine AnyH.take (i := 22) (d := some 3) (v := ?_) (by kernel_rfl) rfl rfl HF (fun _ _ _ h => h) (.inl ⟨by rfl, ?_⟩) (by first | assumption | rfl) ?_
    rotate_left
    · intro w hS; try subst hS
      go_simp; try with_reducible rfl
    try simp only [Act.put, List.setIfInBounds_toArray, List.set_cons_zero, List.set_cons_succ]
    refine AnyH.take (i := 23) (d := some 4) (v := ?_) (by kernel_rfl) rfl rfl HF (fun _ _ _ h => h) (.inl ⟨by rfl, ?_⟩) (by first | assumption | rfl) ?_
    rotate_left
    · intro w hS; try subst hS
      go_simp; try with_reducible rfl
    try simp only [Act.put, List.setIfInBounds_toArray, List.set_cons_zero, List.set_cons_succ]
    refine AnyH.take (i := 24) (d := some 5) (v := ?_) (by kernel_rfl) rfl rfl HF (fun _ _ _ h => h) (.inl ⟨by rfl, ?_⟩) (by first | assumption | rfl) ?_
    rotate_left
    · intro w hS; try subst hS
      go_simp; try with_reducible rfl
    try simp only [Act.put, List.setIfInBounds_toArray, List.set_cons_zero, List.set_cons_succ]
    refine AnyH.done (by kernel_rfl) ?_
    clear d1 d2 d3 m1 m2 m3
    have HS0 := Lib.hid S0
    clear S0
    go_wp2_with fail
    refine bodyPost_ret (v := .tuple #[.int .i64 id, .int .i64 ln, .slice ua ul uc, .bool (decide (ln ≤ 4096))]) (by simp [results, Try.results13, go_sem]) rfl ?_
    obtain ⟨f1, f2, f3, f4⟩ := HFIN.out
    refine ⟨id, (ua, ul, uc), by rw [f4], f1, f2, ?_, fun h => ?_, Below.after HB1.out HS0.out⟩
    · by_cases h : ln ≤ 4096
      · obtain ⟨va, vc, hv⟩ := (f3 h).len
        simp only [slcV, Value.slice.injEq] at hv
        exact .inl hv.2.1
      · exact .inr (by rw [f4]; omega)
    · rw [f4] at h
      exact SlA.below (SlA.below (f3 h) HB1.out) HS0.out
end M
end Go.Proofs.Ytpjcfepngjpfbaa
