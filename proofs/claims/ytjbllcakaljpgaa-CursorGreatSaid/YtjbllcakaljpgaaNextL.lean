/- The cursor: NextLine, PrevLine. -/
import Derived.Test.YtjbllcakaljpgaaBeg
namespace Go.Proofs.Ytjbllcakaljpgaa
open Go.RowKit Go.Lib
namespace M
attribute [local go_sem] Oper.semAt_some
/-- Where NextLine leads. -/
def nxF (t : List Nat) (k : Nat) : Option Nat := if (t.take k).count 10 = t.count 10 then none else some (nlp t ((t.take k).count 10 + 1))
/-- Where PrevLine leads. -/
def pvF (t : List Nat) (k : Nat) : Option Nat := if 0 < tlT (t.take k) then some (k - tlT (t.take k)) else if 0 < (t.take k).count 10 then some (nlp t ((t.take k).count 10 - 1)) else none
/-- A move to where, or none. -/
def MovP (c : Nat) (W : World) (o : Option Nat) (e : Ending) (w' : World) : Prop := match o with
  | none => e = .returned (.bool false) ∧ Below W.heap.size W w'
  | some j => e = .returned (.bool true) ∧ ∃ w1, Below W.heap.size W w1 ∧ w' = w1.setCell ⟨c, 3, none⟩ (.int .i64 j)
set_option maxRecDepth 100000 in
set_option maxHeartbeats 8000000 in
theorem nextl_any {n0 B most : Nat} {W : World} {E : List En} (hs : StAt n0 W B most E) (hwf : Wf E) (hE : E.length ≤ 1048576) {c id len k : Nat} (h : CuC W c B id len k) (hid : id ≤ E.length) (hk : k ≤ (txt E id).length) :
    Calls Try.prog 25 #[.pointer (some ⟨c, 0, none⟩)] W (MovP c W (nxF (txt E id) k)) := by
  have HF : ∀ f, Fence.wide.fn f := fun _ => trivial
  have H := Lib.hid h
  obtain ⟨hw, hlen⟩ := hwf.len hid
  have HLN := Lib.hid (line_any hs hwf hE h hid hk)
  obtain ⟨t, ht⟩ : ∃ t, txt E id = t := ⟨_, rfl⟩
  have HWT : Hid (∀ w, Below W.heap.size W w → Calls Try.prog 30 #[.pointer (some ⟨B, 0, none⟩), .int .i64 id] w fun e w' => e = .returned (.tuple #[wtV (wt t), .nilIface]) ∧ Below w.heap.size w w') := Lib.hid (fun w hb => by
    have := weight_any (hs.below hb) hid hE
    rwa [hw, ht] at this)
  have HBG : Hid (∀ w L, Below W.heap.size W w → L ≤ t.count 10 → Calls Try.prog 49 #[.pointer (some ⟨c, 0, none⟩), .int .i64 (L : Nat)] w fun e w' => e = .returned (.int .i64 (nlp t L)) ∧ Below w.heap.size w w') := Lib.hid (fun w L hb hL => by
    have := begin_any (hs.below hb) hwf hE (below_block hb h) hid (L := L) (by rw [ht]; exact hL)
    rwa [ht] at this)
  rw [ht] at HLN hlen ⊢
  have hcb : t.count 10 ≤ t.length := List.count_le_length
  have hcl : (t.take k).count 10 ≤ t.count 10 := List.Sublist.count_le _ (List.take_sublist _ _)
  obtain ⟨u, hu⟩ : ∃ u, wt t = u := ⟨_, rfl⟩
  have hun : u.lines = t.count 10 := by rw [← hu]; rfl
  obtain ⟨ln, hln⟩ : ∃ x, (t.take k).count 10 = x := ⟨_, rfl⟩
  have hvl : (wt (t.take k)).lines = ln := hln
  obtain ⟨tl, htl⟩ : ∃ x, (wt (t.take k)).tail = x := ⟨_, rfl⟩
  rw [hvl, htl] at HLN
  rw [hu] at HWT
  unfold wtV at HWT
  unfold nxF
  rw [hln] at hcl ⊢
  rw [← hun] at hcl hcb ⊢
  have HUN := Lib.hid hun
  obtain ⟨o, ho⟩ : ∃ o, (if ln = u.lines then none else some (nlp t (ln + 1))) = o := ⟨_, rfl⟩
  have HO := Lib.hid ho
  rw [ho]
  clear h hs hwf hw ht hu hun hvl htl hln ho
  have hlw : IntKind.i64.wrap ((ln : Int) + 1) = ((ln + 1 : Nat) : Int) := by rw [IntKind.wrap_i64]; omega
  have HLW := Lib.hid hlw
  clear hlw
  go_enter Try.func25, Try.ntmps25
  go_wp2_with fail
  refine HLN.out.mono ?_; rintro e w1 ⟨rfl, b1⟩
  have B1 := Lib.hid b1
  have m0 : ∀ w, Below w1.heap.size w1 w → w.cell? ⟨c, 0, none⟩ = some (.pointer (some ⟨B, 0, none⟩)) := fun w hw => (CuC.cells (below_block (Below.after B1.out hw) H.out)).1
  have m1 : ∀ w, Below w1.heap.size w1 w → w.cell? ⟨c, 1, none⟩ = some (.int .i64 id) := fun w hw => (CuC.cells (below_block (Below.after B1.out hw) H.out)).2.1
  clear b1
  go_wp2_with fail
  refine wp_region_anyH (Below w1.heap.size w1) (by kernel_rfl) ?_
  obtain ⟨wd, hwd⟩ : ∃ w, w1.drew = w := ⟨_, rfl⟩
  have SC : Below w1.heap.size w1 wd := by rw [← hwd]; exact (Below.refl _ _).drew
  rw [hwd]
  clear hwd
  refine AnyH.take (i := 0) (d := some 15) (v := ?_) (by kernel_rfl) rfl rfl HF (fun _ _ _ h => h) (.inl ⟨by rfl, ?_⟩) (by first | assumption | rfl) ?_
  rotate_left
  · intro w hS; try subst hS
    go_simp; try with_reducible rfl
  try simp only [Act.put, List.setIfInBounds_toArray, List.set_cons_zero, List.set_cons_succ]
  refine AnyH.take (i := 1) (d := some 16) (v := ?_) (by kernel_rfl) rfl rfl HF (fun _ _ _ h => h) (.inl ⟨by rfl, ?_⟩) (by first | assumption | rfl) ?_
  rotate_left
  · intro w hS; try subst hS
    go_simp; try with_reducible rfl
  try simp only [Act.put, List.setIfInBounds_toArray, List.set_cons_zero, List.set_cons_succ]
  refine AnyH.take (i := 2) (d := some 17) (v := ?_) (by kernel_rfl) rfl rfl HF (fun _ _ _ h => h) (.inl ⟨by rfl, ?_⟩) (by first | assumption | rfl) ?_
  rotate_left
  · intro w hS; try subst hS
    go_simp; try with_reducible rfl
  try simp only [Act.put, List.setIfInBounds_toArray, List.set_cons_zero, List.set_cons_succ]
  refine AnyH.take (i := 3) (d := some 18) (v := ?_) (by kernel_rfl) rfl rfl HF (fun _ _ _ h => h) (.inl ⟨by rfl, ?_⟩) (by first | assumption | rfl) ?_
  rotate_left
  · intro w hS; try subst hS
    go_simp; try with_reducible rfl
  try simp only [Act.put, List.setIfInBounds_toArray, List.set_cons_zero, List.set_cons_succ]
  refine AnyH.take (i := 4) (d := some 19) (v := ?_) (by kernel_rfl) rfl rfl HF (fun _ _ _ h => h) (.inl ⟨by rfl, ?_⟩) (by first | assumption | rfl) ?_
  rotate_left
  · intro w hS; try subst hS
    go_simp; try with_reducible rfl
  try simp only [Act.put, List.setIfInBounds_toArray, List.set_cons_zero, List.set_cons_succ]
  refine AnyH.take (i := 5) (d := some 20) (v := ?_) (by kernel_rfl) rfl rfl HF (fun _ _ _ h => h) (.inl ⟨by rfl, ?_⟩) (by first | assumption | rfl) ?_
  rotate_left
  · intro w hS; try subst hS
    go_simp; try with_reducible rfl
  try simp only [Act.put, List.setIfInBounds_toArray, List.set_cons_zero, List.set_cons_succ]
  refine AnyH.take (i := 6) (d := some 21) (v := ?_) (by kernel_rfl) rfl rfl HF (fun _ _ _ h => h) (.inl ⟨by rfl, ?_⟩) (by first | assumption | rfl) ?_
  rotate_left
  · intro w hS; try subst hS
    go_simp; try with_reducible rfl
  try simp only [Act.put, List.setIfInBounds_toArray, List.set_cons_zero, List.set_cons_succ]
  refine AnyH.take (i := 7) (d := some 22) (v := ?_) (by kernel_rfl) rfl rfl HF (fun _ _ _ h => h) (.inl ⟨by rfl, ?_⟩) (by first | assumption | rfl) ?_
  rotate_left
  · intro w hS; try subst hS
    go_simp; try with_reducible rfl
  try simp only [Act.put, List.setIfInBounds_toArray, List.set_cons_zero, List.set_cons_succ]
  refine AnyH.two (i := 8) (j := 12) (by kernel_rfl) (by kernel_rfl) rfl rfl HF (by rfl) (by rfl) (fun K hK => ?_) (fun K hK => ?_)
  · go_simp
    first | ((with_reducible refine And.intro ?hdep ?_); (case hdep => first | rfl | (intro h; cases h))) | skip
    refine callsIn_wide.2 ((HWT.out _ (Below.after B1.out SC)).mono ?_)
    rintro e wc ⟨rfl, bc⟩
    have SC := Below.after SC bc
    try (have KB := below_block bc KB; obtain ⟨z, hz, KZ, BZ, ⟨f0, f1, f2, f3, f4, f5⟩, ⟨x0, x1, x2, x3, x4, x5⟩⟩ := stW (show WtC wc _ w0 from KB) u; simp only [w0] at x0 x1 x2 x3 x4 x5)
    clear bc
    refine hK _ _ SC ?_
    clear hK K
    try simp only [Act.put, List.setIfInBounds_toArray, List.set_cons_zero, List.set_cons_succ]
    refine AnyH.take (i := 9) (d := some 14) (v := ?_) (by kernel_rfl) rfl rfl HF (fun _ _ _ h => h) (.inl ⟨by rfl, ?_⟩) (by first | assumption | rfl) ?_
    rotate_left
    · intro w hS; try subst hS
      go_simp; try with_reducible rfl
    try simp only [Act.put, List.setIfInBounds_toArray, List.set_cons_zero, List.set_cons_succ]
    refine AnyH.take (i := 10) (d := some 24) (v := ?_) (by kernel_rfl) rfl rfl HF (fun _ _ _ h => h) (.inl ⟨by rfl, ?_⟩) (by first | assumption | rfl) ?_
    rotate_left
    · intro w hS; try subst hS
      go_simp; try with_reducible rfl
    try simp only [Act.put, List.setIfInBounds_toArray, List.set_cons_zero, List.set_cons_succ]
    refine AnyH.take (i := 11) (d := some 25) (v := ?_) (by kernel_rfl) rfl rfl HF (fun _ _ _ h => h) (.inl ⟨by rfl, ?_⟩) (by first | assumption | rfl) ?_
    rotate_left
    · intro w hS; try subst hS
      go_simp; try with_reducible rfl
    try simp only [Act.put, List.setIfInBounds_toArray, List.set_cons_zero, List.set_cons_succ]
    refine AnyH.one (i := 12) (by kernel_rfl) (by kernel_rfl) rfl HF (by rfl) (fun K hK => ?_)
    go_simp
    obtain ⟨wb, hwb, KB, SB, LB⟩ := boxN SC (Nat.le_refl _)
    rw [hwb]
    clear hwb
    have SC := SB
    refine hK _ _ SC ?_
    clear hK K
    obtain ⟨z, hz, KZ, BZ, ⟨f0, f1, f2, f3, f4, f5⟩, ⟨x0, x1, x2, x3, x4, x5⟩⟩ := stW KB u
    simp only [w0] at x0 x1 x2 x3 x4 x5
    try simp only [Act.put, List.setIfInBounds_toArray, List.set_cons_zero, List.set_cons_succ]
    refine AnyH.one (i := 13) (by kernel_rfl) (by kernel_rfl) rfl HF (by rfl) (fun K hK => ?_)
    go_simp
    have SZ := BZ _ _ SC LB
    refine hK _ _ SZ ?_
    clear hK K
    try simp only [Act.put, List.setIfInBounds_toArray, List.set_cons_zero, List.set_cons_succ]
    refine AnyH.take (i := 14) (d := some 6) (v := ?_) (by kernel_rfl) rfl rfl HF (fun _ _ _ h => h) (.inl ⟨by rfl, ?_⟩) (by first | assumption | rfl) ?_
    rotate_left
    · intro w hS; try subst hS
      go_simp; try with_reducible rfl
    try simp only [Act.put, List.setIfInBounds_toArray, List.set_cons_zero, List.set_cons_succ]
    refine AnyH.done (by kernel_rfl) ?_
    have HZ := Lib.hid (Below.after B1.out SZ)
    obtain ⟨y0, y1, y2, y3, y4, y5⟩ := KZ.cells
    clear m0 m1 hz f0 f1 f2 f3 f4 f5 x0 x1 x2 x3 x4 x5 KB KZ BZ SC LB SZ
    by_cases hq : ln = u.lines
    · have HOO : Hid (o = none) := Lib.hid (by rw [← HO.out, if_pos hq])
      have hqb : ((ln : Int) == (u.lines : Int)) = true := by simp [hq]
      clear hq
      go_wp2_with fail
      go_ret
      rw [HOO.out]
      exact ⟨rfl, HZ.out⟩
    · have HOO : Hid (o = some (nlp t (ln + 1))) := Lib.hid (by rw [← HO.out, if_neg hq])
      have hqb : ((ln : Int) == (u.lines : Int)) = false := by simp; omega
      have hle : ln + 1 ≤ t.count 10 := by rw [← HUN.out]; omega
      have HB2 := Lib.hid (HBG.out z (ln + 1) HZ.out hle)
      have hlw := HLW.out
      clear hq hle
      go_wp2_with fail
      refine HB2.out.mono ?_; rintro e w5 ⟨rfl, b5⟩
      have HB5 := Lib.hid (Below.after HZ.out b5)
      obtain ⟨-, -, -, c3, f3⟩ := CuC.cells (below_block HB5.out H.out)
      clear b5 hlw
      go_wp2_with fail
      go_ret
      rw [HOO.out]
      exact ⟨rfl, w5, HB5.out, rfl⟩
  · go_simp
    obtain ⟨wb, hwb, KB, SB, LB⟩ := boxN SC (Nat.le_refl _)
    rw [hwb]
    clear hwb
    have SC := SB
    refine hK _ _ SC ?_
    clear hK K
    obtain ⟨z, hz, KZ, BZ, ⟨f0, f1, f2, f3, f4, f5⟩, ⟨x0, x1, x2, x3, x4, x5⟩⟩ := stW KB u
    simp only [w0] at x0 x1 x2 x3 x4 x5
    try simp only [Act.put, List.setIfInBounds_toArray, List.set_cons_zero, List.set_cons_succ]
    refine AnyH.one (i := 8) (by kernel_rfl) (by kernel_rfl) rfl HF (by rfl) (fun K hK => ?_)
    go_simp
    first | ((with_reducible refine And.intro ?hdep ?_); (case hdep => first | rfl | (intro h; cases h))) | skip
    refine callsIn_wide.2 ((HWT.out _ (Below.after B1.out SC)).mono ?_)
    rintro e wc ⟨rfl, bc⟩
    have SC := Below.after SC bc
    try (have KB := below_block bc KB; obtain ⟨z, hz, KZ, BZ, ⟨f0, f1, f2, f3, f4, f5⟩, ⟨x0, x1, x2, x3, x4, x5⟩⟩ := stW (show WtC wc _ w0 from KB) u; simp only [w0] at x0 x1 x2 x3 x4 x5)
    clear bc
    refine hK _ _ SC ?_
    clear hK K
    try simp only [Act.put, List.setIfInBounds_toArray, List.set_cons_zero, List.set_cons_succ]
    refine AnyH.take (i := 9) (d := some 14) (v := ?_) (by kernel_rfl) rfl rfl HF (fun _ _ _ h => h) (.inl ⟨by rfl, ?_⟩) (by first | assumption | rfl) ?_
    rotate_left
    · intro w hS; try subst hS
      go_simp; try with_reducible rfl
    try simp only [Act.put, List.setIfInBounds_toArray, List.set_cons_zero, List.set_cons_succ]
    refine AnyH.take (i := 10) (d := some 24) (v := ?_) (by kernel_rfl) rfl rfl HF (fun _ _ _ h => h) (.inl ⟨by rfl, ?_⟩) (by first | assumption | rfl) ?_
    rotate_left
    · intro w hS; try subst hS
      go_simp; try with_reducible rfl
    try simp only [Act.put, List.setIfInBounds_toArray, List.set_cons_zero, List.set_cons_succ]
    refine AnyH.take (i := 11) (d := some 25) (v := ?_) (by kernel_rfl) rfl rfl HF (fun _ _ _ h => h) (.inl ⟨by rfl, ?_⟩) (by first | assumption | rfl) ?_
    rotate_left
    · intro w hS; try subst hS
      go_simp; try with_reducible rfl
    try simp only [Act.put, List.setIfInBounds_toArray, List.set_cons_zero, List.set_cons_succ]
    refine AnyH.one (i := 13) (by kernel_rfl) (by kernel_rfl) rfl HF (by rfl) (fun K hK => ?_)
    go_simp
    have SZ := BZ _ _ SC LB
    refine hK _ _ SZ ?_
    clear hK K
    try simp only [Act.put, List.setIfInBounds_toArray, List.set_cons_zero, List.set_cons_succ]
    refine AnyH.take (i := 14) (d := some 6) (v := ?_) (by kernel_rfl) rfl rfl HF (fun _ _ _ h => h) (.inl ⟨by rfl, ?_⟩) (by first | assumption | rfl) ?_
    rotate_left
    · intro w hS; try subst hS
      go_simp; try with_reducible rfl
    try simp only [Act.put, List.setIfInBounds_toArray, List.set_cons_zero, List.set_cons_succ]
    refine AnyH.done (by kernel_rfl) ?_
    have HZ := Lib.hid (Below.after B1.out SZ)
    obtain ⟨y0, y1, y2, y3, y4, y5⟩ := KZ.cells
    clear m0 m1 hz f0 f1 f2 f3 f4 f5 x0 x1 x2 x3 x4 x5 KB KZ BZ SC LB SZ
    by_cases hq : ln = u.lines
    · have HOO : Hid (o = none) := Lib.hid (by rw [← HO.out, if_pos hq])
      have hqb : ((ln : Int) == (u.lines : Int)) = true := by simp [hq]
      clear hq
      go_wp2_with fail
      go_ret
      rw [HOO.out]
      exact ⟨rfl, HZ.out⟩
    · have HOO : Hid (o = some (nlp t (ln + 1))) := Lib.hid (by rw [← HO.out, if_neg hq])
      have hqb : ((ln : Int) == (u.lines : Int)) = false := by simp; omega
      have hle : ln + 1 ≤ t.count 10 := by rw [← HUN.out]; omega
      have HB2 := Lib.hid (HBG.out z (ln + 1) HZ.out hle)
      have hlw := HLW.out
      clear hq hle
      go_wp2_with fail
      refine HB2.out.mono ?_; rintro e w5 ⟨rfl, b5⟩
      have HB5 := Lib.hid (Below.after HZ.out b5)
      obtain ⟨-, -, -, c3, f3⟩ := CuC.cells (below_block HB5.out H.out)
      clear b5 hlw
      go_wp2_with fail
      go_ret
      rw [HOO.out]
      exact ⟨rfl, w5, HB5.out, rfl⟩
set_option maxRecDepth 100000 in
set_option maxHeartbeats 4000000 in
theorem prevl_any {n0 B most : Nat} {W : World} {E : List En} (hs : StAt n0 W B most E) (hwf : Wf E) (hE : E.length ≤ 1048576) {c id len k : Nat} (h : CuC W c B id len k) (hid : id ≤ E.length) (hk : k ≤ (txt E id).length) :
    Calls Try.prog 26 #[.pointer (some ⟨c, 0, none⟩)] W (MovP c W (pvF (txt E id) k)) := by
  have H := Lib.hid h
  have hlen := (hwf.len hid).2
  have HLN := Lib.hid (line_any hs hwf hE h hid hk)
  obtain ⟨t, ht⟩ : ∃ t, txt E id = t := ⟨_, rfl⟩
  have HBG : Hid (∀ w L, Below W.heap.size W w → L ≤ t.count 10 → Calls Try.prog 49 #[.pointer (some ⟨c, 0, none⟩), .int .i64 (L : Nat)] w fun e w' => e = .returned (.int .i64 (nlp t L)) ∧ Below w.heap.size w w') := Lib.hid (fun w L hb hL => by
    have := begin_any (hs.below hb) hwf hE (below_block hb h) hid (L := L) (by rw [ht]; exact hL)
    rwa [ht] at this)
  rw [ht] at HLN hk hlen ⊢
  have hcl : (t.take k).count 10 ≤ t.count 10 := List.Sublist.count_le _ (List.take_sublist _ _)
  have hcb : t.count 10 ≤ t.length := List.count_le_length
  have htk : tlT (t.take k) ≤ k := by
    have h1 : tlT (t.take k) ≤ (t.take k).reverse.length := List.findIdx_le_length
    rw [List.length_reverse] at h1
    exact Nat.le_trans h1 (List.length_take_le _ _)
  obtain ⟨ln, hln⟩ : ∃ x, (t.take k).count 10 = x := ⟨_, rfl⟩
  have hvl : (wt (t.take k)).lines = ln := hln
  obtain ⟨tl, htl⟩ : ∃ x, tlT (t.take k) = x := ⟨_, rfl⟩
  have hvt : (wt (t.take k)).tail = tl := htl
  rw [hvl, hvt] at HLN
  unfold pvF
  rw [hln] at hcl ⊢
  rw [htl] at htk ⊢
  clear h hs hwf ht hvl hvt htl hln
  by_cases h1 : 0 < tl
  · rw [if_pos h1]
    have h1i : (tl : Int) > 0 := by omega
    have hw : IntKind.i64.wrap ((k : Int) - (tl : Int)) = ((k - tl : Nat) : Int) := by rw [IntKind.wrap_i64]; omega
    go_enter Try.func26, Try.ntmps26
    go_wp2_with fail
    refine HLN.out.mono ?_; rintro e w1 ⟨rfl, b1⟩
    obtain ⟨-, -, -, c3, f3⟩ := CuC.cells (below_block b1 H.out)
    have B1 := Lib.hid b1
    clear b1
    go_wp2_with fail
    go_ret
    exact ⟨rfl, w1, B1.out, rfl⟩
  · rw [if_neg h1]
    have h1i : ¬ (tl : Int) > 0 := by omega
    by_cases h2 : 0 < ln
    · rw [if_pos h2]
      have h2i : (ln : Int) > 0 := by omega
      have HB2 := Lib.hid (fun w hb => HBG.out w (ln - 1) hb (by omega))
      have hw : IntKind.i64.wrap ((ln : Int) - 1) = ((ln - 1 : Nat) : Int) := by rw [IntKind.wrap_i64]; omega
      go_enter Try.func26, Try.ntmps26
      go_wp2_with fail
      refine HLN.out.mono ?_; rintro e w1 ⟨rfl, b1⟩
      have B1 := Lib.hid b1
      clear b1
      go_wp2_with fail
      refine (HB2.out w1 B1.out).mono ?_; rintro e w5 ⟨rfl, b5⟩
      have HB5 := Lib.hid (Below.after B1.out b5)
      obtain ⟨-, -, -, c3, f3⟩ := CuC.cells (below_block HB5.out H.out)
      clear b5
      go_wp2_with fail
      go_ret
      exact ⟨rfl, w5, HB5.out, rfl⟩
    · rw [if_neg h2]
      have h2i : ¬ (ln : Int) > 0 := by omega
      go_enter Try.func26, Try.ntmps26
      go_wp2_with fail
      refine HLN.out.mono ?_; rintro e w1 ⟨rfl, b1⟩
      have B1 := Lib.hid b1
      clear b1
      go_wp2_with fail
      go_ret
      exact ⟨rfl, B1.out⟩
end M
end Go.Proofs.Ytjbllcakaljpgaa
