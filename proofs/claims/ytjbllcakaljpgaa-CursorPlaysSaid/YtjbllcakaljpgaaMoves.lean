/- The cursor's moves by lines, each as what it makes of the cursor's block; what the law about lines asks of them. No walk. -/
import Derived.Test.YtjbllcakaljpgaaBeg
import Derived.Test.YtjbllcakaljpgaaNlP
import Derived.Below
import Derived.WalkKit
import Derived.Lib.Hide
namespace Go.Proofs.Ytjbllcakaljpgaa
open Go.RowKit Go.Lib
namespace M
attribute [local go_sem] Oper.semAt_some
/-- Where NextLine leads. -/
def nxF (t : List Nat) (k : Nat) : Option Nat := if (t.take k).count 10 = t.count 10 then none else some (nlp t ((t.take k).count 10 + 1))
/-- Where PrevLine leads. -/
def pvF (t : List Nat) (k : Nat) : Option Nat := if 0 < tlT (t.take k) then some (k - tlT (t.take k)) else if 0 < (t.take k).count 10 then some (nlp t ((t.take k).count 10 - 1)) else none
/-- A move to where, or none. -/
def MovP (c : Nat) (W : World) (o : Option Nat) (e : Ending) (w' : World) : Prop := match o with
  | none => e = .returned (.bool false) ∧ Below W.heap.size W w'
  | some j => e = .returned (.bool true) ∧ ∃ w1, Below W.heap.size W w1 ∧ w' = w1.setCell ⟨c, 3, none⟩ (.int .i64 j)
set_option maxRecDepth 100000 in
set_option maxHeartbeats 8000000 in
theorem nextl_any {n0 B most : Nat} {W : World} {E : List En} (hs : StAt n0 W B most E) (hwf : Wf E) (hE : E.length ≤ 1048576) {c id len k : Nat} (h : CuC W c B id len k) (hid : id ≤ E.length) (hk : k ≤ (txt E id).length) :
    Calls Try.prog 25 #[.pointer (some ⟨c, 0, none⟩)] W (MovP c W (nxF (txt E id) k)) := by
  have HF : ∀ f, Fence.wide.fn f := fun _ => trivial
  have H := Lib.hid h
  obtain ⟨hw, hlen⟩ := hwf.len hid
  have HLN := Lib.hid (line_any hs hwf hE h hid hk)
  obtain ⟨t, ht⟩ : ∃ t, txt E id = t := ⟨_, rfl⟩
  have HWT : Hid (∀ w, Below W.heap.size W w → Calls Try.prog 30 #[.pointer (some ⟨B, 0, none⟩), .int .i64 id] w fun e w' => e = .returned (.tuple #[wtV (wt t), .nilIface]) ∧ Below w.heap.size w w') := Lib.hid (fun w hb => by
    have := weight_any (hs.below hb) hid hE
    rwa [hw, ht] at this)
  have HBG : Hid (∀ w L, Below W.heap.size W w → L ≤ t.count 10 → Calls Try.prog 49 #[.pointer (some ⟨c, 0, none⟩), .int .i64 (L : Nat)] w fun e w' => e = .returned (.int .i64 (nlp t L)) ∧ Below w.heap.size w w') := Lib.hid (fun w L hb hL => by
    have := begin_any (hs.below hb) hwf hE (below_block hb h) hid (L := L) (by rw [ht]; exact hL)
    rwa [ht] at this)
  rw [ht] at HLN hlen ⊢
  have hcb : t.count 10 ≤ t.length := List.count_le_length
  have hcl : (t.take k).count 10 ≤ t.count 10 := List.Sublist.count_le _ (List.take_sublist _ _)
  obtain ⟨u, hu⟩ : ∃ u, wt t = u := ⟨_, rfl⟩
  have hun : u.lines = t.count 10 := by rw [← hu]; rfl
  obtain ⟨ln, hln⟩ : ∃ x, (t.take k).count 10 = x := ⟨_, rfl⟩
  have hvl : (wt (t.take k)).lines = ln := hln
  obtain ⟨tl, htl⟩ : ∃ x, (wt (t.take k)).tail = x := ⟨_, rfl⟩
  rw [hvl, htl] at HLN
  rw [hu] at HWT
  unfold wtV at HWT
  unfold nxF
  rw [hln] at hcl ⊢
  rw [← hun] at hcl hcb ⊢
  have HUN := Lib.hid hun
  obtain ⟨o, ho⟩ : ∃ o, (if ln = u.lines then none else some (nlp t (ln + 1))) = o := ⟨_, rfl⟩
  have HO := Lib.hid ho
  rw [ho]
  clear h hs hwf hw ht hu hun hvl htl hln ho
  have hlw : IntKind.i64.wrap ((ln : Int) + 1) = ((ln + 1 : Nat) : Int) := by rw [IntKind.wrap_i64]; omega
  have HLW := Lib.hid hlw
  clear hlw
  go_enter Try.func25, Try.ntmps25
  go_wp2_with fail
  refine HLN.out.mono ?_; rintro e w1 ⟨rfl, b1⟩
  have B1 := Lib.hid b1
  have m0 : ∀ w, Below w1.heap.size w1 w → w.cell? ⟨c, 0, none⟩ = some (.pointer (some ⟨B, 0, none⟩)) := fun w hw => (CuC.cells (below_block (Below.after B1.out hw) H.out)).1
  have m1 : ∀ w, Below w1.heap.size w1 w → w.cell? ⟨c, 1, none⟩ = some (.int .i64 id) := fun w hw => (CuC.cells (below_block (Below.after B1.out hw) H.out)).2.1
  clear b1
  go_wp2_with fail
  refine wp_region_anyH (Below w1.heap.size w1) (by kernel_rfl) ?_
  obtain ⟨wd, hwd⟩ : ∃ w, w1.drew = w := ⟨_, rfl⟩
  have SC : Below w1.heap.size w1 wd := by rw [← hwd]; exact (Below.refl _ _).drew
  rw [hwd]
  clear hwd
  refine AnyH.take (i := 0) (d := some 15) (v := ?_) (by kernel_rfl) rfl rfl HF (fun _ _ _ h => h) (.inl ⟨by rfl, ?_⟩) (by first | assumption | rfl) ?_
  rotate_left
  · intro w hS; try subst hS
    go_simp; try with_reducible rfl
  try simp only [Act.put, List.setIfInBounds_toArray, List.set_cons_zero, List.set_cons_succ]
  refine AnyH.take (i := 1) (d := some 16) (v := ?_) (by kernel_rfl) rfl rfl HF (fun _ _ _ h => h) (.inl ⟨by rfl, ?_⟩) (by first | assumption | rfl) ?_
  rotate_left
  · intro w hS; try subst hS
    go_simp; try with_reducible rfl
  try simp only [Act.put, List.setIfInBounds_toArray, List.set_cons_zero, List.set_cons_succ]
  refine AnyH.take (i := 2) (d := some 17) (v := ?_) (by kernel_rfl) rfl rfl HF (fun _ _ _ h => h) (.inl ⟨by rfl, ?_⟩) (by first | assumption | rfl) ?_
  rotate_left
  · intro w hS; try subst hS
    go_simp; try with_reducible rfl
  try simp only [Act.put, List.setIfInBounds_toArray, List.set_cons_zero, List.set_cons_succ]
  refine AnyH.take (i := 3) (d := some 18) (v := ?_) (by kernel_rfl) rfl rfl HF (fun _ _ _ h => h) (.inl ⟨by rfl, ?_⟩) (by first | assumption | rfl) ?_
  rotate_left
  · intro w hS; try subst hS
    go_simp; try with_reducible rfl
  try simp only [Act.put, List.setIfInBounds_toArray, List.set_cons_zero, List.set_cons_succ]
  refine AnyH.take (i := 4) (d := some 19) (v := ?_) (by kernel_rfl) rfl rfl HF (fun _ _ _ h => h) (.inl ⟨by rfl, ?_⟩) (by first | assumption | rfl) ?_
  rotate_left
  · intro w hS; try subst hS
    go_simp; try with_reducible rfl
  try simp only [Act.put, List.setIfInBounds_toArray, List.set_cons_zero, List.set_cons_succ]
  refine AnyH.take (i := 5) (d := some 20) (v := ?_) (by kernel_rfl) rfl rfl HF (fun _ _ _ h => h) (.inl ⟨by rfl, ?_⟩) (by first | assumption | rfl) ?_
  rotate_left
  · intro w hS; try subst hS
    go_simp; try with_reducible rfl
  try simp only [Act.put, List.setIfInBounds_toArray, List.set_cons_zero, List.set_cons_succ]
  refine AnyH.take (i := 6) (d := some 21) (v := ?_) (by kernel_rfl) rfl rfl HF (fun _ _ _ h => h) (.inl ⟨by rfl, ?_⟩) (by first | assumption | rfl) ?_
  rotate_left
  · intro w hS; try subst hS
    go_simp; try with_reducible rfl
  try simp only [Act.put, List.setIfInBounds_toArray, List.set_cons_zero, List.set_cons_succ]
  refine AnyH.take (i := 7) (d := some 22) (v := ?_) (by kernel_rfl) rfl rfl HF (fun _ _ _ h => h) (.inl ⟨by rfl, ?_⟩) (by first | assumption | rfl) ?_
  rotate_left
  · intro w hS; try subst hS
    go_simp; try with_reducible rfl
  try simp only [Act.put, List.setIfInBounds_toArray, List.set_cons_zero, List.set_cons_succ]
  refine AnyH.two (i := 8) (j := 12) (by kernel_rfl) (by kernel_rfl) rfl rfl HF (by rfl) (by rfl) (fun K hK => ?_) (fun K hK => ?_)
  · go_simp
    first | ((with_reducible refine And.intro ?hdep ?_); (case hdep => first | rfl | (intro h; cases h))) | skip
    refine callsIn_wide.2 ((HWT.out _ (Below.after B1.out SC)).mono ?_)
    rintro e wc ⟨rfl, bc⟩
    have SC := Below.after SC bc
    try (have KB := below_block bc KB; obtain ⟨z, hz, KZ, BZ, ⟨f0, f1, f2, f3, f4, f5⟩, ⟨x0, x1, x2, x3, x4, x5⟩⟩ := stW (show WtC wc _ w0 from KB) u; simp only [w0] at x0 x1 x2 x3 x4 x5)
    clear bc
    refine hK _ _ SC ?_
    clear hK K
    try simp only [Act.put, List.setIfInBounds_toArray, List.set_cons_zero, List.set_cons_succ]
    refine AnyH.take (i := 9) (d := some 14) (v := ?_) (by kernel_rfl) rfl rfl HF (fun _ _ _ h => h) (.inl ⟨by rfl, ?_⟩) (by first | assumption | rfl) ?_
    rotate_left
    · intro w hS; try subst hS
      go_simp; try with_reducible rfl
    try simp only [Act.put, List.setIfInBounds_toArray, List.set_cons_zero, List.set_cons_succ]
    refine AnyH.take (i := 10) (d := some 24) (v := ?_) (by kernel_rfl) rfl rfl HF (fun _ _ _ h => h) (.inl ⟨by rfl, ?_⟩) (by first | assumption | rfl) ?_
    rotate_left
    · intro w hS; try subst hS
      go_simp; try with_reducible rfl
    try simp only [Act.put, List.setIfInBounds_toArray, List.set_cons_zero, List.set_cons_succ]
    refine AnyH.take (i := 11) (d := some 25) (v := ?_) (by kernel_rfl) rfl rfl HF (fun _ _ _ h => h) (.inl ⟨by rfl, ?_⟩) (by first | assumption | rfl) ?_
    rotate_left
    · intro w hS; try subst hS
      go_simp; try with_reducible rfl
    try simp only [Act.put, List.setIfInBounds_toArray, List.set_cons_zero, List.set_cons_succ]
    refine AnyH.one (i := 12) (by kernel_rfl) (by kernel_rfl) rfl HF (by rfl) (fun K hK => ?_)
    go_simp
    obtain ⟨wb, hwb, KB, SB, LB⟩ := boxN SC (Nat.le_refl _)
    rw [hwb]
    clear hwb
    have SC := SB
    refine hK _ _ SC ?_
    clear hK K
    obtain ⟨z, hz, KZ, BZ, ⟨f0, f1, f2, f3, f4, f5⟩, ⟨x0, x1, x2, x3, x4, x5⟩⟩ := stW KB u
    simp only [w0] at x0 x1 x2 x3 x4 x5
    try simp only [Act.put, List.setIfInBounds_toArray, List.set_cons_zero, List.set_cons_succ]
    refine AnyH.one (i := 13) (by kernel_rfl) (by kernel_rfl) rfl HF (by rfl) (fun K hK => ?_)
    go_simp
    have SZ := BZ _ _ SC LB
    refine hK _ _ SZ ?_
    clear hK K
    try simp only [Act.put, List.setIfInBounds_toArray, List.set_cons_zero, List.set_cons_succ]
    refine AnyH.take (i := 14) (d := some 6) (v := ?_) (by kernel_rfl) rfl rfl HF (fun _ _ _ h => h) (.inl ⟨by rfl, ?_⟩) (by first | assumption | rfl) ?_
    rotate_left
    · intro w hS; try subst hS
      go_simp; try with_reducible rfl
    try simp only [Act.put, List.setIfInBounds_toArray, List.set_cons_zero, List.set_cons_succ]
    refine AnyH.done (by kernel_rfl) ?_
    have HZ := Lib.hid (Below.after B1.out SZ)
    obtain ⟨y0, y1, y2, y3, y4, y5⟩ := KZ.cells
    clear m0 m1 hz f0 f1 f2 f3 f4 f5 x0 x1 x2 x3 x4 x5 KB KZ BZ SC LB SZ
    by_cases hq : ln = u.lines
    · have HOO : Hid (o = none) := Lib.hid (by rw [← HO.out, if_pos hq])
      have hqb : ((ln : Int) == (u.lines : Int)) = true := by simp [hq]
      clear hq
      go_wp2_with fail
      go_ret
      rw [HOO.out]
      exact ⟨rfl, HZ.out⟩
    · have HOO : Hid (o = some (nlp t (ln + 1))) := Lib.hid (by rw [← HO.out, if_neg hq])
      have hqb : ((ln : Int) == (u.lines : Int)) = false := by simp; omega
      have hle : ln + 1 ≤ t.count 10 := by rw [← HUN.out]; omega
      have HB2 := Lib.hid (HBG.out z (ln + 1) HZ.out hle)
      have hlw := HLW.out
      clear hq hle
      go_wp2_with fail
      refine HB2.out.mono ?_; rintro e w5 ⟨rfl, b5⟩
      have HB5 := Lib.hid (Below.after HZ.out b5)
      obtain ⟨-, -, -, c3, f3⟩ := CuC.cells (below_block HB5.out H.out)
      clear b5 hlw
      go_wp2_with fail
      go_ret
      rw [HOO.out]
      exact ⟨rfl, w5, HB5.out, rfl⟩
  · go_simp
    obtain ⟨wb, hwb, KB, SB, LB⟩ := boxN SC (Nat.le_refl _)
    rw [hwb]
    clear hwb
    have SC := SB
    refine hK _ _ SC ?_
    clear hK K
    obtain ⟨z, hz, KZ, BZ, ⟨f0, f1, f2, f3, f4, f5⟩, ⟨x0, x1, x2, x3, x4, x5⟩⟩ := stW KB u
    simp only [w0] at x0 x1 x2 x3 x4 x5
    try simp only [Act.put, List.setIfInBounds_toArray, List.set_cons_zero, List.set_cons_succ]
    refine AnyH.one (i := 8) (by kernel_rfl) (by kernel_rfl) rfl HF (by rfl) (fun K hK => ?_)
    go_simp
    first | ((with_reducible refine And.intro ?hdep ?_); (case hdep => first | rfl | (intro h; cases h))) | skip
    refine callsIn_wide.2 ((HWT.out _ (Below.after B1.out SC)).mono ?_)
    rintro e wc ⟨rfl, bc⟩
    have SC := Below.after SC bc
    try (have KB := below_block bc KB; obtain ⟨z, hz, KZ, BZ, ⟨f0, f1, f2, f3, f4, f5⟩, ⟨x0, x1, x2, x3, x4, x5⟩⟩ := stW (show WtC wc _ w0 from KB) u; simp only [w0] at x0 x1 x2 x3 x4 x5)
    clear bc
    refine hK _ _ SC ?_
    clear hK K
    try simp only [Act.put, List.setIfInBounds_toArray, List.set_cons_zero, List.set_cons_succ]
    refine AnyH.take (i := 9) (d := some 14) (v := ?_) (by kernel_rfl) rfl rfl HF (fun _ _ _ h => h) (.inl ⟨by rfl, ?_⟩) (by first | assumption | rfl) ?_
    rotate_left
    · intro w hS; try subst hS
      go_simp; try with_reducible rfl
    try simp only [Act.put, List.setIfInBounds_toArray, List.set_cons_zero, List.set_cons_succ]
    refine AnyH.take (i := 10) (d := some 24) (v := ?_) (by kernel_rfl) rfl rfl HF (fun _ _ _ h => h) (.inl ⟨by rfl, ?_⟩) (by first | assumption | rfl) ?_
    rotate_left
    · intro w hS; try subst hS
      go_simp; try with_reducible rfl
    try simp only [Act.put, List.setIfInBounds_toArray, List.set_cons_zero, List.set_cons_succ]
    refine AnyH.take (i := 11) (d := some 25) (v := ?_) (by kernel_rfl) rfl rfl HF (fun _ _ _ h => h) (.inl ⟨by rfl, ?_⟩) (by first | assumption | rfl) ?_
    rotate_left
    · intro w hS; try subst hS
      go_simp; try with_reducible rfl
    try simp only [Act.put, List.setIfInBounds_toArray, List.set_cons_zero, List.set_cons_succ]
    refine AnyH.one (i := 13) (by kernel_rfl) (by kernel_rfl) rfl HF (by rfl) (fun K hK => ?_)
    go_simp
    have SZ := BZ _ _ SC LB
    refine hK _ _ SZ ?_
    clear hK K
    try simp only [Act.put, List.setIfInBounds_toArray, List.set_cons_zero, List.set_cons_succ]
    refine AnyH.take (i := 14) (d := some 6) (v := ?_) (by kernel_rfl) rfl rfl HF (fun _ _ _ h => h) (.inl ⟨by rfl, ?_⟩) (by first | assumption | rfl) ?_
    rotate_left
    · intro w hS; try subst hS
      go_simp; try with_reducible rfl
    try simp only [Act.put, List.setIfInBounds_toArray, List.set_cons_zero, List.set_cons_succ]
    refine AnyH.done (by kernel_rfl) ?_
    have HZ := Lib.hid (Below.after B1.out SZ)
    obtain ⟨y0, y1, y2, y3, y4, y5⟩ := KZ.cells
    clear m0 m1 hz f0 f1 f2 f3 f4 f5 x0 x1 x2 x3 x4 x5 KB KZ BZ SC LB SZ
    by_cases hq : ln = u.lines
    · have HOO : Hid (o = none) := Lib.hid (by rw [← HO.out, if_pos hq])
      have hqb : ((ln : Int) == (u.lines : Int)) = true := by simp [hq]
      clear hq
      go_wp2_with fail
      go_ret
      rw [HOO.out]
      exact ⟨rfl, HZ.out⟩
    · have HOO : Hid (o = some (nlp t (ln + 1))) := Lib.hid (by rw [← HO.out, if_neg hq])
      have hqb : ((ln : Int) == (u.lines : Int)) = false := by simp; omega
      have hle : ln + 1 ≤ t.count 10 := by rw [← HUN.out]; omega
      have HB2 := Lib.hid (HBG.out z (ln + 1) HZ.out hle)
      have hlw := HLW.out
      clear hq hle
      go_wp2_with fail
      refine HB2.out.mono ?_; rintro e w5 ⟨rfl, b5⟩
      have HB5 := Lib.hid (Below.after HZ.out b5)
      obtain ⟨-, -, -, c3, f3⟩ := CuC.cells (below_block HB5.out H.out)
      clear b5 hlw
      go_wp2_with fail
      go_ret
      rw [HOO.out]
      exact ⟨rfl, w5, HB5.out, rfl⟩
set_option maxRecDepth 100000 in
set_option maxHeartbeats 4000000 in
theorem prevl_any {n0 B most : Nat} {W : World} {E : List En} (hs : StAt n0 W B most E) (hwf : Wf E) (hE : E.length ≤ 1048576) {c id len k : Nat} (h : CuC W c B id len k) (hid : id ≤ E.length) (hk : k ≤ (txt E id).length) :
    Calls Try.prog 26 #[.pointer (some ⟨c, 0, none⟩)] W (MovP c W (pvF (txt E id) k)) := by
  have H := Lib.hid h
  have hlen := (hwf.len hid).2
  have HLN := Lib.hid (line_any hs hwf hE h hid hk)
  obtain ⟨t, ht⟩ : ∃ t, txt E id = t := ⟨_, rfl⟩
  have HBG : Hid (∀ w L, Below W.heap.size W w → L ≤ t.count 10 → Calls Try.prog 49 #[.pointer (some ⟨c, 0, none⟩), .int .i64 (L : Nat)] w fun e w' => e = .returned (.int .i64 (nlp t L)) ∧ Below w.heap.size w w') := Lib.hid (fun w L hb hL => by
    have := begin_any (hs.below hb) hwf hE (below_block hb h) hid (L := L) (by rw [ht]; exact hL)
    rwa [ht] at this)
  rw [ht] at HLN hk hlen ⊢
  have hcl : (t.take k).count 10 ≤ t.count 10 := List.Sublist.count_le _ (List.take_sublist _ _)
  have hcb : t.count 10 ≤ t.length := List.count_le_length
  have htk : tlT (t.take k) ≤ k := by
    have h1 : tlT (t.take k) ≤ (t.take k).reverse.length := List.findIdx_le_length
    rw [List.length_reverse] at h1
    exact Nat.le_trans h1 (List.length_take_le _ _)
  obtain ⟨ln, hln⟩ : ∃ x, (t.take k).count 10 = x := ⟨_, rfl⟩
  have hvl : (wt (t.take k)).lines = ln := hln
  obtain ⟨tl, htl⟩ : ∃ x, tlT (t.take k) = x := ⟨_, rfl⟩
  have hvt : (wt (t.take k)).tail = tl := htl
  rw [hvl, hvt] at HLN
  unfold pvF
  rw [hln] at hcl ⊢
  rw [htl] at htk ⊢
  clear h hs hwf ht hvl hvt htl hln
  by_cases h1 : 0 < tl
  · rw [if_pos h1]
    have h1i : (tl : Int) > 0 := by omega
    have hw : IntKind.i64.wrap ((k : Int) - (tl : Int)) = ((k - tl : Nat) : Int) := by rw [IntKind.wrap_i64]; omega
    go_enter Try.func26, Try.ntmps26
    go_wp2_with fail
    refine HLN.out.mono ?_; rintro e w1 ⟨rfl, b1⟩
    obtain ⟨-, -, -, c3, f3⟩ := CuC.cells (below_block b1 H.out)
    have B1 := Lib.hid b1
    clear b1
    go_wp2_with fail
    go_ret
    exact ⟨rfl, w1, B1.out, rfl⟩
  · rw [if_neg h1]
    have h1i : ¬ (tl : Int) > 0 := by omega
    by_cases h2 : 0 < ln
    · rw [if_pos h2]
      have h2i : (ln : Int) > 0 := by omega
      have HB2 := Lib.hid (fun w hb => HBG.out w (ln - 1) hb (by omega))
      have hw : IntKind.i64.wrap ((ln : Int) - 1) = ((ln - 1 : Nat) : Int) := by rw [IntKind.wrap_i64]; omega
      go_enter Try.func26, Try.ntmps26
      go_wp2_with fail
      refine HLN.out.mono ?_; rintro e w1 ⟨rfl, b1⟩
      have B1 := Lib.hid b1
      clear b1
      go_wp2_with fail
      refine (HB2.out w1 B1.out).mono ?_; rintro e w5 ⟨rfl, b5⟩
      have HB5 := Lib.hid (Below.after B1.out b5)
      obtain ⟨-, -, -, c3, f3⟩ := CuC.cells (below_block HB5.out H.out)
      clear b5
      go_wp2_with fail
      go_ret
      exact ⟨rfl, w5, HB5.out, rfl⟩
    · rw [if_neg h2]
      have h2i : ¬ (ln : Int) > 0 := by omega
      go_enter Try.func26, Try.ntmps26
      go_wp2_with fail
      refine HLN.out.mono ?_; rintro e w1 ⟨rfl, b1⟩
      have B1 := Lib.hid b1
      clear b1
      go_wp2_with fail
      go_ret
      exact ⟨rfl, B1.out⟩
end M
end Go.Proofs.Ytjbllcakaljpgaa
namespace Go.Proofs.Ytjbllcakaljpgaa
open Go.RowKit
namespace M
theorem nlp_one : ∀ (t : List Nat), 0 < t.count 10 → nlp t 1 = hdT t + 1
  | [], h => by simp at h
  | c :: t, h => by
    show 1 + nlp t (if c = 10 then 0 else 0 + 1) = hdT (c :: t) + 1
    by_cases hc : c = 10
    · subst hc
      rw [if_pos rfl, nlp_zero]
      simp [hdT, List.findIdx_cons]
    · rw [if_neg hc]
      rw [List.count_cons_of_ne (by simpa using hc)] at h
      have hb : (c == 10) = false := by simpa using hc
      have := nlp_one t h
      rw [Nat.zero_add, this]
      simp only [hdT, List.findIdx_cons, hb, cond_false]
      omega
/-- The next line begins behind the first line feed that follows. -/
theorem nlp_next (t : List Nat) {a : Nat} (ha : a ≤ t.length) (h : 0 < (t.drop a).count 10) : nlp t ((t.take a).count 10 + 1) = a + hdT (t.drop a) + 1 := by
  have e : t.take a ++ t.drop a = t := List.take_append_drop a t
  have h1 := nlp_right (t.take a) (t.drop a) ((t.take a).count 10 + 1) (by omega)
  rw [e, List.length_take, Nat.min_eq_left ha, Nat.add_sub_cancel_left, nlp_one _ h] at h1
  rw [h1]; omega
theorem tl_last {t : List Nat} {j : Nat} (hj : 0 < j) (h : t[j - 1]? = some 10) : tlT (t.take j) = 0 := by
  have hlt := (List.getElem?_eq_some_iff.1 h).1
  have e : t.take j = t.take (j - 1) ++ [10] := by
    have h1 := List.take_add_one (l := t) (i := j - 1)
    rw [show j - 1 + 1 = j by omega, h] at h1
    exact h1
  rw [e]
  simp [tlT, List.findIdx_cons]
/-- The letters behind the last line feed. -/
theorem tl_cut (s : List Nat) : (s.take (s.length - tlT s)).count 10 = s.count 10 ∧ tlT (s.take (s.length - tlT s)) = 0 := by
  have hr : ∀ r : List Nat, (r.drop (r.findIdx (· == 10))).count 10 = r.count 10 ∧ (r.drop (r.findIdx (· == 10))).findIdx (· == 10) = 0 := by
    intro r
    induction r with
    | nil => exact ⟨rfl, rfl⟩
    | cons c r ih =>
      by_cases hc : c = 10
      · subst hc
        simp [List.findIdx_cons]
      · have hb : (c == 10) = false := by simpa using hc
        rw [List.findIdx_cons, hb]
        simp only [cond_false, List.drop_succ_cons]
        rw [List.count_cons_of_ne (by simpa using hc)]
        exact ih
  have h := hr s.reverse
  have e : (s.reverse.drop (tlT s)).reverse = s.take (s.length - tlT s) := by
    rw [List.reverse_drop]; simp
  have h1 := h.1
  have h2 := h.2
  rw [List.count_reverse] at h1
  constructor
  · rw [← e, List.count_reverse]; exact h1
  · unfold tlT
    rw [show s.take (s.length - s.reverse.findIdx (· == 10)) = (s.reverse.drop (s.reverse.findIdx (· == 10))).reverse from e.symm, List.reverse_reverse]
    exact h2
theorem count_take_le (t : List Nat) {i j : Nat} (h : i ≤ j) : (t.take i).count 10 ≤ (t.take j).count 10 := by
  have : t.take i = (t.take j).take i := by rw [List.take_take, Nat.min_eq_left h]
  rw [this]
  exact List.Sublist.count_le _ (List.take_sublist _ _)
end M
end Go.Proofs.Ytjbllcakaljpgaa
namespace Go.Proofs.Ytjbllcakaljpgaa
open Go.RowKit
/-- Nothing that lay has turned but block C. -/
structure BC (C : Nat) (A B : World) : Prop where
  os : B.os = A.os
  tape : B.tape = A.tape
  output : B.output = A.output
  size : A.heap.size ≤ B.heap.size
  block : ∀ k, k < A.heap.size → k ≠ C → B.heap[k]? = A.heap[k]?
theorem BC.of {C : Nat} {A B : World} (h : Below A.heap.size A B) : BC C A B := ⟨h.os, h.tape, h.output, h.size, fun k hk _ => h.block k hk⟩
theorem BC.refl (C : Nat) (A : World) : BC C A A := .of (Below.refl _ _)
theorem BC.trans {C : Nat} {A B D : World} (h : BC C A B) (k : BC C B D) : BC C A D :=
  ⟨k.os.trans h.os, k.tape.trans h.tape, k.output.trans h.output, Nat.le_trans h.size k.size, fun i hi hc => (k.block i (Nat.lt_of_lt_of_le hi h.size) hc).trans (h.block i hi hc)⟩
theorem BC.set {C : Nat} {A B : World} (h : BC C A B) {p : Addr} (hp : A.heap.size ≤ p.block ∨ p.block = C) (u : Value) : BC C A (B.setCell p u) :=
  ⟨h.os, h.tape, h.output, Nat.le_trans h.size (by simp [World.setCell]), fun k hk hc => (Below.heap_setCell _ _ _ _ (by omega)).trans (h.block k hk hc)⟩
theorem BC.obj {C : Nat} {A B : World} (h : BC C A B) {k : Nat} (hc : k ≠ C) {o : Obj} (ho : A.heap[k]? = some o) : B.heap[k]? = some o := (h.block k (Array.getElem?_eq_some_iff.1 ho).1 hc).trans ho
/-- Where that block holds again what it held, nothing has turned. -/
theorem BC.close {C : Nat} {A B : World} (h : BC C A B) (hc : B.heap[C]? = A.heap[C]?) : Below A.heap.size A B :=
  ⟨h.os, h.tape, h.output, h.size, fun k hk => by
    by_cases e : k = C
    · subst e; exact hc
    · exact h.block k hk e⟩
theorem BC.grown {C : Nat} {A B : World} (h : A.grownBy B (some C)) : BC C A B := ⟨h.os, h.tape, h.output, h.size, fun k hk hne => h.block k hk (fun e => hne (Option.some.inj e))⟩
end Go.Proofs.Ytjbllcakaljpgaa
namespace Go.Proofs.Ytjbllcakaljpgaa
open Go.RowKit Go.Lib
namespace M
theorem StAt.bc {n0 B most c b' id len k : Nat} {W W' : World} {E : List En} (h : StAt n0 W B most E) (hc : CuC W c b' id len k) (hb : BC c W W') : StAt n0 W' B most E := by
  obtain ⟨lv, mb, k1, k2, k3, k4⟩ := h
  refine ⟨lv, mb, hb.obj (ne_type k1 hc (by decide)) k1, SlA.keep k2 (fun k cs fz h => hb.obj (ne_type h hc (by decide)) h), ?_, k4⟩
  obtain ⟨es, cc, h5, h6⟩ := k3
  refine ⟨es, cc, hb.obj (fun e => ?_) h5, h6⟩
  subst e; unfold CuC at hc; rw [hc] at h5; cases h5
theorem CuC.bc {c d b' id' len' k' : Nat} {W W' : World} (h : CuC W d b' id' len' k') (hb : BC c W W') (hn : d ≠ c) : CuC W' d b' id' len' k' := hb.obj hn h
theorem WtC.bc {c g b' id len k : Nat} {W W' : World} {u : Wt} (h : WtC W g u) (hc : CuC W c b' id len k) (hb : BC c W W') : WtC W' g u := hb.obj (ne_type h hc (by decide)) h
theorem below_bc {n c : Nat} {A W W' : World} (h : Below n A W) (hb : BC c W W') (hn : n ≤ c) (hs : n ≤ W.heap.size) : Below n A W' :=
  ⟨hb.os.trans h.os, hb.tape.trans h.tape, hb.output.trans h.output, Nat.le_trans h.size hb.size, fun k hk => (hb.block k (by omega) (by omega)).trans (h.block k hk)⟩
theorem MovP.bc {c b' id len k : Nat} {W w' : World} {o : Option Nat} {e : Ending} (h : CuC W c b' id len k) (m : MovP c W o e w') : e = .returned (.bool o.isSome) ∧ CuC w' c b' id len (o.getD k) ∧ BC c W w' := by
  cases o with
  | none =>
    obtain ⟨rfl, hb⟩ := m
    exact ⟨rfl, below_block hb h, .of hb⟩
  | some j =>
    obtain ⟨rfl, w1, hb, rfl⟩ := m
    exact ⟨rfl, CuC.move (below_block hb h) j, (BC.of hb).set (p := ⟨c, 3, none⟩) (.inr rfl) _⟩
theorem count_cut (t : List Nat) (a : Nat) : t.count 10 = (t.take a).count 10 + (t.drop a).count 10 := by
  rw [← List.count_append, List.take_append_drop]
theorem nxF_some {t : List Nat} {a : Nat} (ha : a ≤ t.length) (h : 0 < (t.drop a).count 10) : nxF t a = some (a + hdT (t.drop a) + 1) := by
  unfold nxF
  rw [if_neg (by have := count_cut t a; omega), nlp_next t ha h]
theorem nxF_none {t : List Nat} {a : Nat} (h : (t.drop a).count 10 = 0) : nxF t a = none := by
  unfold nxF
  rw [if_pos (by have := count_cut t a; omega)]
theorem nx_at {t : List Nat} {a : Nat} (ha : a ≤ t.length) (h : 0 < (t.drop a).count 10) : a + hdT (t.drop a) + 1 ≤ t.length ∧ (t.take (a + hdT (t.drop a) + 1)).count 10 = (t.take a).count 10 + 1 ∧ tlT (t.take (a + hdT (t.drop a) + 1)) = 0 ∧ t[a + hdT (t.drop a)]? = some 10 := by
  obtain ⟨h1, h2, h3⟩ := nlp_spec t ((t.take a).count 10 + 1) (by omega) (by have := count_cut t a; omega)
  rw [nlp_next t ha h] at h1 h2 h3
  rw [Nat.add_sub_cancel] at h3
  exact ⟨(List.getElem?_eq_some_iff.1 h3).1, h1, tl_last (by omega) (by rw [Nat.add_sub_cancel]; exact h3), h3⟩
theorem tl_le (t : List Nat) (a : Nat) : tlT (t.take a) ≤ a := by
  have h1 : tlT (t.take a) ≤ (t.take a).reverse.length := List.findIdx_le_length
  rw [List.length_reverse] at h1
  exact Nat.le_trans h1 (List.length_take_le _ _)
theorem tl_pos_count {s : List Nat} (h : tlT s = 0) (h0 : 0 < s.length) : 0 < s.count 10 := by
  have hr : 0 < s.reverse.length := by simpa using h0
  have h1 : tlT s < s.reverse.length := by rw [h]; exact hr
  have h2 := List.findIdx_getElem (p := (· == 10)) (xs := s.reverse) (w := h1)
  have h3 : (10 : Nat) ∈ s := by
    have h4 : s.reverse[s.reverse.findIdx (· == 10)]'h1 = 10 := by simpa using h2
    rw [← List.mem_reverse, ← h4]
    exact List.getElem_mem h1
  exact List.count_pos_iff.2 h3
/-- Where PrevLine leads. -/
theorem pv_cases {t : List Nat} {a : Nat} (ha : a ≤ t.length) :
    (a = 0 ∧ pvF t a = none ∧ tlT (t.take a) = 0 ∧ (t.take a).count 10 = 0) ∨
    (0 < a ∧ 0 < tlT (t.take a) ∧ pvF t a = some (a - tlT (t.take a)) ∧ (t.take (a - tlT (t.take a))).count 10 = (t.take a).count 10 ∧ tlT (t.take (a - tlT (t.take a))) = 0) ∨
    (0 < a ∧ tlT (t.take a) = 0 ∧ 0 < (t.take a).count 10 ∧ ∃ p, pvF t a = some p ∧ p < a ∧ (t.take p).count 10 = (t.take a).count 10 - 1 ∧ tlT (t.take p) = 0) := by
  rcases Nat.eq_zero_or_pos a with h0 | h0
  · subst h0
    left
    simp [pvF, tlT]
  · right
    rcases Nat.eq_zero_or_pos (tlT (t.take a)) with h1 | h1
    · right
      have hc := tl_pos_count h1 (by rw [List.length_take]; omega)
      refine ⟨h0, h1, hc, nlp t ((t.take a).count 10 - 1), ?_, ?_, ?_⟩
      · unfold pvF; rw [if_neg (by omega), if_pos hc]
      · rcases Nat.lt_or_ge (nlp t ((t.take a).count 10 - 1)) a with g | g
        · exact g
        · exfalso
          rcases Nat.eq_zero_or_pos ((t.take a).count 10 - 1) with g2 | g2
          · rw [g2, nlp_zero] at g; omega
          · have h3 := count_take_le t g
            have := (nlp_spec t ((t.take a).count 10 - 1) g2 (by have := count_cut t a; omega)).1
            omega
      · rcases Nat.eq_zero_or_pos ((t.take a).count 10 - 1) with g2 | g2
        · rw [g2, nlp_zero]; simp [tlT]
        · obtain ⟨q1, q2, q3⟩ := nlp_spec t ((t.take a).count 10 - 1) g2 (by have := count_cut t a; omega)
          exact ⟨q1, tl_last q2 q3⟩
    · left
      have hl : (t.take a).length = a := by rw [List.length_take]; omega
      obtain ⟨q1, q2⟩ := tl_cut (t.take a)
      rw [hl, List.take_take, Nat.min_eq_left (by omega)] at q1 q2
      exact ⟨h0, h1, by unfold pvF; rw [if_pos h1], q1, q2⟩
end M
end Go.Proofs.Ytjbllcakaljpgaa
