/- The reference's Begin and New. -/
import Derived.Test.YtlfodhejpbjfcaaRefD
namespace Go.Proofs.Ytlfodhejpbjfcaa
open Go.RowKit
namespace S
attribute [local go_sem] Oper.semAt_some
def beginR (Vs : List Ver) : RT := ⟨(Vs.length : Int) - 1, (Vs.getLast?.map Prod.fst).getD [], [], [], false⟩
set_option maxRecDepth 100000 in
set_option maxHeartbeats 4000000 in
theorem refBegin_any {W : World} {v : Value} {Vs : List Ver} (hV : VersAt W v Vs) (hvz : 0 < Vs.length) (hv1 : Vs.length ≤ 1000) :
    Calls Try.prog 35 #[.agg #[v]] W fun e w' => ∃ v', e = .returned v' ∧ RtIs w' v' (beginR Vs) ∧ Below W.heap.size W w' := by
  have HF : ∀ f, Fence.wide.fn f := fun _ => trivial
  obtain ⟨gv, vc, -, -, -, -, -, -, rfl, -, -, -, -⟩ := hV.at (i := 0) hvz
  obtain ⟨vn, hvn⟩ : ∃ k, Vs.length = k := ⟨_, rfl⟩
  have HVN := Lib.hid hvn
  simp only [hvn] at hV hvz hv1
  have HBR : Hid (beginR Vs = ⟨(vn : Int) - 1, (Vs.getLast?.map Prod.fst).getD [], [], [], false⟩) := Lib.hid (by unfold beginR; rw [hvn])
  rw [hvn]
  clear hvn
  obtain ⟨W1, hW1⟩ : ∃ w, (W.alloc (.cells #[.slice (some ⟨gv, 0, none⟩) vn vc] 35)).alloc (.cells #[.int .i64 0, .slice none 0 0, .slice none 0 0, .slice none 0 0, .bool false] 40) = w := ⟨_, rfl⟩
  have hb1 : Below W.heap.size W W1 := by rw [← hW1]; exact ((Below.refl _ W).alloc (Nat.le_refl _) _).alloc (by simp) _
  have k1 : BxC W1 W.heap.size (some ⟨gv, 0, none⟩, vn, vc) := by rw [← hW1]; exact (Below.heap_alloc _ _ _ (by simp)).trans (heap_new _ _)
  have k2 : RtC W1 (W.heap.size + 1) 0 (none, 0, 0) (none, 0, 0) (none, 0, 0) false := by rw [← hW1]; exact heap_new1 _ _ _
  have c1 : ∀ x, Below W1.heap.size W1 x → x.cell? ⟨W.heap.size, 0, none⟩ = some (.slice (some ⟨gv, 0, none⟩) vn vc) := fun x hx => (BxC.cells (box_below hx k1)).1
  have hsub : IntKind.i64.wrap ((vn : Int) - 1) = (vn : Int) - 1 := by rw [IntKind.wrap_i64]; omega
  have HV1 := Lib.hid (hV.below hb1); have HB1 := Lib.hid hb1; have K2 := Lib.hid k2
  have hfl : ∀ (x y : Value) (w : World), (Instr.field 104 (.agg #[x, y]) 0).run Try.prog w = .ok x w := fun _ _ _ => by kernel_rfl
  clear hV hb1 k1 k2
  go_enter Try.func35, Try.ntmps35
  go_wp2_with fail
  refine wp_region_anyH (Below W1.heap.size W1) (by kernel_rfl) ?_
  have B0 : Below W1.heap.size W1 W1.drew := (Below.refl _ _).drew
  refine AnyH.take (i := 0) (d := some 3) (v := ?_) (by kernel_rfl) rfl rfl HF (fun _ _ _ h => h) (.inl ⟨by rfl, ?_⟩) (by first | assumption | rfl) ?_
  rotate_left
  · intro w hS; try subst hS
    go_simp; try with_reducible rfl
  try simp only [Act.put, List.setIfInBounds_toArray, List.set_cons_zero, List.set_cons_succ]
  refine AnyH.take (i := 1) (d := some 4) (v := ?_) (by kernel_rfl) rfl rfl HF (fun _ _ _ h => h) (.inl ⟨by rfl, ?_⟩) (by first | assumption | rfl) ?_
  rotate_left
  · intro w hS; try subst hS
    go_simp; try with_reducible rfl
  try simp only [Act.put, List.setIfInBounds_toArray, List.set_cons_zero, List.set_cons_succ]
  refine AnyH.take (i := 2) (d := some 5) (v := ?_) (by kernel_rfl) rfl rfl HF (fun _ _ _ h => h) (.inl ⟨by rfl, ?_⟩) (by first | assumption | rfl) ?_
  rotate_left
  · intro w hS; try subst hS
    go_simp; try with_reducible rfl
  try simp only [Act.put, List.setIfInBounds_toArray, List.set_cons_zero, List.set_cons_succ]
  refine AnyH.take (i := 3) (d := some 6) (v := ?_) (by kernel_rfl) rfl rfl HF (fun _ _ _ h => h) (.inl ⟨by rfl, ?_⟩) (by first | assumption | rfl) ?_
  rotate_left
  · intro w hS; try subst hS
    go_simp; try with_reducible rfl
  try simp only [Act.put, List.setIfInBounds_toArray, List.set_cons_zero, List.set_cons_succ]
  refine AnyH.take (i := 4) (d := some 7) (v := ?_) (by kernel_rfl) rfl rfl HF (fun _ _ _ h => h) (.inl ⟨by rfl, ?_⟩) (by first | assumption | rfl) ?_
  rotate_left
  · intro w hS; try subst hS
    go_simp; try with_reducible rfl
  try simp only [Act.put, List.setIfInBounds_toArray, List.set_cons_zero, List.set_cons_succ]
  refine AnyH.one (i := 5) (by kernel_rfl) (by kernel_rfl) rfl HF (by rfl) (fun K hK => ?_)
  go_simp
  first | ((with_reducible refine And.intro ?hdep ?_); (case hdep => first | rfl | (intro h; cases h))) | skip
  refine callsIn_wide.2 ((refLast_any (HV1.out.below B0) (by have := HVN.out; omega) (by have := HVN.out; omega)).mono ?_)
  rintro e w3 ⟨la, ln, lc, lb, lk, ld, rfl, hVL, b3⟩
  have B3 := Below.step B0 b3
  have HVL : Hid (Prs 0 w3 (.slice la ln lc) ((Vs.getLast?.map Prod.fst).getD [])) := Lib.hid (by
    have h := hVL.1
    have e : (Vs.getLast?.map Prod.fst).getD [] = (Vs[Vs.length - 1]'(by have := HVN.out; omega)).1 := by
      rw [List.getLast?_eq_getElem?, List.getElem?_eq_getElem (by have := HVN.out; omega)]; rfl
    rw [e]; exact h)
  clear b3 hVL
  refine hK _ _ B3 ?_
  clear hK K
  try simp only [Act.put, List.setIfInBounds_toArray, List.set_cons_zero, List.set_cons_succ]
  refine AnyH.take (i := 6) (d := some 9) (v := ?_) (by kernel_rfl) rfl rfl HF (fun _ _ _ h => h) (.inl ⟨by rfl, ?_⟩) (by first | assumption | rfl) ?_
  rotate_left
  · intro w hS; try subst hS
    go_simp; try with_reducible rfl
  try simp only [Act.put, List.setIfInBounds_toArray, List.set_cons_zero, List.set_cons_succ]
  refine AnyH.take (i := 7) (d := some 10) (v := ?_) (by kernel_rfl) rfl rfl HF (fun _ _ _ h => h) (.inl ⟨by rfl, ?_⟩) (by first | assumption | rfl) ?_
  rotate_left
  · intro w hS; try subst hS
    go_simp; try with_reducible rfl
  try simp only [Act.put, List.setIfInBounds_toArray, List.set_cons_zero, List.set_cons_succ]
  refine AnyH.tailL 8 (by kernel_rfl) ?_
  simp only [List.drop_succ_cons, List.drop_zero]
  have q2 : RtC w3 (W.heap.size + 1) 0 (none, 0, 0) (none, 0, 0) (none, 0, 0) false := box_below B3 K2.out
  obtain ⟨x0, x1, x2, x3, x4, y0, y1, y2, y3, y4⟩ := q2.cells
  obtain ⟨w4, hw4⟩ : ∃ x, ((((w3.setCell ⟨W.heap.size + 1, 0, none⟩ (.int .i64 ((vn : Int) - 1))).setCell ⟨W.heap.size + 1, 1, none⟩ (.slice la ln lc)).setCell ⟨W.heap.size + 1, 2, none⟩ (.slice none 0 0)).setCell ⟨W.heap.size + 1, 3, none⟩ (.slice none 0 0)).setCell ⟨W.heap.size + 1, 4, none⟩ (.bool false) = x := ⟨_, rfl⟩
  have q4 : RtC w4 (W.heap.size + 1) ((vn : Int) - 1) (la, ln, lc) (none, 0, 0) (none, 0, 0) false := by rw [← hw4]; exact q2.all ((vn : Int) - 1) (la, ln, lc) (none, 0, 0) (none, 0, 0) false
  have hk4 := rt_keep5 (t := 49) q2 (by decide) ((vn : Int) - 1) (la, ln, lc) (none, 0, 0) (none, 0, 0) false
  simp only [slV] at hk4
  rw [hw4] at hk4
  obtain ⟨r0, r1, r2, r3, r4, -⟩ := q4.cells
  have HB4 : Hid (Below W.heap.size W w4) := Lib.hid (by
    have h := Below.step HB1.out B3
    rw [← hw4]
    exact ((((h.setCell (p := ⟨W.heap.size + 1, 0, none⟩) (by simp) _).setCell (p := ⟨W.heap.size + 1, 1, none⟩) (by simp) _).setCell (p := ⟨W.heap.size + 1, 2, none⟩) (by simp) _).setCell (p := ⟨W.heap.size + 1, 3, none⟩) (by simp) _).setCell (p := ⟨W.heap.size + 1, 4, none⟩) (by simp) _)
  have HL4 := Lib.hid (HVL.out.keep hk4)
  clear q2 q4 hk4 c1
  gi_wp2_with fail
  go_wp2_with fail
  exact bodyPost_ret (v := rtV ((vn : Int) - 1) (la, ln, lc) (none, 0, 0) (none, 0, 0) false) (by simp [results, Try.results35, go_sem, r0, r1, r2, r3, r4, rtV]) rfl ⟨_, rfl, by rw [HBR.out]; exact ⟨_, _, _, rfl, HL4.out, SlA.nil _ _ _ _ _, SlA.nil _ _ _ _ _⟩, HB4.out⟩
end S
end Go.Proofs.Ytlfodhejpbjfcaa
