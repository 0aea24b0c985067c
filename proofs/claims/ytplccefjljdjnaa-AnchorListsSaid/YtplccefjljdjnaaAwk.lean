/- The law's awake: an example of chapter 38. -/
import Derived.Test.YtplccefjljdjnaaRefA
import Derived.Test.YtplccefjljdjnaaMoveQ
import Derived.Test.YtplccefjljdjnaaSpan
import Derived.Test.YtplccefjljdjnaaLen
import Derived.Test.YtplccefjljdjnaaMade2
import Derived.Test.YtplccefjljdjnaaStoreNew
import Derived.Test.YtplccefjljdjnaaRefM
namespace Go.Proofs.Ytplccefjljdjnaa
open Go.RowKit Go.Lib
namespace M
attribute [local go_sem] Oper.semAt_some
set_option maxRecDepth 100000 in
set_option maxHeartbeats 4000000 in
theorem refBack_any {b0 : Nat} {W : World} {E : List En} {v : Value} {L : List Chg} (hR : Rcs b0 W v (L.map (rcOf E))) (hLb : L.length ≤ 1000) {len y : Int} (hy : 0 ≤ y ∧ y ≤ 1152921504606846976) (hok : (lngF E len L).2 = 0) :
    Calls Try.prog 29 #[v, .int .i64 y] W fun e w' => e = .returned (.tuple #[.int .i64 (backR E y 0 L).1, .bool (backR E y 0 L).2]) ∧ Below W.heap.size W w' := by
  have HFn : ∀ f, Fence.wide.fn f := fun _ => trivial
  obtain ⟨o1, o2, o3, -, -⟩ := lngF_ok hok
  have HR := Lib.hid hR; have HOK := Lib.hid hok; have HFo := Lib.hid o3
  obtain ⟨va, vc, rfl⟩ := hR.len
  rw [List.length_map] at hR HR ⊢
  obtain ⟨res, hres⟩ : ∃ r, backR E y 0 L = r := ⟨_, rfl⟩
  have HRS := Lib.hid hres
  rw [hres]
  obtain ⟨hy0, hy1⟩ := hy
  clear hR hres hok o3
  go_enter Try.func29, Try.ntmps29
  go_wp2_with fail
  go_loopw [6, 7] (fun sv iv wr => ∃ (j : Nat) (s : Int), iv = .int .i64 j ∧ sv = .int .i64 s ∧ j ≤ L.length ∧ s = moreF E 0 (L.take j) ∧ backR E y s (L.drop j) = res ∧ Below W.heap.size W wr) (fun _ iv _ => L.length - (intOf iv).toNat)
  case atStart => exact ⟨0, 0, rfl, rfl, Nat.zero_le _, rfl, HRS.out, Below.refl _ _⟩
  case round =>
    obtain ⟨j, s, rfl, rfl, hj, hs, hm, hB⟩ := hrel
    have HB := Lib.hid hB; have HS := Lib.hid hs; have HM := Lib.hid hm
    have hsb := more_in HOK.out j
    rw [← hs] at hsb
    obtain ⟨hs1, hs2⟩ := hsb
    clear hB hs hm
    by_cases hlt : j < L.length
    · have hlt2 : (j : Int) < (L.length : Int) := by omega
      have hlt3 : (0 : Int) ≤ (j : Int) := by omega
      obtain ⟨g, cap, hv, -, -, hc⟩ := Rcs.at HR.out hlt
      simp only [Value.slice.injEq] at hv
      obtain ⟨rfl, -, rfl⟩ := hv
      obtain ⟨q0, q1, q2⟩ := hc wr HB.out j hlt
      have HC := Lib.hid (fun w hw => hc w hw j hlt)
      obtain ⟨m1, m2, m3⟩ := formF_mem L _ HFo.out L[j] (List.getElem_mem hlt)
      have htl := ins_in HOK.out (List.getElem_mem hlt)
      have hmd := HM.out
      rw [backR_drop hlt] at hmd
      have HNX : Hid (moreF E 0 (L.take (j + 1)) = s + ((txt E L[j].id).length - L[j].n)) := Lib.hid (by rw [take_snoc hlt, moreF_snoc, ← HS.out])
      clear hc
      generalize L[j] = c at *
      obtain ⟨tl, htl2⟩ : ∃ n, (txt E c.id).length = n := ⟨_, rfl⟩
      rw [htl2] at q2 htl hmd HNX HC
      have HMD := Lib.hid hmd
      have a2 : IntKind.i64.wrap (c.pos + s) = c.pos + s := by rw [IntKind.wrap_i64]; omega
      have a3 : IntKind.i64.wrap (c.pos + s + (tl : Int)) = c.pos + s + (tl : Int) := by rw [IntKind.wrap_i64]; omega
      have a4 : IntKind.i64.wrap ((tl : Int) - c.n) = (tl : Int) - c.n := by rw [IntKind.wrap_i64]; omega
      have a5 : IntKind.i64.wrap (s + ((tl : Int) - c.n)) = s + ((tl : Int) - c.n) := by rw [IntKind.wrap_i64]; omega
      have a6 : IntKind.i64.wrap (y - s) = y - s := by rw [IntKind.wrap_i64]; omega
      clear htl hmd htl2 m1 m2 m3 hs1 hs2
      by_cases h1 : y < c.pos + s
      · have HE : Hid (res = (y - s, true)) := Lib.hid (by rw [← HMD.out, if_pos h1])
        go_wp2_with fail
        go_ret2
        exact ⟨by rw [HE.out]; rfl, HB.out⟩
      · by_cases h2 : y < c.pos + s + (tl : Int)
        · have HE : Hid (res = (0, false)) := Lib.hid (by rw [← HMD.out, if_neg h1, if_pos h2])
          go_wp2_with fail
          go_ret2
          exact ⟨by rw [HE.out]; rfl, HB.out⟩
        · have HE : Hid (backR E y (s + ((tl : Int) - c.n)) (L.drop (j + 1)) = res) := Lib.hid (by rw [← HMD.out, if_neg h1, if_neg h2])
          go_wp2_with fail
          have m1 : ∀ w, Below wr.heap.size wr w → w.cell? ⟨g, j * 3 + 1, none⟩ = some (.int .i64 c.n) := fun w hw => (HC.out w (Below.after HB.out hw)).2.1
          have m2 : ∀ w, Below wr.heap.size wr w → w.cell? ⟨g, j * 3 + 2, none⟩ = some (.int .i64 tl) := fun w hw => (HC.out w (Below.after HB.out hw)).2.2
          clear q0 q1 q2
          refine wp_region_anyH (Below wr.heap.size wr) (by kernel_rfl) ?_
          have B1 : Below wr.heap.size wr wr.drew := (Below.refl _ _).drew
          have HF : ∀ f, Fence.wide.fn f := fun _ => trivial
          refine AnyH.take (i := 0) (d := some 34) (v := ?_) (by kernel_rfl) rfl rfl HF (fun _ _ _ h => h) (.inl ⟨by rfl, ?_⟩) (by first | assumption | rfl) ?_
          rotate_left
          · intro w hS; try subst hS
            go_simp; try with_reducible rfl
          try simp only [Act.put, List.setIfInBounds_toArray, List.set_cons_zero, List.set_cons_succ]
          refine AnyH.take (i := 1) (d := some 35) (v := ?_) (by kernel_rfl) rfl rfl HF (fun _ _ _ h => h) (.inl ⟨by rfl, ?_⟩) (by first | assumption | rfl) ?_
          rotate_left
          · intro w hS; try subst hS
            go_simp; try with_reducible rfl
          try simp only [Act.put, List.setIfInBounds_toArray, List.set_cons_zero, List.set_cons_succ]
          refine AnyH.take (i := 2) (d := some 36) (v := ?_) (by kernel_rfl) rfl rfl HF (fun _ _ _ h => h) (.inl ⟨by rfl, ?_⟩) (by first | assumption | rfl) ?_
          rotate_left
          · intro w hS; try subst hS
            go_simp; try with_reducible rfl
          try simp only [Act.put, List.setIfInBounds_toArray, List.set_cons_zero, List.set_cons_succ]
          refine AnyH.take (i := 3) (d := some 37) (v := ?_) (by kernel_rfl) rfl rfl HF (fun _ _ _ h => h) (.inl ⟨by rfl, ?_⟩) (by first | assumption | rfl) ?_
          rotate_left
          · intro w hS; try subst hS
            go_simp; try with_reducible rfl
          try simp only [Act.put, List.setIfInBounds_toArray, List.set_cons_zero, List.set_cons_succ]
          refine AnyH.take (i := 4) (d := some 38) (v := ?_) (by kernel_rfl) rfl rfl HF (fun _ _ _ h => h) (.inl ⟨by rfl, ?_⟩) (by first | assumption | rfl) ?_
          rotate_left
          · intro w hS; try subst hS
            go_simp; try with_reducible rfl
          try simp only [Act.put, List.setIfInBounds_toArray, List.set_cons_zero, List.set_cons_succ]
          refine AnyH.take (i := 5) (d := some 39) (v := ?_) (by kernel_rfl) rfl rfl HF (fun _ _ _ h => h) (.inl ⟨by rfl, ?_⟩) (by first | assumption | rfl) ?_
          rotate_left
          · intro w hS; try subst hS
            go_simp; try with_reducible rfl
          try simp only [Act.put, List.setIfInBounds_toArray, List.set_cons_zero, List.set_cons_succ]
          refine AnyH.take (i := 6) (d := some 40) (v := ?_) (by kernel_rfl) rfl rfl HF (fun _ _ _ h => h) (.inl ⟨by rfl, ?_⟩) (by first | assumption | rfl) ?_
          rotate_left
          · intro w hS; try subst hS
            go_simp; try with_reducible rfl
          try simp only [Act.put, List.setIfInBounds_toArray, List.set_cons_zero, List.set_cons_succ]
          refine AnyH.take (i := 7) (d := some 41) (v := ?_) (by kernel_rfl) rfl rfl HF (fun _ _ _ h => h) (.inl ⟨by rfl, ?_⟩) (by first | assumption | rfl) ?_
          rotate_left
          · intro w hS; try subst hS
            go_simp; try with_reducible rfl
          try simp only [Act.put, List.setIfInBounds_toArray, List.set_cons_zero, List.set_cons_succ]
          refine AnyH.take (i := 8) (d := some 42) (v := ?_) (by kernel_rfl) rfl rfl HF (fun _ _ _ h => h) (.inl ⟨by rfl, ?_⟩) (by first | assumption | rfl) ?_
          rotate_left
          · intro w hS; try subst hS
            go_simp; try with_reducible rfl
          try simp only [Act.put, List.setIfInBounds_toArray, List.set_cons_zero, List.set_cons_succ]
          refine AnyH.take (i := 9) (d := some 43) (v := ?_) (by kernel_rfl) rfl rfl HF (fun _ _ _ h => h) (.inl ⟨by rfl, ?_⟩) (by first | assumption | rfl) ?_
          rotate_left
          · intro w hS; try subst hS
            go_simp; try with_reducible rfl
          try simp only [Act.put, List.setIfInBounds_toArray, List.set_cons_zero, List.set_cons_succ]
          refine AnyH.take (i := 10) (d := some 44) (v := ?_) (by kernel_rfl) rfl rfl HF (fun _ _ _ h => h) (.inl ⟨by rfl, ?_⟩) (by first | assumption | rfl) ?_
          rotate_left
          · intro w hS; try subst hS
            go_simp; try with_reducible rfl
          try simp only [Act.put, List.setIfInBounds_toArray, List.set_cons_zero, List.set_cons_succ]
          refine AnyH.take (i := 11) (d := some 45) (v := ?_) (by kernel_rfl) rfl rfl HF (fun _ _ _ h => h) (.inl ⟨by rfl, ?_⟩) (by first | assumption | rfl) ?_
          rotate_left
          · intro w hS; try subst hS
            go_simp; try with_reducible rfl
          try simp only [Act.put, List.setIfInBounds_toArray, List.set_cons_zero, List.set_cons_succ]
          refine AnyH.take (i := 12) (d := some 46) (v := ?_) (by kernel_rfl) rfl rfl HF (fun _ _ _ h => h) (.inl ⟨by rfl, ?_⟩) (by first | assumption | rfl) ?_
          rotate_left
          · intro w hS; try subst hS
            go_simp; try with_reducible rfl
          try simp only [Act.put, List.setIfInBounds_toArray, List.set_cons_zero, List.set_cons_succ]
          refine AnyH.take (i := 13) (d := some 6) (v := ?_) (by kernel_rfl) rfl rfl HF (fun _ _ _ h => h) (.inl ⟨by rfl, ?_⟩) (by first | assumption | rfl) ?_
          rotate_left
          · intro w hS; try subst hS
            go_simp; try with_reducible rfl
          try simp only [Act.put, List.setIfInBounds_toArray, List.set_cons_zero, List.set_cons_succ]
          refine AnyH.done (by kernel_rfl) ?_
          have HB1 := Lib.hid (Below.after HB.out B1)
          clear m1 m2 B1
          go_wp2_with fail
          clear a2 a3 a4 a5 a6 h1 h2
          go_roundw
          case rel => exact ⟨j + 1, s + ((tl : Int) - c.n), by go_num, rfl, by omega, HNX.out.symm, HE.out, HB1.out⟩
          case measure => first | (simp [intOf]; omega) | simp [intOf]
    · have hlt2 : ¬ (j : Int) < (L.length : Int) := by omega
      have HE : Hid (res = (y - s, true)) := Lib.hid (by rw [← HM.out, List.drop_of_length_le (by omega)]; rfl)
      have a6 : IntKind.i64.wrap (y - s) = y - s := by rw [IntKind.wrap_i64]; omega
      go_wp2_with fail
      go_ret2
      exact ⟨by rw [HE.out]; rfl, HB.out⟩
end M
end Go.Proofs.Ytplccefjljdjnaa
namespace Go.Proofs.Ytplccefjljdjnaa
open Go.RowKit
namespace M
theorem int_eqZ {t : TypeId} {q : IntKind} (ht : Try.prog.underlying t = some (.int q)) (d : Nat) (x y : Int) (w : World) : (Op.equalIn (d + 1) t (.int q x) (.int q y)).run Try.prog w = .ok (decide (x = y)) w := by
  have h : (x == y) = decide (x = y) := by
    by_cases h : x = y
    · subst h; simp
    · rw [decide_eq_false h]; simp; omega
  simp [Op.equalIn, run_underlying (P := Try.prog) ht, h]
theorem bool_eqB {t : TypeId} (ht : Try.prog.underlying t = some .bool) (d : Nat) (x y : Bool) (w : World) : (Op.equalIn (d + 1) t (.bool x) (.bool y)).run Try.prog w = .ok (decide (x = y)) w := by
  cases x <;> cases y <;> simp [Op.equalIn, run_underlying (P := Try.prog) ht]
set_option maxHeartbeats 4000000 in
theorem an_eq (x y : Int) (p q : Bool) (w : World) : (Op.equal 33 (.agg #[.int .i64 x, .bool p]) (.agg #[.int .i64 y, .bool q])).run Try.prog w = .ok (decide (x = y ∧ p = q)) w := by
  have h : ∀ d w, (Op.equalIn (d + 2) 33 (.agg #[.int .i64 x, .bool p]) (.agg #[.int .i64 y, .bool q])).run Try.prog w = .ok (decide (x = y ∧ p = q)) w := fun d w => by
    have p0 : ∀ (x0 : Int) (x1 : Bool) (w : World), (part 3 #[.int .i64 x0, .bool x1] 0).run Try.prog w = .ok (.int .i64 x0) w := fun _ _ _ => by kernel_rfl
    have p1 : ∀ (x0 : Int) (x1 : Bool) (w : World), (part 4 #[.int .i64 x0, .bool x1] 1).run Try.prog w = .ok (.bool x1) w := fun _ _ _ => by kernel_rfl
    have i0 := int_eqZ Try.underlying3 d
    have i1 := bool_eqB Try.underlying4 d
    rw [Op.equalIn]
    by_cases k1 : x = y <;> by_cases k2 : p = q <;>
      simp [run_underlying (P := Try.prog) Try.underlying33, Sem.run_bind, p0, p1, i0, i1, k1, k2]
  simp [Op.equal, Op.maxDepth, h 9998]
set_option maxHeartbeats 4000000 in
theorem sn_eq (x y p q : Int) (w : World) : (Op.equal 57 (.agg #[.int .i64 x, .int .i64 p]) (.agg #[.int .i64 y, .int .i64 q])).run Try.prog w = .ok (decide (x = y ∧ p = q)) w := by
  have h : ∀ d w, (Op.equalIn (d + 2) 57 (.agg #[.int .i64 x, .int .i64 p]) (.agg #[.int .i64 y, .int .i64 q])).run Try.prog w = .ok (decide (x = y ∧ p = q)) w := fun d w => by
    have p0 : ∀ (x0 : Int) (x1 : Int) (w : World), (part 3 #[.int .i64 x0, .int .i64 x1] 0).run Try.prog w = .ok (.int .i64 x0) w := fun _ _ _ => by kernel_rfl
    have p1 : ∀ (x0 : Int) (x1 : Int) (w : World), (part 3 #[.int .i64 x0, .int .i64 x1] 1).run Try.prog w = .ok (.int .i64 x1) w := fun _ _ _ => by kernel_rfl
    have i0 := int_eqZ Try.underlying3 d
    rw [Op.equalIn]
    by_cases k1 : x = y <;> by_cases k2 : p = q <;>
      simp [run_underlying (P := Try.prog) Try.underlying57, Sem.run_bind, p0, p1, i0, k1, k2]
  simp [Op.equal, Op.maxDepth, h 9998]
end M
end Go.Proofs.Ytplccefjljdjnaa
namespace Go.Proofs.Ytplccefjljdjnaa
open Go.RowKit
namespace M
attribute [local go_sem] Oper.semAt_some

set_option maxRecDepth 100000 in
theorem num_nil (W : World) : Calls Try.prog 21 #[.nilIface] W fun e w' => e = .returned (.int .i64 0) ∧ w' = W := by
  go_enter Try.func21, Try.ntmps21
  go_wp2_with fail
  go_ret
  exact ⟨rfl, rfl⟩
set_option maxRecDepth 100000 in
theorem num_err (W : World) (c : Int) : Calls Try.prog 21 #[err c] W fun e w' => e = .returned (.int .i64 c) ∧ w' = W := by
  have hta : ∀ w : World, (Instr.typeAssert (.iface 54 (.int .i64 c)) 35 54 true).run Try.prog w = .ok (.tuple #[.int .i64 c, .bool true]) w := fun _ => by kernel_rfl
  unfold err
  go_enter Try.func21, Try.ntmps21
  go_wp2_with fail
  go_ret
  exact ⟨rfl, rfl⟩
theorem num_any (W : World) (c : Int) : Calls Try.prog 21 #[errV c] W fun e w' => e = .returned (.int .i64 c) ∧ w' = W := by
  unfold errV
  by_cases h : c = 0
  · rw [if_pos h, h]; exact num_nil W
  · rw [if_neg h]; exact num_err W c
set_option maxRecDepth 100000 in
theorem is_err (W : World) (c k : Int) (hk : k ≠ 0) : Calls Try.prog 26 #[err c, .int .i64 k] W fun e w' => e = .returned (.bool (decide (c = k))) ∧ w' = W := by
  have hkb : (k != 0) = true := by simpa using hk
  by_cases h : c = k
  · subst h
    go_enter Try.func26, Try.ntmps26
    go_wp2_with fail
    refine (num_err W c).mono ?_; rintro e w1 ⟨rfl, rfl⟩
    go_wp2_with fail
    go_ret
    exact ⟨by simp, rfl⟩
  · have hb : (c == k) = false := by simpa using h
    go_enter Try.func26, Try.ntmps26
    go_wp2_with fail
    refine (num_err W c).mono ?_; rintro e w1 ⟨rfl, rfl⟩
    go_wp2_with fail
    go_ret
    exact ⟨by simp [h], rfl⟩
end M
end Go.Proofs.Ytplccefjljdjnaa
namespace Go.Proofs.Ytplccefjljdjnaa
open Go.RowKit Go.Lib
namespace M
attribute [local go_sem] Oper.semAt_some
def awkS : List Spc := [⟨1, 2, ⟨#[120]⟩⟩, ⟨5, 0, ⟨#[121, 122]⟩⟩]
theorem two_of {α : Type} {l : List α} (h : l.length = 2) : ∃ a b, l = [a, b] := by
  match l, h with
  | [a, b], _ => exact ⟨a, b, rfl⟩
theorem awk_F {E : List En} {L : List Chg} (h : Mt E L awkS) : prepF E 6 L [(5, true)] = 0 ∧ ancF (mvsF E 0 L) (lngF E 6 L).1 6 5 true = (6, true) := by
  obtain ⟨h1, h2, h3⟩ := h
  have e : awkS.map (fun s => (s.pos, s.n, bts s.text)) = [(1, 2, [120]), (5, 0, [121, 122])] := by rfl
  rw [e] at h1
  obtain ⟨c, d, rfl⟩ := two_of (show L.length = 2 by have := congrArg List.length h1; simpa using this)
  · simp only [List.map_cons, List.map_nil, List.cons.injEq, Prod.mk.injEq, and_true] at h1
    obtain ⟨⟨a1, a2, a3⟩, b1, b2, b3⟩ := h1
    have i2 : ¬ d.id = 0 := fun g => by have := (h3 d (by simp)).1 g; rw [b3] at this; cases this
    have hf : formF 6 (-1) [c, d] = true := by simp [formF, chgOk, rngB, maxL, a1, a2, b1, b2, i2]
    have hl : (lngF E 6 [c, d]) = (7, 0) := by
      have hc : chkF 6 [c, d] = 0 := by unfold chkF; rw [if_neg (by unfold maxL; omega), if_pos hf]
      unfold lngF
      rw [if_neg (by rw [hc]; simp)]
      simp [delF, insF, a2, a3, b2, b3, maxL]
    refine ⟨?_, ?_⟩
    · unfold prepF
      rw [if_neg (by unfold maxL; omega), if_pos (by rfl), hl]
    · rw [anc_R hf, hl, if_neg (by omega)]
      simp [mapF, a1, a2, a3, b1, b2, b3]
set_option maxRecDepth 100000 in
set_option maxHeartbeats 4000000 in
theorem awake_any (W : World) : Calls Try.prog 20 #[] W fun e w' => e = .returned (.bool true) ∧ Below W.heap.size W w' := by
  have HS := Lib.hid (snew_any W 1048576 (by omega))
  rw [show ((1048576 : Nat) : Int) = 1048576 from rfl] at HS
  have hgd : Try.prog.eqGuardType Try.prog.depth 33 = false := by kernel_rfl
  go_enter Try.func20, Try.ntmps20
  go_wp2_with fail
  refine HS.out.mono ?_
  rintro e w1 ⟨B, rfl, s1, b1⟩
  obtain ⟨w2, hw2⟩ : ∃ w, w1.alloc (.cells #[.int .i64 1, .int .i64 2, .string ⟨#[120]⟩, .int .i64 5, .int .i64 0, .string ⟨#[121, 122]⟩] 86) = w := ⟨_, rfl⟩
  have hnew := heap_new' w1 (.cells #[.int .i64 1, .int .i64 2, .string ⟨#[120]⟩, .int .i64 5, .int .i64 0, .string ⟨#[121, 122]⟩] 86)
  rw [hw2] at hnew
  have b2 : Below w1.heap.size w1 w2 := by rw [← hw2]; exact (Below.refl _ _).alloc (Nat.le_refl _) _
  obtain ⟨g, hg⟩ : ∃ g, w1.heap.size = g := ⟨_, rfl⟩
  have hgl : g < w2.heap.size := by rw [← hg, ← hw2]; simp
  have hrow : RowSp w2 (.slice (some ⟨g, 0, none⟩) 2 2) awkS := by
    rw [← hg]
    refine ⟨_, 2, rfl, by decide, by unfold maxLen; omega, fun i hi => ⟨_, rfl, by rw [hg]; exact hgl, ?_⟩⟩
    have hi2 : i < 2 := hi
    rcases (show i = 0 ∨ i = 1 by omega) with rfl | rfl
    · simp [SpAt, awkS, World.cell?, Addr.add, hnew]
    · simp [SpAt, awkS, World.cell?, Addr.add, hnew]
  rw [hg] at hnew
  have HM := Lib.hid (made_any (s1.below b2) .nil hrow (by rfl) (by simp) (by simp) (Nat.le_trans b1.size b2.size) (fun a n c h _ => .inr (by
    simp only [Value.slice.injEq, Option.some.injEq] at h
    obtain ⟨h, -, -⟩ := h
    rw [← h]
    exact ⟨_, _, hnew⟩)))
  have HB2 := Lib.hid (b1.trans (b2.mono b1.size))
  clear s1 b1 b2 hnew hgl hrow HS
  go_wp2_with fail
  refine HM.out.mono ?_
  rintro e w3 ⟨E, L, v1, v2, rfl, s3, f3, -, n3, hmt, hC, -, b3⟩
  clear HM hw2 hg
  have HB3 := Lib.hid (HB2.out.trans b3)
  obtain ⟨q1, q2⟩ := awk_F hmt
  have HLL := hmt.len
  have HMP := Lib.hid (map_any s3 f3.wf (Nat.le_trans n3 (by decide)) hC hmt.2.1 (by rw [HLL]; decide) 6 5 true)
  unfold MapP at HMP
  rw [q1, q2] at HMP
  clear s3 f3 n3 hmt hC b3 q1 q2 HLL HB2
  go_wp2_with fail
  refine HMP.out.mono ?_
  rintro e w4 ⟨⟨-, rfl⟩ | ⟨h, -⟩, b4⟩
  rotate_left
  · exact absurd rfl h
  dsimp only
  have HB4 := Lib.hid (HB3.out.trans (b4.mono HB3.out.size))
  obtain ⟨wz, w5, hz, hs1, ka, ba, ⟨p0, p1⟩, f0, f1⟩ := newAn w4 6 true
  obtain ⟨ga, hga⟩ : ∃ g, w4.heap.size = g := ⟨_, rfl⟩
  rw [hga] at hs1 p0 p1 f0 f1 ka
  obtain ⟨y0, y1, -, -⟩ := ka.cells
  have HB5 := Lib.hid (Below.after HB4.out ba)
  have heq := an_eq 6 6 true true
  rw [decide_eq_true (show (6 : Int) = 6 ∧ true = true from ⟨rfl, rfl⟩)] at heq
  clear ka ba b4 HMP HB3
  go_wp2_with fail
  go_ret
  exact ⟨rfl, HB5.out⟩
end M
end Go.Proofs.Ytplccefjljdjnaa
