/- The walk of SessionSerial. -/
import Derived.Test.YtlfodhejpbjfcaaSerC
import Derived.Test.YtlfodhejpbjfcaaPlayB
import Derived.Test.YtlfodhejpbjfcaaAwakeS
set_option linter.unusedVariables false
set_option linter.unusedSimpArgs false
namespace Go.Proofs.Ytlfodhejpbjfcaa
open Go.RowKit
namespace S
attribute [local go_sem] Oper.semAt_some
theorem ser_start {W w2 w' : World} {L : List (ByteArray × Int)} {p b m : Nat} {q : Option Addr} {s : Sl} (hl : L.length ≤ 20) (hb2 : Below W.heap.size W w2) (g1 : w2.heap.size ≤ p) (g2 : w2.heap.size ≤ b) (g3 : w2.heap.size ≤ m)
    (hp : PlC w' p b s (fun _ => none) (fun _ => (0, sl0, sl0, sl0, false))) (hx : BxAt w' ⟨b, m, 0, q, (newF L .nil).2, []⟩) (hb : Below w2.heap.size w2 w') :
    SerAt 0 W.heap.size w' p ⟨b, m, 0, q, (newF L .nil).2, []⟩ [((newR L []).2, [])] s (fun _ => (0, sl0, sl0, sl0, false)) (fun _ => none) := by
  have h1 := newF_sz L .nil
  have h2 := newR_len L []
  simp only [Tr.sz, List.length_nil] at h1 h2
  have e1 := hb2.size; have e2 := hb.size
  refine ⟨hp, hx, (inv_new L b m q).2, ⟨by dsimp only; omega, by simp, by simp, ?_⟩, ⟨by omega, by dsimp only; omega, by dsimp only; omega, by omega⟩, ?_, ?_⟩
  · intro V hV
    simp only [List.mem_singleton] at hV
    subst hV
    exact ⟨by dsimp only; omega, by simp⟩
  · intro k _ y hy; cases hy
  · intro j k _ _ _ y z hy; cases hy
set_option maxRecDepth 100000 in
set_option maxHeartbeats 8000000 in
theorem serial_any {W : World} {v u : Value} {L : List (ByteArray × Int)} {A : List ActL} (hL : RowNm W v L) (hA : RowAct W u A) : Calls Try.prog 5 #[v, u] W fun e w' => e = .returned (.bool true) ∧ Below W.heap.size W w' := by
  have HF : ∀ f, Fence.wide.fn f := fun _ => trivial
  have TR : True := trivial
  have HL := Lib.hid hL; have HA := Lib.hid hA
  obtain ⟨a, ac, rfl, ha1, ha2, -, -⟩ := hL
  obtain ⟨b, bc, rfl, hb1, hb2, -, -⟩ := hA
  unfold maxLen at ha2 hb2
  go_enter Try.func5, Try.ntmps5
  go_wp2_with fail
  refine (awake_any W).mono ?_; rintro e w1 ⟨rfl, b1⟩
  have B1 := Lib.hid b1; clear b1
  by_cases hn : L.length ≤ 20
  · by_cases hk : A.length ≤ 60
    · have t1 : ¬ ((L.length : Int) > 20) := by omega
      have t2 : ¬ ((A.length : Int) > 60) := by omega
      have HNL := Lib.hid hn; have HKL := Lib.hid hk
      go_wp2_with fail
      refine (begin11_any (HL.out.below B1.out) (by have := HNL.out; omega)).mono ?_
      rintro e w2 hp
      rcases hp with ⟨h0, p, bb, m, q, sl, rfl, g1, g2, g3, hpc, hx, -, hb⟩ | ⟨h0, po, rfl, hb⟩
      · have hst := ser_start (W := W) HNL.out B1.out g1 g2 g3 hpc hx hb
        obtain ⟨X, hX⟩ : ∃ X : Bx, (⟨bb, m, 0, q, (newF L .nil).2, []⟩ : Bx) = X := ⟨_, rfl⟩
        have hXb : bb = X.b := by rw [← hX]
        subst hXb
        rw [hX] at hst hx
        obtain ⟨Vs, hVs⟩ : ∃ V : List Ver, [((newR L []).2, [])] = V := ⟨_, rfl⟩
        obtain ⟨rs, hrs⟩ : ∃ r : Nat → R5, (fun _ => (0, sl0, sl0, sl0, false)) = r := ⟨_, rfl⟩
        rw [hVs, hrs] at hst
        have HST := Lib.hid hst
        have B2 := Lib.hid (Below.step B1.out hb)
        have c0 := hst.1.box
        clear h0 g1 g2 g3 hpc hx hb hst hX hVs hrs
        go_wp2_with fail
        refine (List_any HST.out.2.1 (by have h1 := HST.out.2.2.2.1.1; have h2 := Tr.sz_eq X.T; omega)).mono ?_
        rintro e w3 ⟨now, rfl, hnow, hb3⟩
        obtain ⟨na, nc, rfl⟩ := hnow.len
        have HB3 := Lib.hid hb3; have HNOW := Lib.hid hnow
        obtain ⟨w4, hw4⟩ : ∃ w, w3.alloc (.cells #[.slice none 0 0, .slice none 0 0, .slice none 0 0, .slice none 0 0] 62) = w := ⟨_, rfl⟩
        have hb4 : Below w3.heap.size w3 w4 := by rw [← hw4]; exact (Below.refl _ _).alloc (Nat.le_refl _) _
        obtain ⟨w5, hw5⟩ : ∃ w, w4.alloc (.cells #[.slice none 0 0, .slice none 0 0, .slice none 0 0, .slice none 0 0] 64) = w := ⟨_, rfl⟩
        have hb5 : Below w4.heap.size w4 w5 := by rw [← hw5]; exact (Below.refl _ _).alloc (Nat.le_refl _) _
        have hlo3 : W.heap.size ≤ w3.heap.size := Nat.le_trans B2.out.size hb3.size
        have hD : Half W.heap.size w4 w3.heap.size 62 29 4 encAc (fun _ => sl0) (fun _ => []) := by rw [← hw4]; exact half_start _ _ _ _ _ _ hlo3
        have hE : Half W.heap.size w5 w4.heap.size 64 3 1 encIn (fun _ => sl0) (fun _ => []) := by rw [← hw5]; exact half_start _ _ _ _ _ _ (Nat.le_trans hlo3 hb4.size)
        have B5 := Lib.hid (Below.step (Below.step (Below.step B2.out hb3) hb4) hb5)
        have HREL : Hid (SerRel W.heap.size p sl rs w3.heap.size w4.heap.size 0 (.slice na X.T.toList.length nc) w5) := Lib.hid
          ⟨X, Vs, fun _ => none, fun _ => sl0, fun _ => sl0, HST.out.onT (OnT.of (Below.step (Below.step hb3 hb4) hb5)), hD.keep (KeepT.below hb5) (KeepT.below hb5), hE, ((SlA.mono hnow (Nat.zero_le _)).below hb4).below hb5⟩
        obtain ⟨D, hDn⟩ : ∃ n, w3.heap.size = n := ⟨_, rfl⟩
        obtain ⟨E, hEn⟩ : ∃ n, w4.heap.size = n := ⟨_, rfl⟩
        obtain ⟨nl, hnl⟩ : ∃ n, X.T.toList.length = n := ⟨_, rfl⟩
        rw [hDn, hEn, hnl] at HREL
        rw [hnl]
        have HW4 := Lib.hid hw4; have HW5 := Lib.hid hw5; have HDN := Lib.hid hDn; have HEN := Lib.hid hEn
        clear hnow hb3 hb4 hb5 hlo3 hD hE hnl
        go_wp2_with fail
        clear hw4 hw5 hDn hEn
        obtain ⟨lo, hlo⟩ : ∃ n, W.heap.size = n := ⟨_, rfl⟩
        have HLO := Lib.hid hlo
        rw [hlo] at HREL
        clear hlo
        go_loopw [8, 54] (fun now c wr => ∃ i : Nat, i ≤ A.length ∧ c = .int .i64 i ∧ SerRel lo p sl rs D E i now wr ∧ Below W.heap.size W wr) (fun _ c _ => A.length - (intOf c).toNat)
        case atStart => exact ⟨0, Nat.zero_le _, rfl, HREL.out, B5.out⟩
        case round =>
          obtain ⟨i, hi, rfl, hRel, hbw⟩ := hrel
          have HR := Lib.hid hRel; have HBW := Lib.hid hbw
          clear hRel hbw
          by_cases hlt : i < A.length
          · have hi3 : (i : Int) < (A.length : Int) := by omega
            have hi4 : (0 : Int) ≤ (i : Int) := by omega
            obtain ⟨a', cap', he, -, -, hss, hc⟩ := (HA.out.below HBW.out)
            simp only [Value.slice.injEq] at he
            obtain ⟨rfl, -, rfl⟩ := he
            obtain ⟨b', rfl, m0, m1, m2, m3⟩ := hc i hlt
            obtain ⟨q0, q1, q2⟩ := hss _ (List.getElem_mem hlt)
            generalize A[i] = y at *
            obtain ⟨kd, tx, s, id⟩ := y
            dsimp only at m0 m1 m2 m3 q0 q1 q2
            obtain ⟨g, hg⟩ : ∃ n, wr.heap.size = n := ⟨_, rfl⟩
            obtain ⟨wy, hwy⟩ : ∃ w, wr.alloc (.cells #[.int .u8 0, .int .u8 0, .string ⟨#[]⟩, .int .i64 0] 29) = w := ⟨_, rfl⟩
            have ny : wy.heap[g]? = some (.cells #[.int .u8 0, .int .u8 0, .string ⟨#[]⟩, .int .i64 0] 29 (0, 0)) := by rw [← hwy, ← hg]; exact heap_new _ _
            have hby : Below wr.heap.size wr wy := by rw [← hwy]; exact (Below.refl _ _).alloc (Nat.le_refl _) _
            have y0 : wy.cell? ⟨g, 0, none⟩ = some (.int .u8 0) := by simp [World.cell?, ny]
            have y1 : wy.cell? ⟨g, 1, none⟩ = some (.int .u8 0) := by simp [World.cell?, ny]
            have y2 : wy.cell? ⟨g, 2, none⟩ = some (.string ⟨#[]⟩) := by simp [World.cell?, ny]
            have y3 : wy.cell? ⟨g, 3, none⟩ = some (.int .i64 0) := by simp [World.cell?, ny]
            have f0 : wy.frozen? ⟨g, 0, none⟩ = false := by simp [World.frozen?, ny]
            have f1 : wy.frozen? ⟨g, 1, none⟩ = false := by simp [World.frozen?, ny]
            have f2 : wy.frozen? ⟨g, 2, none⟩ = false := by simp [World.frozen?, ny]
            have f3 : wy.frozen? ⟨g, 3, none⟩ = false := by simp [World.frozen?, ny]
            obtain ⟨w6, hw6⟩ : ∃ w, (((wy.setCell ⟨g, 0, none⟩ (.int .u8 (kd : Int))).setCell ⟨g, 1, none⟩ (.int .u8 (tx : Int))).setCell ⟨g, 2, none⟩ (.string s)).setCell ⟨g, 3, none⟩ (.int .i64 id) = w := ⟨_, rfl⟩
            have hb6 : Below wr.heap.size wr w6 := by rw [← hw6]; exact (((hby.setCell (p := ⟨g, 0, none⟩) (by rw [← hg]; exact Nat.le_refl _) _).setCell (p := ⟨g, 1, none⟩) (by rw [← hg]; exact Nat.le_refl _) _).setCell (p := ⟨g, 2, none⟩) (by rw [← hg]; exact Nat.le_refl _) _).setCell (p := ⟨g, 3, none⟩) (by rw [← hg]; exact Nat.le_refl _) _
            have n6 : w6.heap[g]? = some (.cells #[.int .u8 (kd : Int), .int .u8 (tx : Int), .string s, .int .i64 id] 29 (0, 0)) := by
              rw [← hw6]; exact heap_set0 (.int .i64 id) (heap_set0 (.string s) (heap_set0 (.int .u8 (tx : Int)) (heap_set0 (.int .u8 (kd : Int)) ny)))
            have x0 : w6.cell? ⟨g, 0, none⟩ = some (.int .u8 (kd : Int)) := by simp [World.cell?, n6]
            have x1 : w6.cell? ⟨g, 1, none⟩ = some (.int .u8 (tx : Int)) := by simp [World.cell?, n6]
            have x2 : w6.cell? ⟨g, 2, none⟩ = some (.string s) := by simp [World.cell?, n6]
            have x3 : w6.cell? ⟨g, 3, none⟩ = some (.int .i64 id) := by simp [World.cell?, n6]
            have HB6 := Lib.hid hb6; have HN6 := Lib.hid n6; have HQ := Lib.hid (show OkA ((kd, tx, s, id), 0) from ⟨q0, q1, q2⟩)
            have hkd : kd < 256 := q0
            have htx : tx < 256 := q1
            have HI := Lib.hid hi
            have HIK := Lib.hid (show i ≤ 60 by have := HKL.out; omega)
            have HG := Lib.hid hg
            obtain ⟨X1, Vs1, f, va, vs, hSA, hHD, hHE, hnow⟩ := HR.out
            have HS6 := Lib.hid (hSA.onT (OnT.of hb6)); have HD6 := Lib.hid (hHD.keep (KeepT.below hb6) (KeepT.below hb6)); have HE6 := Lib.hid (hHE.keep (KeepT.below hb6) (KeepT.below hb6)); have HNW6 := Lib.hid (SlA.below hnow hb6)
            obtain ⟨ua, uc, hu⟩ := hnow.len
            obtain ⟨un, hun⟩ : ∃ n, X1.T.toList.length = n := ⟨_, rfl⟩
            rw [hun] at hu
            have HUN := Lib.hid hun
            have HGO : Hid (∀ k, k < 4 → ∀ b, (slV (va k)).ownBlock = some b → b < g) := Lib.hid (fun k hk b hb => by rw [← HG.out]; exact (hHD.2.2.1 k hk).lt hb)
            subst hu
            clear ny hby hb6 n6 hss hc q0 q1 q2 hSA hHD hHE hnow hi hun
            obtain ⟨k, hkx⟩ : ∃ k, tx % 4 = k := ⟨_, rfl⟩
            have hk4 : k < 4 := by omega
            have hkk : (tx : Int) % 4 = (k : Int) := by omega
            have hki : (k : Int) < 4 := by omega
            have hk0 : (0 : Int) ≤ (k : Int) := by omega
            have c1 : w6.cell? ⟨p, 0, none⟩ = some (.pointer (some ⟨X1.b, 0, none⟩)) := HS6.out.1.box
            have c2 : w6.cell? ⟨p, 2 + k, none⟩ = some (.pointer (tsS f k)) := HS6.out.1.txn hk4
            have hcases : f k = none ∨ (∃ x t Al, f k = some (x, t, Al) ∧ (kd : Int) % 6 = 0) ∨ (∃ x t Al, f k = some (x, t, Al) ∧ (kd : Int) % 6 = 1) ∨ (∃ x t Al, f k = some (x, t, Al) ∧ (kd : Int) % 6 = 2) ∨ (∃ x t Al, f k = some (x, t, Al) ∧ (kd : Int) % 6 = 3) ∨ (∃ x t Al, f k = some (x, t, Al) ∧ (kd : Int) % 6 = 4) ∨ ∃ x t Al, f k = some (x, t, Al) ∧ (kd : Int) % 6 = 5 := by
              cases hf : f k with
              | none => exact .inl rfl
              | some y =>
                obtain ⟨x, t, Al⟩ := y
                have h6 : (kd : Int) % 6 = 0 ∨ (kd : Int) % 6 = 1 ∨ (kd : Int) % 6 = 2 ∨ (kd : Int) % 6 = 3 ∨ (kd : Int) % 6 = 4 ∨ (kd : Int) % 6 = 5 := by omega
                rcases h6 with h | h | h | h | h | h
                · exact .inr (.inl ⟨x, t, Al, rfl, h⟩)
                · exact .inr (.inr (.inl ⟨x, t, Al, rfl, h⟩))
                · exact .inr (.inr (.inr (.inl ⟨x, t, Al, rfl, h⟩)))
                · exact .inr (.inr (.inr (.inr (.inl ⟨x, t, Al, rfl, h⟩))))
                · exact .inr (.inr (.inr (.inr (.inr (.inl ⟨x, t, Al, rfl, h⟩)))))
                · exact .inr (.inr (.inr (.inr (.inr (.inr ⟨x, t, Al, rfl, h⟩)))))
            rcases hcases with hf | ⟨x, t, Al, hf, hkind⟩ | ⟨x, t, Al, hf, hkind⟩ | ⟨x, t, Al, hf, hkind⟩ | ⟨x, t, Al, hf, hkind⟩ | ⟨x, t, Al, hf, hkind⟩ | ⟨x, t, Al, hf, hkind⟩
            · as_aux_lemma =>
              have c3 : w6.cell? ⟨p, 2 + k, none⟩ = some (.pointer none) := by rw [c2]; unfold tsS; rw [hf]; rfl
              clear c2
              go_wp2_with fail
              have S0 : w6.drew.cell? ⟨p, 0, none⟩ = some (.pointer (some ⟨X1.b, 0, none⟩)) := c1
              have hbd : Below w6.heap.size w6 w6.drew := (Below.refl _ _).drew
              have HS7 := Lib.hid (HS6.out.onT (OnT.of hbd)); have HD7 := Lib.hid (Half.keep HD6.out (KeepT.below hbd) (KeepT.below hbd)); have HE7 := Lib.hid (Half.keep HE6.out (KeepT.below hbd) (KeepT.below hbd)); have HNW7 := Lib.hid (SlA.below HNW6.out hbd)
              have HBD := Lib.hid hbd
              clear x0 x1 x2 x3 y0 y1 y2 y3 f0 f1 f2 f3 c1 c3 hwy hw6 hbd m0 m1 m2 m3
              refine wp_region_anyH (fun w => w.cell? ⟨p, 0, none⟩ = some (.pointer (some ⟨X1.b, 0, none⟩))) (by kernel_rfl) ?_
              refine AnyH.take (i := 0) (d := some 74) (v := ?_) (by kernel_rfl) rfl rfl HF (fun _ _ _ h => h) (.inl ⟨by rfl, ?_⟩) (by first | assumption | rfl) ?_
              rotate_left
              · intro w hS; try subst hS
                go_simp; try with_reducible rfl
              try simp only [Act.put, List.setIfInBounds_toArray, List.set_cons_zero, List.set_cons_succ]
              refine AnyH.take (i := 1) (d := some 75) (v := ?_) (by kernel_rfl) rfl rfl HF (fun _ _ _ h => h) (.inl ⟨by rfl, ?_⟩) (by first | assumption | rfl) ?_
              rotate_left
              · intro w hS; try subst hS
                go_simp; try with_reducible rfl
              try simp only [Act.put, List.setIfInBounds_toArray, List.set_cons_zero, List.set_cons_succ]
              refine AnyH.take (i := 2) (d := some 76) (v := ?_) (by kernel_rfl) rfl rfl HF (fun _ _ _ h => h) (.inl ⟨by rfl, ?_⟩) (by first | assumption | rfl) ?_
              rotate_left
              · intro w hS; try subst hS
                go_simp; try with_reducible rfl
              try simp only [Act.put, List.setIfInBounds_toArray, List.set_cons_zero, List.set_cons_succ]
              refine AnyH.take (i := 3) (d := some 77) (v := ?_) (by kernel_rfl) rfl rfl HF (fun _ _ _ h => h) (.inl ⟨by rfl, ?_⟩) (by first | assumption | rfl) ?_
              rotate_left
              · intro w hS; try subst hS
                go_simp; try with_reducible rfl
              try simp only [Act.put, List.setIfInBounds_toArray, List.set_cons_zero, List.set_cons_succ]
              refine AnyH.take (i := 4) (d := some 78) (v := ?_) (by kernel_rfl) rfl rfl HF (fun _ _ _ h => h) (.inl ⟨by rfl, ?_⟩) (by first | assumption | rfl) ?_
              rotate_left
              · intro w hS; try subst hS
                go_simp; try with_reducible rfl
              try simp only [Act.put, List.setIfInBounds_toArray, List.set_cons_zero, List.set_cons_succ]
              refine AnyH.take (i := 5) (d := some 79) (v := ?_) (by kernel_rfl) rfl rfl HF (fun _ _ _ h => h) (.inl ⟨by rfl, ?_⟩) (by first | assumption | rfl) ?_
              rotate_left
              · intro w hS; try subst hS
                go_simp; try with_reducible rfl
              try simp only [Act.put, List.setIfInBounds_toArray, List.set_cons_zero, List.set_cons_succ]
              refine AnyH.take (i := 6) (d := some 80) (v := ?_) (by kernel_rfl) rfl rfl HF (fun _ _ _ h => h) (.inl ⟨by rfl, ?_⟩) (by first | assumption | rfl) ?_
              rotate_left
              · intro w hS; try subst hS
                go_simp; try with_reducible rfl
              try simp only [Act.put, List.setIfInBounds_toArray, List.set_cons_zero, List.set_cons_succ]
              refine AnyH.take (i := 7) (d := some 81) (v := ?_) (by kernel_rfl) rfl rfl HF (fun _ _ _ h => h) (.inl ⟨by rfl, ?_⟩) (by first | assumption | rfl) ?_
              rotate_left
              · intro w hS; try subst hS
                go_simp; try with_reducible rfl
              try simp only [Act.put, List.setIfInBounds_toArray, List.set_cons_zero, List.set_cons_succ]
              refine AnyH.take (i := 9) (d := some 83) (v := ?_) (by kernel_rfl) rfl rfl HF (fun _ _ _ h => h) (.inl ⟨by rfl, ?_⟩) (by first | assumption | rfl) ?_
              rotate_left
              · intro w hS; try subst hS
                go_simp; try with_reducible rfl
              try simp only [Act.put, List.setIfInBounds_toArray, List.set_cons_zero, List.set_cons_succ]
              refine AnyH.take (i := 13) (d := some 85) (v := ?_) (by kernel_rfl) rfl rfl HF (fun _ _ _ h => h) (.inl ⟨by rfl, ?_⟩) (by first | assumption | rfl) ?_
              rotate_left
              · intro w hS; try subst hS
                go_simp; try with_reducible rfl
              try simp only [Act.put, List.setIfInBounds_toArray, List.set_cons_zero, List.set_cons_succ]
              refine AnyH.take (i := 14) (d := some 86) (v := ?_) (by kernel_rfl) rfl rfl HF (fun _ _ _ h => h) (.inl ⟨by rfl, ?_⟩) (by first | assumption | rfl) ?_
              rotate_left
              · intro w hS; try subst hS
                go_simp; try with_reducible rfl
              try simp only [Act.put, List.setIfInBounds_toArray, List.set_cons_zero, List.set_cons_succ]
              refine AnyH.one (i := 8) (by kernel_rfl) (by kernel_rfl) rfl HF (by rfl) (fun K hK => ?_)
              go_simp
              first | ((with_reducible refine And.intro ?hdep ?_); (case hdep => first | rfl | (intro h; cases h))) | skip
              refine callsIn_wide.2 ((tx_begin HS7.out.2.1).mono ?_)
              rintro e w7 ⟨t7, r7, c7, rfl, g1, g2, g3, hx7, hX7, -, hb7⟩
              obtain ⟨hfr1, hfr2, hfr3⟩ := HS7.out.fresh (x := ⟨t7, r7, c7, X1.N, X1.q, X1.T, false, [], []⟩) g1 g2 g3
              have HX7 := Lib.hid hx7; have HFR := Lib.hid (And.intro hfr1 (And.intro hfr2 hfr3))
              have HS8 := Lib.hid (HS7.out.onT (OnT.of hb7)); have HD8 := Lib.hid (Half.keep HD7.out (KeepT.below hb7) (KeepT.below hb7)); have HE8 := Lib.hid (Half.keep HE7.out (KeepT.below hb7) (KeepT.below hb7)); have HNW8 := Lib.hid (SlA.below HNW7.out hb7)
              have HB7 := Lib.hid (Below.step HBD.out hb7)
              have S7 : w7.cell? ⟨p, 0, none⟩ = some (.pointer (some ⟨X1.b, 0, none⟩)) := HS8.out.1.box
              clear hx7 hX7 hb7 hfr1 hfr2 hfr3 g1 g2 g3
              obtain ⟨w8, hw8⟩ : ∃ w, w7.setCell ⟨D, k, none⟩ (.slice none 0 0) = w := ⟨_, rfl⟩
              obtain ⟨w9, hw9⟩ : ∃ w, w8.setCell ⟨E, k, none⟩ (.slice none 0 0) = w := ⟨_, rfl⟩
              obtain ⟨w10, hw10⟩ : ∃ w, w9.setCell ⟨p, 2 + k, none⟩ (.pointer (some ⟨t7, 0, none⟩)) = w := ⟨_, rfl⟩
              have d0 := HD8.out.1.cell hk4; have d1 := HD8.out.1.free k
              have o8 : OnT tsL w7 w8 := by rw [← hw8]; exact OnT.set (a := ⟨D, k, none⟩) HD8.out.1 (by decide) _
              have hE8 : LgC w8 E 64 vs := by rw [← hw8]; exact KeepT.setCell (a := ⟨D, k, none⟩) HD8.out.1 (by decide) _ _ _ HE8.out.1
              have e0 := hE8.cell hk4; have e1 := hE8.free k
              have S8 : w8.cell? ⟨p, 0, none⟩ = some (.pointer (some ⟨X1.b, 0, none⟩)) := (HS8.out.onT o8).1.box
              have o9 : OnT tsL w8 w9 := by rw [← hw9]; exact OnT.set (a := ⟨E, k, none⟩) hE8 (by decide) _
              have S9 : w9.cell? ⟨p, 0, none⟩ = some (.pointer (some ⟨X1.b, 0, none⟩)) := ((HS8.out.onT o8).onT o9).1.box
              have p9 := ((HS8.out.onT o8).onT o9).1
              have p0 := p9.txn hk4; have p1 := p9.free (2 + k)
              have S10 : w10.cell? ⟨p, 0, none⟩ = some (.pointer (some ⟨X1.b, 0, none⟩)) := by rw [← hw10]; exact (p9.setTxn hk4 _).box
              have HO9 := Lib.hid (o8.trans o9)
              have HREL1 : Hid (SerRel lo p sl rs D E (i + 1) (.slice ua un uc) w10) := Lib.hid (by
                rw [← hw10, ← hw9, ← hw8]
                exact rel_begin (x := ⟨t7, r7, c7, X1.N, X1.q, X1.T, false, [], []⟩) hk4 HS8.out HD8.out HE8.out HNW8.out HX7.out HFR.out.1 HFR.out.2.1 HFR.out.2.2 rfl HIK.out)
              have HBW10 : Hid (Below W.heap.size W w10) := Lib.hid (by
                have hlo := HS8.out.2.2.2.2.1
                have l1 := HD8.out.2.1; have l2 := HE8.out.2.1
                rw [← HLO.out] at hlo l1 l2
                have hb := Below.step HBW.out (Below.step HB6.out HB7.out)
                rw [← hw10, ← hw9, ← hw8]
                exact ((hb.setCell (p := ⟨D, k, none⟩) l1 _).setCell (p := ⟨E, k, none⟩) l2 _).setCell (p := ⟨p, 2 + k, none⟩) hlo.1 _)
              simp only [slV] at d0 e0
              clear o8 hE8 o9 p9
              refine hK _ _ S7 ?_
              clear hK K
              try simp only [Act.put, List.setIfInBounds_toArray, List.set_cons_zero, List.set_cons_succ]
              refine AnyH.one (i := 10) (by kernel_rfl) (by kernel_rfl) rfl HF (by rfl) (fun K hK => ?_)
              go_simp
              refine hK _ _ S8 ?_
              clear hK K
              try simp only [Act.put, List.setIfInBounds_toArray, List.set_cons_zero, List.set_cons_succ]
              refine AnyH.take (i := 11) (d := some 84) (v := ?_) (by kernel_rfl) rfl rfl HF (fun _ _ _ h => h) (.inl ⟨by rfl, ?_⟩) (by first | assumption | rfl) ?_
              rotate_left
              · intro w hS; try subst hS
                go_simp; try with_reducible rfl
              try simp only [Act.put, List.setIfInBounds_toArray, List.set_cons_zero, List.set_cons_succ]
              refine AnyH.one (i := 12) (by kernel_rfl) (by kernel_rfl) rfl HF (by rfl) (fun K hK => ?_)
              go_simp
              refine hK _ _ S9 ?_
              clear hK K
              try simp only [Act.put, List.setIfInBounds_toArray, List.set_cons_zero, List.set_cons_succ]
              refine AnyH.take (i := 15) (d := some 87) (v := ?_) (by kernel_rfl) rfl rfl HF (fun _ _ _ h => h) (.inl ⟨by rfl, ?_⟩) (by first | assumption | rfl) ?_
              rotate_left
              · intro w hS; try subst hS
                go_simp; try with_reducible rfl
              try simp only [Act.put, List.setIfInBounds_toArray, List.set_cons_zero, List.set_cons_succ]
              refine AnyH.one (i := 16) (by kernel_rfl) (by kernel_rfl) rfl HF (by rfl) (fun K hK => ?_)
              go_simp
              refine hK _ _ S10 ?_
              clear hK K
              try simp only [Act.put, List.setIfInBounds_toArray, List.set_cons_zero, List.set_cons_succ]
              refine AnyH.done (by kernel_rfl) ?_
              clear S0 S7 S8 S9 S10 d0 d1 e0 e1 p0 p1 hw8 hw9 hw10
              go_wp2_with fail
              go_roundw
              case rel => exact ⟨i + 1, by omega, by go_num, HREL1.out, HBW10.out⟩
              case measure => simp [intOf]; omega
            · as_aux_lemma =>
              have c3 : w6.cell? ⟨p, 2 + k, none⟩ = some (.pointer (some ⟨x.t, 0, none⟩)) := by rw [c2]; unfold tsS; rw [hf]; rfl
              clear c2
              go_wp2_with fail
              have S0 : w6.drew.cell? ⟨p, 0, none⟩ = some (.pointer (some ⟨X1.b, 0, none⟩)) := c1
              have hbd : Below w6.heap.size w6 w6.drew := (Below.refl _ _).drew
              have HS7 := Lib.hid (HS6.out.onT (OnT.of hbd)); have HD7 := Lib.hid (Half.keep HD6.out (KeepT.below hbd) (KeepT.below hbd)); have HE7 := Lib.hid (Half.keep HE6.out (KeepT.below hbd) (KeepT.below hbd)); have HNW7 := Lib.hid (SlA.below HNW6.out hbd)
              have HBD := Lib.hid hbd
              clear x0 x1 x2 x3 y0 y1 y2 y3 f0 f1 f2 f3 c1 c3 hwy hw6 hbd m0 m1 m2 m3
              refine wp_region_anyH (fun w => w.cell? ⟨p, 0, none⟩ = some (.pointer (some ⟨X1.b, 0, none⟩))) (by kernel_rfl) ?_
              refine AnyH.take (i := 0) (d := some 74) (v := ?_) (by kernel_rfl) rfl rfl HF (fun _ _ _ h => h) (.inl ⟨by rfl, ?_⟩) (by first | assumption | rfl) ?_
              rotate_left
              · intro w hS; try subst hS
                go_simp; try with_reducible rfl
              try simp only [Act.put, List.setIfInBounds_toArray, List.set_cons_zero, List.set_cons_succ]
              refine AnyH.take (i := 1) (d := some 75) (v := ?_) (by kernel_rfl) rfl rfl HF (fun _ _ _ h => h) (.inl ⟨by rfl, ?_⟩) (by first | assumption | rfl) ?_
              rotate_left
              · intro w hS; try subst hS
                go_simp; try with_reducible rfl
              try simp only [Act.put, List.setIfInBounds_toArray, List.set_cons_zero, List.set_cons_succ]
              refine AnyH.take (i := 2) (d := some 76) (v := ?_) (by kernel_rfl) rfl rfl HF (fun _ _ _ h => h) (.inl ⟨by rfl, ?_⟩) (by first | assumption | rfl) ?_
              rotate_left
              · intro w hS; try subst hS
                go_simp; try with_reducible rfl
              try simp only [Act.put, List.setIfInBounds_toArray, List.set_cons_zero, List.set_cons_succ]
              refine AnyH.take (i := 3) (d := some 77) (v := ?_) (by kernel_rfl) rfl rfl HF (fun _ _ _ h => h) (.inl ⟨by rfl, ?_⟩) (by first | assumption | rfl) ?_
              rotate_left
              · intro w hS; try subst hS
                go_simp; try with_reducible rfl
              try simp only [Act.put, List.setIfInBounds_toArray, List.set_cons_zero, List.set_cons_succ]
              refine AnyH.take (i := 4) (d := some 78) (v := ?_) (by kernel_rfl) rfl rfl HF (fun _ _ _ h => h) (.inl ⟨by rfl, ?_⟩) (by first | assumption | rfl) ?_
              rotate_left
              · intro w hS; try subst hS
                go_simp; try with_reducible rfl
              try simp only [Act.put, List.setIfInBounds_toArray, List.set_cons_zero, List.set_cons_succ]
              refine AnyH.take (i := 5) (d := some 79) (v := ?_) (by kernel_rfl) rfl rfl HF (fun _ _ _ h => h) (.inl ⟨by rfl, ?_⟩) (by first | assumption | rfl) ?_
              rotate_left
              · intro w hS; try subst hS
                go_simp; try with_reducible rfl
              try simp only [Act.put, List.setIfInBounds_toArray, List.set_cons_zero, List.set_cons_succ]
              refine AnyH.take (i := 6) (d := some 80) (v := ?_) (by kernel_rfl) rfl rfl HF (fun _ _ _ h => h) (.inl ⟨by rfl, ?_⟩) (by first | assumption | rfl) ?_
              rotate_left
              · intro w hS; try subst hS
                go_simp; try with_reducible rfl
              try simp only [Act.put, List.setIfInBounds_toArray, List.set_cons_zero, List.set_cons_succ]
              refine AnyH.take (i := 7) (d := some 81) (v := ?_) (by kernel_rfl) rfl rfl HF (fun _ _ _ h => h) (.inl ⟨by rfl, ?_⟩) (by first | assumption | rfl) ?_
              rotate_left
              · intro w hS; try subst hS
                go_simp; try with_reducible rfl
              try simp only [Act.put, List.setIfInBounds_toArray, List.set_cons_zero, List.set_cons_succ]
              refine AnyH.take (i := 9) (d := some 83) (v := ?_) (by kernel_rfl) rfl rfl HF (fun _ _ _ h => h) (.inl ⟨by rfl, ?_⟩) (by first | assumption | rfl) ?_
              rotate_left
              · intro w hS; try subst hS
                go_simp; try with_reducible rfl
              try simp only [Act.put, List.setIfInBounds_toArray, List.set_cons_zero, List.set_cons_succ]
              refine AnyH.take (i := 13) (d := some 85) (v := ?_) (by kernel_rfl) rfl rfl HF (fun _ _ _ h => h) (.inl ⟨by rfl, ?_⟩) (by first | assumption | rfl) ?_
              rotate_left
              · intro w hS; try subst hS
                go_simp; try with_reducible rfl
              try simp only [Act.put, List.setIfInBounds_toArray, List.set_cons_zero, List.set_cons_succ]
              refine AnyH.take (i := 14) (d := some 86) (v := ?_) (by kernel_rfl) rfl rfl HF (fun _ _ _ h => h) (.inl ⟨by rfl, ?_⟩) (by first | assumption | rfl) ?_
              rotate_left
              · intro w hS; try subst hS
                go_simp; try with_reducible rfl
              try simp only [Act.put, List.setIfInBounds_toArray, List.set_cons_zero, List.set_cons_succ]
              refine AnyH.one (i := 8) (by kernel_rfl) (by kernel_rfl) rfl HF (by rfl) (fun K hK => ?_)
              go_simp
              first | ((with_reducible refine And.intro ?hdep ?_); (case hdep => first | rfl | (intro h; cases h))) | skip
              refine callsIn_wide.2 ((tx_begin HS7.out.2.1).mono ?_)
              rintro e w7 ⟨t7, r7, c7, rfl, g1, g2, g3, hx7, hX7, -, hb7⟩
              obtain ⟨hfr1, hfr2, hfr3⟩ := HS7.out.fresh (x := ⟨t7, r7, c7, X1.N, X1.q, X1.T, false, [], []⟩) g1 g2 g3
              have HX7 := Lib.hid hx7; have HFR := Lib.hid (And.intro hfr1 (And.intro hfr2 hfr3))
              have HS8 := Lib.hid (HS7.out.onT (OnT.of hb7)); have HD8 := Lib.hid (Half.keep HD7.out (KeepT.below hb7) (KeepT.below hb7)); have HE8 := Lib.hid (Half.keep HE7.out (KeepT.below hb7) (KeepT.below hb7)); have HNW8 := Lib.hid (SlA.below HNW7.out hb7)
              have HB7 := Lib.hid (Below.step HBD.out hb7)
              have S7 : w7.cell? ⟨p, 0, none⟩ = some (.pointer (some ⟨X1.b, 0, none⟩)) := HS8.out.1.box
              clear hx7 hX7 hb7 hfr1 hfr2 hfr3 g1 g2 g3
              obtain ⟨w8, hw8⟩ : ∃ w, w7.setCell ⟨D, k, none⟩ (.slice none 0 0) = w := ⟨_, rfl⟩
              obtain ⟨w9, hw9⟩ : ∃ w, w8.setCell ⟨E, k, none⟩ (.slice none 0 0) = w := ⟨_, rfl⟩
              obtain ⟨w10, hw10⟩ : ∃ w, w9.setCell ⟨p, 2 + k, none⟩ (.pointer (some ⟨t7, 0, none⟩)) = w := ⟨_, rfl⟩
              have d0 := HD8.out.1.cell hk4; have d1 := HD8.out.1.free k
              have o8 : OnT tsL w7 w8 := by rw [← hw8]; exact OnT.set (a := ⟨D, k, none⟩) HD8.out.1 (by decide) _
              have hE8 : LgC w8 E 64 vs := by rw [← hw8]; exact KeepT.setCell (a := ⟨D, k, none⟩) HD8.out.1 (by decide) _ _ _ HE8.out.1
              have e0 := hE8.cell hk4; have e1 := hE8.free k
              have S8 : w8.cell? ⟨p, 0, none⟩ = some (.pointer (some ⟨X1.b, 0, none⟩)) := (HS8.out.onT o8).1.box
              have o9 : OnT tsL w8 w9 := by rw [← hw9]; exact OnT.set (a := ⟨E, k, none⟩) hE8 (by decide) _
              have S9 : w9.cell? ⟨p, 0, none⟩ = some (.pointer (some ⟨X1.b, 0, none⟩)) := ((HS8.out.onT o8).onT o9).1.box
              have p9 := ((HS8.out.onT o8).onT o9).1
              have p0 := p9.txn hk4; have p1 := p9.free (2 + k)
              have S10 : w10.cell? ⟨p, 0, none⟩ = some (.pointer (some ⟨X1.b, 0, none⟩)) := by rw [← hw10]; exact (p9.setTxn hk4 _).box
              have HO9 := Lib.hid (o8.trans o9)
              have HREL1 : Hid (SerRel lo p sl rs D E (i + 1) (.slice ua un uc) w10) := Lib.hid (by
                rw [← hw10, ← hw9, ← hw8]
                exact rel_begin (x := ⟨t7, r7, c7, X1.N, X1.q, X1.T, false, [], []⟩) hk4 HS8.out HD8.out HE8.out HNW8.out HX7.out HFR.out.1 HFR.out.2.1 HFR.out.2.2 rfl HIK.out)
              have HBW10 : Hid (Below W.heap.size W w10) := Lib.hid (by
                have hlo := HS8.out.2.2.2.2.1
                have l1 := HD8.out.2.1; have l2 := HE8.out.2.1
                rw [← HLO.out] at hlo l1 l2
                have hb := Below.step HBW.out (Below.step HB6.out HB7.out)
                rw [← hw10, ← hw9, ← hw8]
                exact ((hb.setCell (p := ⟨D, k, none⟩) l1 _).setCell (p := ⟨E, k, none⟩) l2 _).setCell (p := ⟨p, 2 + k, none⟩) hlo.1 _)
              simp only [slV] at d0 e0
              clear o8 hE8 o9 p9
              refine hK _ _ S7 ?_
              clear hK K
              try simp only [Act.put, List.setIfInBounds_toArray, List.set_cons_zero, List.set_cons_succ]
              refine AnyH.one (i := 10) (by kernel_rfl) (by kernel_rfl) rfl HF (by rfl) (fun K hK => ?_)
              go_simp
              refine hK _ _ S8 ?_
              clear hK K
              try simp only [Act.put, List.setIfInBounds_toArray, List.set_cons_zero, List.set_cons_succ]
              refine AnyH.take (i := 11) (d := some 84) (v := ?_) (by kernel_rfl) rfl rfl HF (fun _ _ _ h => h) (.inl ⟨by rfl, ?_⟩) (by first | assumption | rfl) ?_
              rotate_left
              · intro w hS; try subst hS
                go_simp; try with_reducible rfl
              try simp only [Act.put, List.setIfInBounds_toArray, List.set_cons_zero, List.set_cons_succ]
              refine AnyH.one (i := 12) (by kernel_rfl) (by kernel_rfl) rfl HF (by rfl) (fun K hK => ?_)
              go_simp
              refine hK _ _ S9 ?_
              clear hK K
              try simp only [Act.put, List.setIfInBounds_toArray, List.set_cons_zero, List.set_cons_succ]
              refine AnyH.take (i := 15) (d := some 87) (v := ?_) (by kernel_rfl) rfl rfl HF (fun _ _ _ h => h) (.inl ⟨by rfl, ?_⟩) (by first | assumption | rfl) ?_
              rotate_left
              · intro w hS; try subst hS
                go_simp; try with_reducible rfl
              try simp only [Act.put, List.setIfInBounds_toArray, List.set_cons_zero, List.set_cons_succ]
              refine AnyH.one (i := 16) (by kernel_rfl) (by kernel_rfl) rfl HF (by rfl) (fun K hK => ?_)
              go_simp
              refine hK _ _ S10 ?_
              clear hK K
              try simp only [Act.put, List.setIfInBounds_toArray, List.set_cons_zero, List.set_cons_succ]
              refine AnyH.done (by kernel_rfl) ?_
              clear S0 S7 S8 S9 S10 d0 d1 e0 e1 p0 p1 hw8 hw9 hw10
              go_wp2_with fail
              go_roundw
              case rel => exact ⟨i + 1, by omega, by go_num, HREL1.out, HBW10.out⟩
              case measure => simp [intOf]; omega
            · as_aux_lemma =>
              have c3 : w6.cell? ⟨p, 2 + k, none⟩ = some (.pointer (some ⟨x.t, 0, none⟩)) := by rw [c2]; unfold tsS; rw [hf]; rfl
              clear c2
              have HFK := Lib.hid hf
              have HC := Lib.hid (ser_get HS6.out HIK.out hk4 hf (kd := kd) (tx := tx) (by omega) s id HQ.out)
              obtain ⟨⟨gv, gc⟩, hgr⟩ : ∃ r, getR x.d x.ch x.T s = r := ⟨_, rfl⟩
              rw [hgr] at HC
              dsimp only at HC
              clear hgr hf
              go_wp2_with fail
              refine HC.out.mono ?_
              rintro e w7 ⟨rfl, ⟨t7, hS7⟩, hR7⟩
              have HS7 := Lib.hid hS7; have HR7 := Lib.hid hR7
              have HD7 := Lib.hid (Half.keep HD6.out (hR7.2 _ (by decide) (by decide)) (hR7.2 _ (by decide) (by decide))); have HE7 := Lib.hid (Half.keep HE6.out (hR7.2 _ (by decide) (by decide)) (hR7.2 _ (by decide) (by decide))); have HNW7 := Lib.hid (SlA.keep HNW6.out (hR7.2 _ (by decide) (by decide)))
              have HN7 : Hid (w7.heap[g]? = some (.cells #[.int .u8 (kd : Int), .int .u8 (tx : Int), .string s, .int .i64 id] 29 (0, 0))) := Lib.hid (hR7.2 _ (by decide) (by decide) _ _ _ HN6.out)
              clear hS7 hR7 x0 x1 x2 x3 y0 y1 y2 y3 f0 f1 f2 f3 c1 c3 hwy hw6 m0 m1 m2 m3 HC
              go_wp2_with fail
              obtain ⟨w8, hw8⟩ : ∃ w, w7.drew = w := ⟨_, rfl⟩
              have hbd : Below w7.heap.size w7 w8 := by rw [← hw8]; exact (Below.refl _ _).drew
              have HS8 := Lib.hid (HS7.out.onT (OnT.of hbd)); have HD8 := Lib.hid (Half.keep HD7.out (KeepT.below hbd) (KeepT.below hbd)); have HE8 := Lib.hid (Half.keep HE7.out (KeepT.below hbd) (KeepT.below hbd)); have HNW8 := Lib.hid (SlA.below HNW7.out hbd)
              have S8 : SerS D E g va vs kd tx s id w8 := ⟨HD8.out.1, HE8.out.1, KeepT.below hbd _ _ _ HN7.out⟩
              have hlo8 : lo ≤ w8.heap.size := HS8.out.2.2.2.2.1.2.2.2
              have hln : (lgA f k).length ≤ 1000 ∧ (lgI f k).length ≤ 1000 := by
                have := (HS6.out.2.2.2.2.2.1 k hk4 _ HFK.out).2.2.2.2.2.2.2.1
                rw [lgA_at HFK.out, lgI_at HFK.out, List.length_map, List.length_map]
                have := HIK.out; dsimp only at *; omega
              have HLN := Lib.hid hln
              obtain ⟨s1, w9, hrun, hBA, ho9, hb9, hS9⟩ := app_act HD8.out hk4 hlo8 hln.1 S8 (HGO.out k hk4)
              have HRUN1 := Lib.hid hrun; have HBA9 := Lib.hid hBA; have HB89 := Lib.hid hb9
              have ho9' := ho9.mono (ts' := tsL) (by simp)
              have HS9 := Lib.hid (HS8.out.onT ho9'); have HE9 := Lib.hid (Half.keep HE8.out (ho9.keepT (by decide)) (ho9.keepT (by decide))); have HNW9 := Lib.hid (SlA.keep HNW8.out (ho9.keepT (by decide)))
              have hlo9 : lo ≤ w9.heap.size := HS9.out.2.2.2.2.1.2.2.2
              obtain ⟨s2, w10, hrun2, hBI, ho10, hb10⟩ := app_int HE9.out hk4 hlo9 hln.2 (sawG (gv, gc))
              have HRUN2 := Lib.hid hrun2
              have ho10' := ho10.mono (ts' := tsL) (by simp)
              have hS10 := HS9.out.onT ho10'
              have hBA10 := HBA9.out.keep (ho10.keepT (by decide)) (ho10.keepT (by decide))
              have S10 : SerS D E g va vs kd tx s id w10 := SerS.keep hS9 (ho10.keepT (by decide)) (ho10.keepT (by decide)) (ho10.keepT (by decide))
              have HREL1 : Hid (SerRel lo p sl rs D E (i + 1) (.slice ua un uc) ((w10.setCell ⟨D, k, none⟩ (slV s1)).setCell ⟨E, k, none⟩ (slV s2))) := Lib.hid (rel_end hk4 HFK.out hS10 hBA10 hBI (SlA.keep HNW9.out (ho10.keepT (by decide))))
              have HBW10 : Hid (Below W.heap.size W ((w10.setCell ⟨D, k, none⟩ (slV s1)).setCell ⟨E, k, none⟩ (slV s2))) := Lib.hid (by
                have hl := HLO.out
                have l1 := HBA9.out.2.1; have l2 := hBI.2.1
                have hb : Below lo wr w10 := (HB6.out.mono (Nat.le_trans (by rw [← hl]; exact HBW.out.size) (Nat.le_refl _))).trans (HR7.out.1.trans (Below.trans (hbd.mono (HS7.out.2.2.2.2.1.2.2.2)) (hb9.trans hb10)))
                rw [← hl] at hb l1 l2
                exact ((HBW.out.trans hb).setCell (p := ⟨D, k, none⟩) l1 _).setCell (p := ⟨E, k, none⟩) l2 _)
              have dk := hBA10.1.cell hk4; have df := hBA10.1.free k
              have hE11 : LgC (w10.setCell ⟨D, k, none⟩ (slV s1)) E 64 vs := KeepT.setCell (a := ⟨D, k, none⟩) hBA10.1 (by decide) _ _ _ hBI.1
              have ek := hE11.cell hk4; have ef := hE11.free k
              obtain ⟨⟨da, dn, dc⟩, hva⟩ : ∃ z, va k = z := ⟨_, rfl⟩
              obtain ⟨⟨ea, en, ec⟩, hvs⟩ : ∃ z, vs k = z := ⟨_, rfl⟩
              obtain ⟨sa, sn, sc⟩ := s1
              obtain ⟨ra, rn, rc⟩ := s2
              rw [hva] at hrun dk
              rw [hvs] at hrun2 ek
              simp only [slV] at hrun hrun2 dk ek df ef HREL1 HBW10
              obtain ⟨w11, hw11⟩ : ∃ w, w10.setCell ⟨D, k, none⟩ (.slice sa sn sc) = w := ⟨_, rfl⟩
              rw [hw11] at ek ef HREL1 HBW10
              obtain ⟨w12, hw12⟩ : ∃ w, w11.setCell ⟨E, k, none⟩ (.slice ra rn rc) = w := ⟨_, rfl⟩
              rw [hw12] at HREL1 HBW10
              have j0 : ∀ w, SerS D E g va vs kd tx s id w → w.cell? ⟨D, k, none⟩ = some (.slice da dn dc) := fun w h => by have := h.1.cell hk4; rw [hva] at this; exact this
              have j1 : ∀ w, SerS D E g va vs kd tx s id w → w.cell? ⟨E, k, none⟩ = some (.slice ea en ec) := fun w h => by have := h.2.1.cell hk4; rw [hvs] at this; exact this
              have k0 : ∀ w, SerS D E g va vs kd tx s id w → w.cell? ⟨g, 0, none⟩ = some (.int .u8 (kd : Int)) := fun w h => by have := h.2.2; simp [World.cell?, this]
              have k1 : ∀ w, SerS D E g va vs kd tx s id w → w.cell? ⟨g, 1, none⟩ = some (.int .u8 (tx : Int)) := fun w h => by have := h.2.2; simp [World.cell?, this]
              have k2 : ∀ w, SerS D E g va vs kd tx s id w → w.cell? ⟨g, 2, none⟩ = some (.string s) := fun w h => by have := h.2.2; simp [World.cell?, this]
              have k3 : ∀ w, SerS D E g va vs kd tx s id w → w.cell? ⟨g, 3, none⟩ = some (.int .i64 id) := fun w h => by have := h.2.2; simp [World.cell?, this]
              have HR2 := Lib.hid hrun2; have HS9' := Lib.hid hS9
              have hal : SerS D E g va vs kd tx s id (w8.alloc (.cells #[.int .u8 (kd : Int), .int .u8 (tx : Int), .string s, .int .i64 id] 29)) := S8.below ((Below.refl _ _).alloc (Nat.le_refl _) _)
              have HAL := Lib.hid hal
              have hsw : sawG (gv, gc) = IntKind.i64.wrap (IntKind.i64.wrap (gv * 100) + gc) := rfl
              rw [hsw] at hrun2
              clear hBA ho9 hb9 hS9 ho9' hBI ho10 hb10 ho10' hS10 hBA10 hE11 hva hvs hal hln hlo8 hlo9 hsw hbd
              refine wp_region_free (by kernel_rfl) ?_
              rw [hw8]
              clear hw8
              refine free_take (i := 0) (d := some 142) (v := ?_) (by kernel_rfl) rfl rfl HF (fun _ _ _ h => h) (.inl ⟨by rfl, ?_⟩) ?_
              rotate_left
              · intro w _
                go_simp; try with_reducible rfl
              try simp only [Act.put, List.setIfInBounds_toArray, List.set_cons_zero, List.set_cons_succ]
              refine free_take (i := 1) (d := some 143) (v := ?_) (by kernel_rfl) rfl rfl HF (fun _ _ _ h => h) (.inl ⟨by rfl, ?_⟩) ?_
              rotate_left
              · intro w _
                go_simp; try with_reducible rfl
              try simp only [Act.put, List.setIfInBounds_toArray, List.set_cons_zero, List.set_cons_succ]
              refine free_take (i := 2) (d := some 144) (v := ?_) (by kernel_rfl) rfl rfl HF (fun _ _ _ h => h) (.inl ⟨by rfl, ?_⟩) ?_
              rotate_left
              · intro w _
                go_simp; try with_reducible rfl
              try simp only [Act.put, List.setIfInBounds_toArray, List.set_cons_zero, List.set_cons_succ]
              refine free_take (i := 3) (d := some 145) (v := ?_) (by kernel_rfl) rfl rfl HF (fun _ _ _ h => h) (.inl ⟨by rfl, ?_⟩) ?_
              rotate_left
              · intro w _
                go_simp; try with_reducible rfl
              try simp only [Act.put, List.setIfInBounds_toArray, List.set_cons_zero, List.set_cons_succ]
              refine free_take (i := 8) (d := some 150) (v := ?_) (by kernel_rfl) rfl rfl HF (fun _ _ _ h => h) (.inl ⟨by rfl, ?_⟩) ?_
              rotate_left
              · intro w _
                go_simp; try with_reducible rfl
              try simp only [Act.put, List.setIfInBounds_toArray, List.set_cons_zero, List.set_cons_succ]
              refine free_take (i := 9) (d := some 151) (v := ?_) (by kernel_rfl) rfl rfl HF (fun _ _ _ h => h) (.inl ⟨by rfl, ?_⟩) ?_
              rotate_left
              · intro w _
                go_simp; try with_reducible rfl
              try simp only [Act.put, List.setIfInBounds_toArray, List.set_cons_zero, List.set_cons_succ]
              refine free_take (i := 11) (d := some 153) (v := ?_) (by kernel_rfl) rfl rfl HF (fun _ _ _ h => h) (.inl ⟨by rfl, ?_⟩) ?_
              rotate_left
              · intro w _
                go_simp; try with_reducible rfl
              try simp only [Act.put, List.setIfInBounds_toArray, List.set_cons_zero, List.set_cons_succ]
              refine free_take (i := 12) (d := some 154) (v := ?_) (by kernel_rfl) rfl rfl HF (fun _ _ _ h => h) (.inl ⟨by rfl, ?_⟩) ?_
              rotate_left
              · intro w _
                go_simp; try with_reducible rfl
              try simp only [Act.put, List.setIfInBounds_toArray, List.set_cons_zero, List.set_cons_succ]
              refine free_take (i := 13) (d := some 155) (v := ?_) (by kernel_rfl) rfl rfl HF (fun _ _ _ h => h) (.inl ⟨by rfl, ?_⟩) ?_
              rotate_left
              · intro w _
                go_simp; try with_reducible rfl
              try simp only [Act.put, List.setIfInBounds_toArray, List.set_cons_zero, List.set_cons_succ]
              refine AnyL.enter (SerS D E g va vs kd tx s id) ?_
              refine AnyL.take (i := 4) (d := some 146) (v := ?_) (by kernel_rfl) rfl rfl HF (fun _ _ _ h => h) (.inl ⟨by rfl, ?_⟩) (by first | assumption | rfl) ?_
              rotate_left
              · intro w hS; try subst hS
                go_simp; try with_reducible rfl
              try simp only [Act.put, List.setIfInBounds_toArray, List.set_cons_zero, List.set_cons_succ]
              refine AnyL.take (i := 5) (d := some 147) (v := ?_) (by kernel_rfl) rfl rfl HF (fun _ _ _ h => h) (.inl ⟨by rfl, ?_⟩) (by first | assumption | rfl) ?_
              rotate_left
              · intro w hS; try subst hS
                go_simp; try with_reducible rfl
              try simp only [Act.put, List.setIfInBounds_toArray, List.set_cons_zero, List.set_cons_succ]
              refine AnyL.take (i := 10) (d := some 152) (v := ?_) (by kernel_rfl) rfl rfl HF (fun _ _ _ h => h) (.inl ⟨by rfl, ?_⟩) (by first | assumption | rfl) ?_
              rotate_left
              · intro w hS; try subst hS
                go_simp; try with_reducible rfl
              try simp only [Act.put, List.setIfInBounds_toArray, List.set_cons_zero, List.set_cons_succ]
              refine AnyL.one (i := 6) (by kernel_rfl) (by kernel_rfl) rfl HF (by rfl) (fun K hK => ?_)
              go_simp
              refine hK _ _ HAL.out ?_
              clear hK K
              try simp only [Act.put, List.setIfInBounds_toArray, List.set_cons_zero, List.set_cons_succ]
              refine AnyL.one (i := 7) (by kernel_rfl) (by kernel_rfl) rfl HF (by rfl) (fun K hK => ?_)
              simp [execOp, resolve, invoke, builtin, hrun, Result.andThen, Act.eval, Oper.uponIn]
              refine hK _ _ HS9'.out ?_
              clear hK K hrun
              try simp only [Act.put, List.setIfInBounds_toArray, List.set_cons_zero, List.set_cons_succ]
              refine AnyL.take (i := 18) (d := some 160) (v := ?_) (by kernel_rfl) rfl rfl HF (fun _ _ _ h => h) (.inl ⟨by rfl, ?_⟩) (by first | assumption | rfl) ?_
              rotate_left
              · intro w hS; try subst hS
                go_simp; try with_reducible rfl
              try simp only [Act.put, List.setIfInBounds_toArray, List.set_cons_zero, List.set_cons_succ]
              refine AnyL.one (i := 14) (by kernel_rfl) (by kernel_rfl) rfl HF (by rfl) (fun K hK => ?_)
              go_simp
              first | ((with_reducible refine And.intro ?hdep ?_); (case hdep => first | rfl | (intro h; cases h))) | skip
              refine callsIn_wide.2 ((num_any w9 gc).mono ?_)
              rintro e w ⟨rfl, h⟩
              rw [h]
              clear h w
              refine hK _ _ HS9'.out ?_
              clear hK K
              try simp only [Act.put, List.setIfInBounds_toArray, List.set_cons_zero, List.set_cons_succ]
              refine AnyL.take (i := 15) (d := some 157) (v := ?_) (by kernel_rfl) rfl rfl HF (fun _ _ _ h => h) (.inl ⟨by rfl, ?_⟩) (by first | assumption | rfl) ?_
              rotate_left
              · intro w hS; try subst hS
                go_simp; try with_reducible rfl
              try simp only [Act.put, List.setIfInBounds_toArray, List.set_cons_zero, List.set_cons_succ]
              refine AnyL.one (i := 16) (by kernel_rfl) (by kernel_rfl) rfl HF (by rfl) (fun K hK => ?_)
              go_simp
              refine hK _ _ (HS9'.out.below ((Below.refl _ _).alloc (Nat.le_refl _) _)) ?_
              clear hK K
              have hrun := hrun2
              clear hrun2
              try simp only [Act.put, List.setIfInBounds_toArray, List.set_cons_zero, List.set_cons_succ]
              refine AnyL.one (i := 17) (by kernel_rfl) (by kernel_rfl) rfl HF (by rfl) (fun K hK => ?_)
              simp [execOp, resolve, invoke, builtin, hrun, Result.andThen, Act.eval, Oper.uponIn]
              refine hK _ _ S10 ?_
              clear hK K hrun
              try simp only [Act.put, List.setIfInBounds_toArray, List.set_cons_zero, List.set_cons_succ]
              refine AnyL.wall (i := 19) (by kernel_rfl) rfl HF (by rfl) (fun K hK => ?_)
              go_simp
              refine hK (fun _ => True) _ _ ?_
              clear hK K
              try simp only [Act.put, List.setIfInBounds_toArray, List.set_cons_zero, List.set_cons_succ]
              refine AnyL.take (i := 20) (d := some 161) (v := ?_) (by kernel_rfl) rfl rfl HF (fun _ _ _ h => h) (.inl ⟨by rfl, ?_⟩) (by first | assumption | rfl) ?_
              rotate_left
              · intro w hS; try subst hS
                go_simp; try with_reducible rfl
              try simp only [Act.put, List.setIfInBounds_toArray, List.set_cons_zero, List.set_cons_succ]
              refine AnyL.one (i := 21) (by kernel_rfl) (by kernel_rfl) rfl HF (by rfl) (fun K hK => ?_)
              go_simp
              refine hK _ _ trivial ?_
              clear hK K
              try simp only [Act.put, List.setIfInBounds_toArray, List.set_cons_zero, List.set_cons_succ]
              refine AnyL.done (by kernel_rfl) ?_
              clear S8 S10 dk df ek ef j0 j1 k0 k1 k2 k3 hw11 hw12
              go_wp2_with fail
              go_roundw
              case rel => exact ⟨i + 1, by omega, by go_num, HREL1.out, HBW10.out⟩
              case measure => simp [intOf]; omega
            · as_aux_lemma =>
              have c3 : w6.cell? ⟨p, 2 + k, none⟩ = some (.pointer (some ⟨x.t, 0, none⟩)) := by rw [c2]; unfold tsS; rw [hf]; rfl
              clear c2
              have HFK := Lib.hid hf
              obtain ⟨gc, hgr⟩ : ∃ r, (chk x.d s) = r := ⟨_, rfl⟩
              have HGR := Lib.hid hgr
              have HKD := Lib.hid hkind
              clear hgr hf
              go_wp2_with fail
              obtain ⟨w8, hw8⟩ : ∃ w, w6.drew = w := ⟨_, rfl⟩
              have hbd : Below w6.heap.size w6 w8 := by rw [← hw8]; exact (Below.refl _ _).drew
              have HS8 := Lib.hid (HS6.out.onT (OnT.of hbd)); have HD8 := Lib.hid (Half.keep HD6.out (KeepT.below hbd) (KeepT.below hbd)); have HE8 := Lib.hid (Half.keep HE6.out (KeepT.below hbd) (KeepT.below hbd)); have HNW8 := Lib.hid (SlA.below HNW6.out hbd)
              have S8 : SerS D E g va vs kd tx s id w8 := ⟨HD8.out.1, HE8.out.1, KeepT.below hbd _ _ _ HN6.out⟩
              have HBD := Lib.hid hbd
              clear x0 x1 x2 x3 y0 y1 y2 y3 f0 f1 f2 f3 c1 c3 hwy hw6 m0 m1 m2 m3 hbd
              have hlo8 : lo ≤ w8.heap.size := HS8.out.2.2.2.2.1.2.2.2
              have hln : (lgA f k).length ≤ 1000 ∧ (lgI f k).length ≤ 1000 := by
                have := (HS6.out.2.2.2.2.2.1 k hk4 _ HFK.out).2.2.2.2.2.2.2.1
                rw [lgA_at HFK.out, lgI_at HFK.out, List.length_map, List.length_map]
                have := HIK.out; dsimp only at *; omega
              have HLN := Lib.hid hln
              obtain ⟨s1, w9, hrun, hBA, ho9, hb9, hS9⟩ := app_act HD8.out hk4 hlo8 hln.1 S8 (HGO.out k hk4)
              have HBA9 := Lib.hid hBA; have HB89 := Lib.hid hb9
              have ho9' := ho9.mono (ts' := tsL) (by simp)
              have HS9 := Lib.hid (HS8.out.onT ho9'); have HE9 := Lib.hid (Half.keep HE8.out (ho9.keepT (by decide)) (ho9.keepT (by decide))); have HNW9 := Lib.hid (SlA.keep HNW8.out (ho9.keepT (by decide)))
              have HC := Lib.hid (ser_put HS9.out HIK.out hk4 HFK.out (kd := kd) (tx := tx) (.inl (by omega)) s id HQ.out)
              rw [HGR.out] at HC
              obtain ⟨⟨da, dn, dc⟩, hva⟩ : ∃ z, va k = z := ⟨_, rfl⟩
              obtain ⟨⟨ea, en, ec⟩, hvs⟩ : ∃ z, vs k = z := ⟨_, rfl⟩
              have HVS := Lib.hid hvs
              obtain ⟨sa, sn, sc⟩ := s1
              rw [hva] at hrun
              simp only [slV] at hrun
              have j0 : ∀ w, SerS D E g va vs kd tx s id w → w.cell? ⟨D, k, none⟩ = some (.slice da dn dc) := fun w h => by have := h.1.cell hk4; rw [hva] at this; exact this
              have j1 : ∀ w, SerS D E g va vs kd tx s id w → w.cell? ⟨E, k, none⟩ = some (.slice ea en ec) := fun w h => by have := h.2.1.cell hk4; rw [hvs] at this; exact this
              have k0 : ∀ w, SerS D E g va vs kd tx s id w → w.cell? ⟨g, 0, none⟩ = some (.int .u8 (kd : Int)) := fun w h => by have := h.2.2; simp [World.cell?, this]
              have k1 : ∀ w, SerS D E g va vs kd tx s id w → w.cell? ⟨g, 1, none⟩ = some (.int .u8 (tx : Int)) := fun w h => by have := h.2.2; simp [World.cell?, this]
              have k2 : ∀ w, SerS D E g va vs kd tx s id w → w.cell? ⟨g, 2, none⟩ = some (.string s) := fun w h => by have := h.2.2; simp [World.cell?, this]
              have k3 : ∀ w, SerS D E g va vs kd tx s id w → w.cell? ⟨g, 3, none⟩ = some (.int .i64 id) := fun w h => by have := h.2.2; simp [World.cell?, this]
              have HVA := Lib.hid hva
              have HS9' := Lib.hid hS9
              have HAL : Hid (SerS D E g va vs kd tx s id (w8.alloc (.cells #[.int .u8 (kd : Int), .int .u8 (tx : Int), .string s, .int .i64 id] 29))) := Lib.hid (S8.below ((Below.refl _ _).alloc (Nat.le_refl _) _))
              clear hBA ho9 hb9 hS9 ho9' hva hvs hln hlo8
              refine wp_region_free (by kernel_rfl) ?_
              rw [hw8]
              clear hw8
              refine free_take (i := 0) (d := some 165) (v := ?_) (by kernel_rfl) rfl rfl HF (fun _ _ _ h => h) (.inl ⟨by rfl, ?_⟩) ?_
              rotate_left
              · intro w _
                go_simp; try with_reducible rfl
              try simp only [Act.put, List.setIfInBounds_toArray, List.set_cons_zero, List.set_cons_succ]
              refine free_take (i := 1) (d := some 166) (v := ?_) (by kernel_rfl) rfl rfl HF (fun _ _ _ h => h) (.inl ⟨by rfl, ?_⟩) ?_
              rotate_left
              · intro w _
                go_simp; try with_reducible rfl
              try simp only [Act.put, List.setIfInBounds_toArray, List.set_cons_zero, List.set_cons_succ]
              refine free_take (i := 2) (d := some 167) (v := ?_) (by kernel_rfl) rfl rfl HF (fun _ _ _ h => h) (.inl ⟨by rfl, ?_⟩) ?_
              rotate_left
              · intro w _
                go_simp; try with_reducible rfl
              try simp only [Act.put, List.setIfInBounds_toArray, List.set_cons_zero, List.set_cons_succ]
              refine free_take (i := 3) (d := some 168) (v := ?_) (by kernel_rfl) rfl rfl HF (fun _ _ _ h => h) (.inl ⟨by rfl, ?_⟩) ?_
              rotate_left
              · intro w _
                go_simp; try with_reducible rfl
              try simp only [Act.put, List.setIfInBounds_toArray, List.set_cons_zero, List.set_cons_succ]
              refine free_take (i := 8) (d := some 173) (v := ?_) (by kernel_rfl) rfl rfl HF (fun _ _ _ h => h) (.inl ⟨by rfl, ?_⟩) ?_
              rotate_left
              · intro w _
                go_simp; try with_reducible rfl
              try simp only [Act.put, List.setIfInBounds_toArray, List.set_cons_zero, List.set_cons_succ]
              refine free_take (i := 9) (d := some 174) (v := ?_) (by kernel_rfl) rfl rfl HF (fun _ _ _ h => h) (.inl ⟨by rfl, ?_⟩) ?_
              rotate_left
              · intro w _
                go_simp; try with_reducible rfl
              try simp only [Act.put, List.setIfInBounds_toArray, List.set_cons_zero, List.set_cons_succ]
              refine free_take (i := 11) (d := some 176) (v := ?_) (by kernel_rfl) rfl rfl HF (fun _ _ _ h => h) (.inl ⟨by rfl, ?_⟩) ?_
              rotate_left
              · intro w _
                go_simp; try with_reducible rfl
              try simp only [Act.put, List.setIfInBounds_toArray, List.set_cons_zero, List.set_cons_succ]
              refine free_take (i := 12) (d := some 177) (v := ?_) (by kernel_rfl) rfl rfl HF (fun _ _ _ h => h) (.inl ⟨by rfl, ?_⟩) ?_
              rotate_left
              · intro w _
                go_simp; try with_reducible rfl
              try simp only [Act.put, List.setIfInBounds_toArray, List.set_cons_zero, List.set_cons_succ]
              refine free_take (i := 14) (d := some 179) (v := ?_) (by kernel_rfl) rfl rfl HF (fun _ _ _ h => h) (.inl ⟨by rfl, ?_⟩) ?_
              rotate_left
              · intro w _
                go_simp; try with_reducible rfl
              try simp only [Act.put, List.setIfInBounds_toArray, List.set_cons_zero, List.set_cons_succ]
              refine AnyL.enter (SerS D E g va vs kd tx s id) ?_
              refine AnyL.take (i := 4) (d := some 169) (v := ?_) (by kernel_rfl) rfl rfl HF (fun _ _ _ h => h) (.inl ⟨by rfl, ?_⟩) (by first | assumption | rfl) ?_
              rotate_left
              · intro w hS; try subst hS
                go_simp; try with_reducible rfl
              try simp only [Act.put, List.setIfInBounds_toArray, List.set_cons_zero, List.set_cons_succ]
              refine AnyL.take (i := 5) (d := some 170) (v := ?_) (by kernel_rfl) rfl rfl HF (fun _ _ _ h => h) (.inl ⟨by rfl, ?_⟩) (by first | assumption | rfl) ?_
              rotate_left
              · intro w hS; try subst hS
                go_simp; try with_reducible rfl
              try simp only [Act.put, List.setIfInBounds_toArray, List.set_cons_zero, List.set_cons_succ]
              refine AnyL.take (i := 10) (d := some 175) (v := ?_) (by kernel_rfl) rfl rfl HF (fun _ _ _ h => h) (.inl ⟨by rfl, ?_⟩) (by first | assumption | rfl) ?_
              rotate_left
              · intro w hS; try subst hS
                go_simp; try with_reducible rfl
              try simp only [Act.put, List.setIfInBounds_toArray, List.set_cons_zero, List.set_cons_succ]
              refine AnyL.take (i := 13) (d := some 178) (v := ?_) (by kernel_rfl) rfl rfl HF (fun _ _ _ h => h) (.inl ⟨by rfl, ?_⟩) (by first | assumption | rfl) ?_
              rotate_left
              · intro w hS; try subst hS
                go_simp; try with_reducible rfl
              try simp only [Act.put, List.setIfInBounds_toArray, List.set_cons_zero, List.set_cons_succ]
              refine AnyL.take (i := 15) (d := some 180) (v := ?_) (by kernel_rfl) rfl rfl HF (fun _ _ _ h => h) (.inl ⟨by rfl, ?_⟩) (by first | assumption | rfl) ?_
              rotate_left
              · intro w hS; try subst hS
                go_simp; try with_reducible rfl
              try simp only [Act.put, List.setIfInBounds_toArray, List.set_cons_zero, List.set_cons_succ]
              refine AnyL.one (i := 6) (by kernel_rfl) (by kernel_rfl) rfl HF (by rfl) (fun K hK => ?_)
              go_simp
              refine hK _ _ HAL.out ?_
              clear hK K
              try simp only [Act.put, List.setIfInBounds_toArray, List.set_cons_zero, List.set_cons_succ]
              refine AnyL.one (i := 7) (by kernel_rfl) (by kernel_rfl) rfl HF (by rfl) (fun K hK => ?_)
              simp [execOp, resolve, invoke, builtin, hrun, Result.andThen, Act.eval, Oper.uponIn]
              refine hK _ _ HS9'.out ?_
              clear hK K hrun
              try simp only [Act.put, List.setIfInBounds_toArray, List.set_cons_zero, List.set_cons_succ]
              refine AnyL.take (i := 20) (d := some 185) (v := ?_) (by kernel_rfl) rfl rfl HF (fun _ _ _ h => h) (.inl ⟨by rfl, ?_⟩) (by first | assumption | rfl) ?_
              rotate_left
              · intro w hS; try subst hS
                go_simp; try with_reducible rfl
              try simp only [Act.put, List.setIfInBounds_toArray, List.set_cons_zero, List.set_cons_succ]
              refine AnyL.one (i := 16) (by kernel_rfl) (by kernel_rfl) rfl HF (by rfl) (fun K hK => ?_)
              go_simp
              first | ((with_reducible refine And.intro ?hdep ?_); (case hdep => first | rfl | (intro h; cases h))) | skip
              refine callsIn_wide.2 (HC.out.mono ?_)
              rintro e w10 ⟨rfl, ⟨t10, hS10⟩, hR10⟩
              have HS10 := Lib.hid hS10
              have HBA10 := Lib.hid (HalfBut.keep HBA9.out (hR10.2 _ (by decide) (by decide)) (hR10.2 _ (by decide) (by decide))); have HE10 := Lib.hid (Half.keep HE9.out (hR10.2 _ (by decide) (by decide)) (hR10.2 _ (by decide) (by decide))); have HNW10 := Lib.hid (SlA.keep HNW9.out (hR10.2 _ (by decide) (by decide)))
              have HSS10 : Hid (SerS D E g va vs kd tx s id w10) := Lib.hid (HS9'.out.keep (hR10.2 _ (by decide) (by decide)) (hR10.2 _ (by decide) (by decide)) (hR10.2 _ (by decide) (by decide)))
              have HR10 := Lib.hid hR10.1
              clear hS10 hR10
              obtain ⟨s2, w11, hrun, hBI, ho11, hb11⟩ := app_int HE10.out hk4 (HS10.out.2.2.2.2.1.2.2.2) HLN.out.2 gc
              have ho11' := ho11.mono (ts' := tsL) (by simp)
              have hS11 := HS10.out.onT ho11'
              have hBA11 := HBA10.out.keep (ho11.keepT (by decide)) (ho11.keepT (by decide))
              have HS11 : Hid (SerS D E g va vs kd tx s id w11) := Lib.hid (SerS.keep HSS10.out (ho11.keepT (by decide)) (ho11.keepT (by decide)) (ho11.keepT (by decide)))
              have HREL1 : Hid (SerRel lo p sl rs D E (i + 1) (.slice ua un uc) ((w11.setCell ⟨D, k, none⟩ (slV (sa, sn, sc))).setCell ⟨E, k, none⟩ (slV s2))) := Lib.hid (rel_end hk4 HFK.out hS11 hBA11 hBI (SlA.keep HNW10.out (ho11.keepT (by decide))))
              have HBW11 : Hid (Below W.heap.size W ((w11.setCell ⟨D, k, none⟩ (slV (sa, sn, sc))).setCell ⟨E, k, none⟩ (slV s2))) := Lib.hid (by
                have hl := HLO.out
                have l1 := HBA10.out.2.1; have l2 := hBI.2.1
                have hb : Below lo wr w11 := (HB6.out.mono (Nat.le_trans (by rw [← hl]; exact HBW.out.size) (Nat.le_refl _))).trans (Below.trans (HBD.out.mono (HS6.out.2.2.2.2.1.2.2.2)) (HB89.out.trans (HR10.out.trans hb11)))
                rw [← hl] at hb l1 l2
                exact ((HBW.out.trans hb).setCell (p := ⟨D, k, none⟩) l1 _).setCell (p := ⟨E, k, none⟩) l2 _)
              have dk := hBA11.1.cell hk4
              have df := hBA11.1.free k
              have hE12 : LgC (w11.setCell ⟨D, k, none⟩ (slV (sa, sn, sc))) E 64 vs := KeepT.setCell (a := ⟨D, k, none⟩) hBA11.1 (by decide) _ _ _ hBI.1
              have ek := hE12.cell hk4
              have ef := hE12.free k
              obtain ⟨ra, rn, rc⟩ := s2
              rw [HVA.out] at dk
              rw [HVS.out] at hrun ek
              simp only [slV] at hrun dk ek df ef HREL1 HBW11
              obtain ⟨w12, hw12⟩ : ∃ w, w11.setCell ⟨D, k, none⟩ (.slice sa sn sc) = w := ⟨_, rfl⟩
              rw [hw12] at ek ef HREL1 HBW11
              obtain ⟨w13, hw13⟩ : ∃ w, w12.setCell ⟨E, k, none⟩ (.slice ra rn rc) = w := ⟨_, rfl⟩
              rw [hw13] at HREL1 HBW11
              clear hBI ho11 hb11 ho11' hS11 hBA11 hE12
              refine hK _ _ HSS10.out ?_
              clear hK K
              try simp only [Act.put, List.setIfInBounds_toArray, List.set_cons_zero, List.set_cons_succ]
              refine AnyL.one (i := 17) (by kernel_rfl) (by kernel_rfl) rfl HF (by rfl) (fun K hK => ?_)
              go_simp
              first | ((with_reducible refine And.intro ?hdep ?_); (case hdep => first | rfl | (intro h; cases h))) | skip
              refine callsIn_wide.2 ((num_any w10 gc).mono ?_)
              rintro e w ⟨rfl, h⟩
              rw [h]
              clear h w
              refine hK _ _ HSS10.out ?_
              clear hK K
              try simp only [Act.put, List.setIfInBounds_toArray, List.set_cons_zero, List.set_cons_succ]
              refine AnyL.one (i := 18) (by kernel_rfl) (by kernel_rfl) rfl HF (by rfl) (fun K hK => ?_)
              go_simp
              refine hK _ _ (HSS10.out.below ((Below.refl _ _).alloc (Nat.le_refl _) _)) ?_
              clear hK K
              try simp only [Act.put, List.setIfInBounds_toArray, List.set_cons_zero, List.set_cons_succ]
              refine AnyL.one (i := 19) (by kernel_rfl) (by kernel_rfl) rfl HF (by rfl) (fun K hK => ?_)
              simp [execOp, resolve, invoke, builtin, hrun, Result.andThen, Act.eval, Oper.uponIn]
              refine hK _ _ HS11.out ?_
              clear hK K hrun
              try simp only [Act.put, List.setIfInBounds_toArray, List.set_cons_zero, List.set_cons_succ]
              refine AnyL.wall (i := 21) (by kernel_rfl) rfl HF (by rfl) (fun K hK => ?_)
              go_simp
              refine hK (fun _ => True) _ _ ?_
              clear hK K
              try simp only [Act.put, List.setIfInBounds_toArray, List.set_cons_zero, List.set_cons_succ]
              refine AnyL.take (i := 22) (d := some 186) (v := ?_) (by kernel_rfl) rfl rfl HF (fun _ _ _ h => h) (.inl ⟨by rfl, ?_⟩) (by first | assumption | rfl) ?_
              rotate_left
              · intro w hS; try subst hS
                go_simp; try with_reducible rfl
              try simp only [Act.put, List.setIfInBounds_toArray, List.set_cons_zero, List.set_cons_succ]
              refine AnyL.one (i := 23) (by kernel_rfl) (by kernel_rfl) rfl HF (by rfl) (fun K hK => ?_)
              go_simp
              refine hK _ _ trivial ?_
              clear hK K
              try simp only [Act.put, List.setIfInBounds_toArray, List.set_cons_zero, List.set_cons_succ]
              refine AnyL.done (by kernel_rfl) ?_
              clear S8 dk df ek ef j0 j1 k0 k1 k2 k3 hw12 hw13
              go_wp2_with fail
              go_roundw
              case rel => exact ⟨i + 1, by omega, by go_num, HREL1.out, HBW11.out⟩
              case measure => simp [intOf]; omega
            · as_aux_lemma =>
              have c3 : w6.cell? ⟨p, 2 + k, none⟩ = some (.pointer (some ⟨x.t, 0, none⟩)) := by rw [c2]; unfold tsS; rw [hf]; rfl
              clear c2
              have HFK := Lib.hid hf
              obtain ⟨gc, hgr⟩ : ∃ r, (chk x.d s) = r := ⟨_, rfl⟩
              have HGR := Lib.hid hgr
              have HKD := Lib.hid hkind
              clear hgr hf
              go_wp2_with fail
              obtain ⟨w8, hw8⟩ : ∃ w, w6.drew = w := ⟨_, rfl⟩
              have hbd : Below w6.heap.size w6 w8 := by rw [← hw8]; exact (Below.refl _ _).drew
              have HS8 := Lib.hid (HS6.out.onT (OnT.of hbd)); have HD8 := Lib.hid (Half.keep HD6.out (KeepT.below hbd) (KeepT.below hbd)); have HE8 := Lib.hid (Half.keep HE6.out (KeepT.below hbd) (KeepT.below hbd)); have HNW8 := Lib.hid (SlA.below HNW6.out hbd)
              have S8 : SerS D E g va vs kd tx s id w8 := ⟨HD8.out.1, HE8.out.1, KeepT.below hbd _ _ _ HN6.out⟩
              have HBD := Lib.hid hbd
              clear x0 x1 x2 x3 y0 y1 y2 y3 f0 f1 f2 f3 c1 c3 hwy hw6 m0 m1 m2 m3 hbd
              have hlo8 : lo ≤ w8.heap.size := HS8.out.2.2.2.2.1.2.2.2
              have hln : (lgA f k).length ≤ 1000 ∧ (lgI f k).length ≤ 1000 := by
                have := (HS6.out.2.2.2.2.2.1 k hk4 _ HFK.out).2.2.2.2.2.2.2.1
                rw [lgA_at HFK.out, lgI_at HFK.out, List.length_map, List.length_map]
                have := HIK.out; dsimp only at *; omega
              have HLN := Lib.hid hln
              obtain ⟨s1, w9, hrun, hBA, ho9, hb9, hS9⟩ := app_act HD8.out hk4 hlo8 hln.1 S8 (HGO.out k hk4)
              have HBA9 := Lib.hid hBA; have HB89 := Lib.hid hb9
              have ho9' := ho9.mono (ts' := tsL) (by simp)
              have HS9 := Lib.hid (HS8.out.onT ho9'); have HE9 := Lib.hid (Half.keep HE8.out (ho9.keepT (by decide)) (ho9.keepT (by decide))); have HNW9 := Lib.hid (SlA.keep HNW8.out (ho9.keepT (by decide)))
              have HC := Lib.hid (ser_put HS9.out HIK.out hk4 HFK.out (kd := kd) (tx := tx) (.inr (by omega)) s id HQ.out)
              rw [HGR.out] at HC
              obtain ⟨⟨da, dn, dc⟩, hva⟩ : ∃ z, va k = z := ⟨_, rfl⟩
              obtain ⟨⟨ea, en, ec⟩, hvs⟩ : ∃ z, vs k = z := ⟨_, rfl⟩
              have HVS := Lib.hid hvs
              obtain ⟨sa, sn, sc⟩ := s1
              rw [hva] at hrun
              simp only [slV] at hrun
              have j0 : ∀ w, SerS D E g va vs kd tx s id w → w.cell? ⟨D, k, none⟩ = some (.slice da dn dc) := fun w h => by have := h.1.cell hk4; rw [hva] at this; exact this
              have j1 : ∀ w, SerS D E g va vs kd tx s id w → w.cell? ⟨E, k, none⟩ = some (.slice ea en ec) := fun w h => by have := h.2.1.cell hk4; rw [hvs] at this; exact this
              have k0 : ∀ w, SerS D E g va vs kd tx s id w → w.cell? ⟨g, 0, none⟩ = some (.int .u8 (kd : Int)) := fun w h => by have := h.2.2; simp [World.cell?, this]
              have k1 : ∀ w, SerS D E g va vs kd tx s id w → w.cell? ⟨g, 1, none⟩ = some (.int .u8 (tx : Int)) := fun w h => by have := h.2.2; simp [World.cell?, this]
              have k2 : ∀ w, SerS D E g va vs kd tx s id w → w.cell? ⟨g, 2, none⟩ = some (.string s) := fun w h => by have := h.2.2; simp [World.cell?, this]
              have k3 : ∀ w, SerS D E g va vs kd tx s id w → w.cell? ⟨g, 3, none⟩ = some (.int .i64 id) := fun w h => by have := h.2.2; simp [World.cell?, this]
              have HVA := Lib.hid hva
              have HS9' := Lib.hid hS9
              have HAL : Hid (SerS D E g va vs kd tx s id (w8.alloc (.cells #[.int .u8 (kd : Int), .int .u8 (tx : Int), .string s, .int .i64 id] 29))) := Lib.hid (S8.below ((Below.refl _ _).alloc (Nat.le_refl _) _))
              clear hBA ho9 hb9 hS9 ho9' hva hvs hln hlo8
              refine wp_region_free (by kernel_rfl) ?_
              rw [hw8]
              clear hw8
              refine free_take (i := 0) (d := some 165) (v := ?_) (by kernel_rfl) rfl rfl HF (fun _ _ _ h => h) (.inl ⟨by rfl, ?_⟩) ?_
              rotate_left
              · intro w _
                go_simp; try with_reducible rfl
              try simp only [Act.put, List.setIfInBounds_toArray, List.set_cons_zero, List.set_cons_succ]
              refine free_take (i := 1) (d := some 166) (v := ?_) (by kernel_rfl) rfl rfl HF (fun _ _ _ h => h) (.inl ⟨by rfl, ?_⟩) ?_
              rotate_left
              · intro w _
                go_simp; try with_reducible rfl
              try simp only [Act.put, List.setIfInBounds_toArray, List.set_cons_zero, List.set_cons_succ]
              refine free_take (i := 2) (d := some 167) (v := ?_) (by kernel_rfl) rfl rfl HF (fun _ _ _ h => h) (.inl ⟨by rfl, ?_⟩) ?_
              rotate_left
              · intro w _
                go_simp; try with_reducible rfl
              try simp only [Act.put, List.setIfInBounds_toArray, List.set_cons_zero, List.set_cons_succ]
              refine free_take (i := 3) (d := some 168) (v := ?_) (by kernel_rfl) rfl rfl HF (fun _ _ _ h => h) (.inl ⟨by rfl, ?_⟩) ?_
              rotate_left
              · intro w _
                go_simp; try with_reducible rfl
              try simp only [Act.put, List.setIfInBounds_toArray, List.set_cons_zero, List.set_cons_succ]
              refine free_take (i := 8) (d := some 173) (v := ?_) (by kernel_rfl) rfl rfl HF (fun _ _ _ h => h) (.inl ⟨by rfl, ?_⟩) ?_
              rotate_left
              · intro w _
                go_simp; try with_reducible rfl
              try simp only [Act.put, List.setIfInBounds_toArray, List.set_cons_zero, List.set_cons_succ]
              refine free_take (i := 9) (d := some 174) (v := ?_) (by kernel_rfl) rfl rfl HF (fun _ _ _ h => h) (.inl ⟨by rfl, ?_⟩) ?_
              rotate_left
              · intro w _
                go_simp; try with_reducible rfl
              try simp only [Act.put, List.setIfInBounds_toArray, List.set_cons_zero, List.set_cons_succ]
              refine free_take (i := 11) (d := some 176) (v := ?_) (by kernel_rfl) rfl rfl HF (fun _ _ _ h => h) (.inl ⟨by rfl, ?_⟩) ?_
              rotate_left
              · intro w _
                go_simp; try with_reducible rfl
              try simp only [Act.put, List.setIfInBounds_toArray, List.set_cons_zero, List.set_cons_succ]
              refine free_take (i := 12) (d := some 177) (v := ?_) (by kernel_rfl) rfl rfl HF (fun _ _ _ h => h) (.inl ⟨by rfl, ?_⟩) ?_
              rotate_left
              · intro w _
                go_simp; try with_reducible rfl
              try simp only [Act.put, List.setIfInBounds_toArray, List.set_cons_zero, List.set_cons_succ]
              refine free_take (i := 14) (d := some 179) (v := ?_) (by kernel_rfl) rfl rfl HF (fun _ _ _ h => h) (.inl ⟨by rfl, ?_⟩) ?_
              rotate_left
              · intro w _
                go_simp; try with_reducible rfl
              try simp only [Act.put, List.setIfInBounds_toArray, List.set_cons_zero, List.set_cons_succ]
              refine AnyL.enter (SerS D E g va vs kd tx s id) ?_
              refine AnyL.take (i := 4) (d := some 169) (v := ?_) (by kernel_rfl) rfl rfl HF (fun _ _ _ h => h) (.inl ⟨by rfl, ?_⟩) (by first | assumption | rfl) ?_
              rotate_left
              · intro w hS; try subst hS
                go_simp; try with_reducible rfl
              try simp only [Act.put, List.setIfInBounds_toArray, List.set_cons_zero, List.set_cons_succ]
              refine AnyL.take (i := 5) (d := some 170) (v := ?_) (by kernel_rfl) rfl rfl HF (fun _ _ _ h => h) (.inl ⟨by rfl, ?_⟩) (by first | assumption | rfl) ?_
              rotate_left
              · intro w hS; try subst hS
                go_simp; try with_reducible rfl
              try simp only [Act.put, List.setIfInBounds_toArray, List.set_cons_zero, List.set_cons_succ]
              refine AnyL.take (i := 10) (d := some 175) (v := ?_) (by kernel_rfl) rfl rfl HF (fun _ _ _ h => h) (.inl ⟨by rfl, ?_⟩) (by first | assumption | rfl) ?_
              rotate_left
              · intro w hS; try subst hS
                go_simp; try with_reducible rfl
              try simp only [Act.put, List.setIfInBounds_toArray, List.set_cons_zero, List.set_cons_succ]
              refine AnyL.take (i := 13) (d := some 178) (v := ?_) (by kernel_rfl) rfl rfl HF (fun _ _ _ h => h) (.inl ⟨by rfl, ?_⟩) (by first | assumption | rfl) ?_
              rotate_left
              · intro w hS; try subst hS
                go_simp; try with_reducible rfl
              try simp only [Act.put, List.setIfInBounds_toArray, List.set_cons_zero, List.set_cons_succ]
              refine AnyL.take (i := 15) (d := some 180) (v := ?_) (by kernel_rfl) rfl rfl HF (fun _ _ _ h => h) (.inl ⟨by rfl, ?_⟩) (by first | assumption | rfl) ?_
              rotate_left
              · intro w hS; try subst hS
                go_simp; try with_reducible rfl
              try simp only [Act.put, List.setIfInBounds_toArray, List.set_cons_zero, List.set_cons_succ]
              refine AnyL.one (i := 6) (by kernel_rfl) (by kernel_rfl) rfl HF (by rfl) (fun K hK => ?_)
              go_simp
              refine hK _ _ HAL.out ?_
              clear hK K
              try simp only [Act.put, List.setIfInBounds_toArray, List.set_cons_zero, List.set_cons_succ]
              refine AnyL.one (i := 7) (by kernel_rfl) (by kernel_rfl) rfl HF (by rfl) (fun K hK => ?_)
              simp [execOp, resolve, invoke, builtin, hrun, Result.andThen, Act.eval, Oper.uponIn]
              refine hK _ _ HS9'.out ?_
              clear hK K hrun
              try simp only [Act.put, List.setIfInBounds_toArray, List.set_cons_zero, List.set_cons_succ]
              refine AnyL.take (i := 20) (d := some 185) (v := ?_) (by kernel_rfl) rfl rfl HF (fun _ _ _ h => h) (.inl ⟨by rfl, ?_⟩) (by first | assumption | rfl) ?_
              rotate_left
              · intro w hS; try subst hS
                go_simp; try with_reducible rfl
              try simp only [Act.put, List.setIfInBounds_toArray, List.set_cons_zero, List.set_cons_succ]
              refine AnyL.one (i := 16) (by kernel_rfl) (by kernel_rfl) rfl HF (by rfl) (fun K hK => ?_)
              go_simp
              first | ((with_reducible refine And.intro ?hdep ?_); (case hdep => first | rfl | (intro h; cases h))) | skip
              refine callsIn_wide.2 (HC.out.mono ?_)
              rintro e w10 ⟨rfl, ⟨t10, hS10⟩, hR10⟩
              have HS10 := Lib.hid hS10
              have HBA10 := Lib.hid (HalfBut.keep HBA9.out (hR10.2 _ (by decide) (by decide)) (hR10.2 _ (by decide) (by decide))); have HE10 := Lib.hid (Half.keep HE9.out (hR10.2 _ (by decide) (by decide)) (hR10.2 _ (by decide) (by decide))); have HNW10 := Lib.hid (SlA.keep HNW9.out (hR10.2 _ (by decide) (by decide)))
              have HSS10 : Hid (SerS D E g va vs kd tx s id w10) := Lib.hid (HS9'.out.keep (hR10.2 _ (by decide) (by decide)) (hR10.2 _ (by decide) (by decide)) (hR10.2 _ (by decide) (by decide)))
              have HR10 := Lib.hid hR10.1
              clear hS10 hR10
              obtain ⟨s2, w11, hrun, hBI, ho11, hb11⟩ := app_int HE10.out hk4 (HS10.out.2.2.2.2.1.2.2.2) HLN.out.2 gc
              have ho11' := ho11.mono (ts' := tsL) (by simp)
              have hS11 := HS10.out.onT ho11'
              have hBA11 := HBA10.out.keep (ho11.keepT (by decide)) (ho11.keepT (by decide))
              have HS11 : Hid (SerS D E g va vs kd tx s id w11) := Lib.hid (SerS.keep HSS10.out (ho11.keepT (by decide)) (ho11.keepT (by decide)) (ho11.keepT (by decide)))
              have HREL1 : Hid (SerRel lo p sl rs D E (i + 1) (.slice ua un uc) ((w11.setCell ⟨D, k, none⟩ (slV (sa, sn, sc))).setCell ⟨E, k, none⟩ (slV s2))) := Lib.hid (rel_end hk4 HFK.out hS11 hBA11 hBI (SlA.keep HNW10.out (ho11.keepT (by decide))))
              have HBW11 : Hid (Below W.heap.size W ((w11.setCell ⟨D, k, none⟩ (slV (sa, sn, sc))).setCell ⟨E, k, none⟩ (slV s2))) := Lib.hid (by
                have hl := HLO.out
                have l1 := HBA10.out.2.1; have l2 := hBI.2.1
                have hb : Below lo wr w11 := (HB6.out.mono (Nat.le_trans (by rw [← hl]; exact HBW.out.size) (Nat.le_refl _))).trans (Below.trans (HBD.out.mono (HS6.out.2.2.2.2.1.2.2.2)) (HB89.out.trans (HR10.out.trans hb11)))
                rw [← hl] at hb l1 l2
                exact ((HBW.out.trans hb).setCell (p := ⟨D, k, none⟩) l1 _).setCell (p := ⟨E, k, none⟩) l2 _)
              have dk := hBA11.1.cell hk4
              have df := hBA11.1.free k
              have hE12 : LgC (w11.setCell ⟨D, k, none⟩ (slV (sa, sn, sc))) E 64 vs := KeepT.setCell (a := ⟨D, k, none⟩) hBA11.1 (by decide) _ _ _ hBI.1
              have ek := hE12.cell hk4
              have ef := hE12.free k
              obtain ⟨ra, rn, rc⟩ := s2
              rw [HVA.out] at dk
              rw [HVS.out] at hrun ek
              simp only [slV] at hrun dk ek df ef HREL1 HBW11
              obtain ⟨w12, hw12⟩ : ∃ w, w11.setCell ⟨D, k, none⟩ (.slice sa sn sc) = w := ⟨_, rfl⟩
              rw [hw12] at ek ef HREL1 HBW11
              obtain ⟨w13, hw13⟩ : ∃ w, w12.setCell ⟨E, k, none⟩ (.slice ra rn rc) = w := ⟨_, rfl⟩
              rw [hw13] at HREL1 HBW11
              clear hBI ho11 hb11 ho11' hS11 hBA11 hE12
              refine hK _ _ HSS10.out ?_
              clear hK K
              try simp only [Act.put, List.setIfInBounds_toArray, List.set_cons_zero, List.set_cons_succ]
              refine AnyL.one (i := 17) (by kernel_rfl) (by kernel_rfl) rfl HF (by rfl) (fun K hK => ?_)
              go_simp
              first | ((with_reducible refine And.intro ?hdep ?_); (case hdep => first | rfl | (intro h; cases h))) | skip
              refine callsIn_wide.2 ((num_any w10 gc).mono ?_)
              rintro e w ⟨rfl, h⟩
              rw [h]
              clear h w
              refine hK _ _ HSS10.out ?_
              clear hK K
              try simp only [Act.put, List.setIfInBounds_toArray, List.set_cons_zero, List.set_cons_succ]
              refine AnyL.one (i := 18) (by kernel_rfl) (by kernel_rfl) rfl HF (by rfl) (fun K hK => ?_)
              go_simp
              refine hK _ _ (HSS10.out.below ((Below.refl _ _).alloc (Nat.le_refl _) _)) ?_
              clear hK K
              try simp only [Act.put, List.setIfInBounds_toArray, List.set_cons_zero, List.set_cons_succ]
              refine AnyL.one (i := 19) (by kernel_rfl) (by kernel_rfl) rfl HF (by rfl) (fun K hK => ?_)
              simp [execOp, resolve, invoke, builtin, hrun, Result.andThen, Act.eval, Oper.uponIn]
              refine hK _ _ HS11.out ?_
              clear hK K hrun
              try simp only [Act.put, List.setIfInBounds_toArray, List.set_cons_zero, List.set_cons_succ]
              refine AnyL.wall (i := 21) (by kernel_rfl) rfl HF (by rfl) (fun K hK => ?_)
              go_simp
              refine hK (fun _ => True) _ _ ?_
              clear hK K
              try simp only [Act.put, List.setIfInBounds_toArray, List.set_cons_zero, List.set_cons_succ]
              refine AnyL.take (i := 22) (d := some 186) (v := ?_) (by kernel_rfl) rfl rfl HF (fun _ _ _ h => h) (.inl ⟨by rfl, ?_⟩) (by first | assumption | rfl) ?_
              rotate_left
              · intro w hS; try subst hS
                go_simp; try with_reducible rfl
              try simp only [Act.put, List.setIfInBounds_toArray, List.set_cons_zero, List.set_cons_succ]
              refine AnyL.one (i := 23) (by kernel_rfl) (by kernel_rfl) rfl HF (by rfl) (fun K hK => ?_)
              go_simp
              refine hK _ _ trivial ?_
              clear hK K
              try simp only [Act.put, List.setIfInBounds_toArray, List.set_cons_zero, List.set_cons_succ]
              refine AnyL.done (by kernel_rfl) ?_
              clear S8 dk df ek ef j0 j1 k0 k1 k2 k3 hw12 hw13
              go_wp2_with fail
              go_roundw
              case rel => exact ⟨i + 1, by omega, by go_num, HREL1.out, HBW11.out⟩
              case measure => simp [intOf]; omega
            · as_aux_lemma =>
              have c3 : w6.cell? ⟨p, 2 + k, none⟩ = some (.pointer (some ⟨x.t, 0, none⟩)) := by rw [c2]; unfold tsS; rw [hf]; rfl
              clear c2
              have HFK := Lib.hid hf
              obtain ⟨gc, hgr⟩ : ∃ r, (dropE x.d x.ch x.T s) = r := ⟨_, rfl⟩
              have HGR := Lib.hid hgr
              have HKD := Lib.hid hkind
              clear hgr hf
              go_wp2_with fail
              obtain ⟨w8, hw8⟩ : ∃ w, w6.drew = w := ⟨_, rfl⟩
              have hbd : Below w6.heap.size w6 w8 := by rw [← hw8]; exact (Below.refl _ _).drew
              have HS8 := Lib.hid (HS6.out.onT (OnT.of hbd)); have HD8 := Lib.hid (Half.keep HD6.out (KeepT.below hbd) (KeepT.below hbd)); have HE8 := Lib.hid (Half.keep HE6.out (KeepT.below hbd) (KeepT.below hbd)); have HNW8 := Lib.hid (SlA.below HNW6.out hbd)
              have S8 : SerS D E g va vs kd tx s id w8 := ⟨HD8.out.1, HE8.out.1, KeepT.below hbd _ _ _ HN6.out⟩
              have HBD := Lib.hid hbd
              clear x0 x1 x2 x3 y0 y1 y2 y3 f0 f1 f2 f3 c1 c3 hwy hw6 m0 m1 m2 m3 hbd
              have hlo8 : lo ≤ w8.heap.size := HS8.out.2.2.2.2.1.2.2.2
              have hln : (lgA f k).length ≤ 1000 ∧ (lgI f k).length ≤ 1000 := by
                have := (HS6.out.2.2.2.2.2.1 k hk4 _ HFK.out).2.2.2.2.2.2.2.1
                rw [lgA_at HFK.out, lgI_at HFK.out, List.length_map, List.length_map]
                have := HIK.out; dsimp only at *; omega
              have HLN := Lib.hid hln
              obtain ⟨s1, w9, hrun, hBA, ho9, hb9, hS9⟩ := app_act HD8.out hk4 hlo8 hln.1 S8 (HGO.out k hk4)
              have HBA9 := Lib.hid hBA; have HB89 := Lib.hid hb9
              have ho9' := ho9.mono (ts' := tsL) (by simp)
              have HS9 := Lib.hid (HS8.out.onT ho9'); have HE9 := Lib.hid (Half.keep HE8.out (ho9.keepT (by decide)) (ho9.keepT (by decide))); have HNW9 := Lib.hid (SlA.keep HNW8.out (ho9.keepT (by decide)))
              have HC := Lib.hid (ser_drop HS9.out HIK.out hk4 HFK.out (kd := kd) (tx := tx) (by omega) s id HQ.out)
              rw [HGR.out] at HC
              obtain ⟨⟨da, dn, dc⟩, hva⟩ : ∃ z, va k = z := ⟨_, rfl⟩
              obtain ⟨⟨ea, en, ec⟩, hvs⟩ : ∃ z, vs k = z := ⟨_, rfl⟩
              have HVS := Lib.hid hvs
              obtain ⟨sa, sn, sc⟩ := s1
              rw [hva] at hrun
              simp only [slV] at hrun
              have j0 : ∀ w, SerS D E g va vs kd tx s id w → w.cell? ⟨D, k, none⟩ = some (.slice da dn dc) := fun w h => by have := h.1.cell hk4; rw [hva] at this; exact this
              have j1 : ∀ w, SerS D E g va vs kd tx s id w → w.cell? ⟨E, k, none⟩ = some (.slice ea en ec) := fun w h => by have := h.2.1.cell hk4; rw [hvs] at this; exact this
              have k0 : ∀ w, SerS D E g va vs kd tx s id w → w.cell? ⟨g, 0, none⟩ = some (.int .u8 (kd : Int)) := fun w h => by have := h.2.2; simp [World.cell?, this]
              have k1 : ∀ w, SerS D E g va vs kd tx s id w → w.cell? ⟨g, 1, none⟩ = some (.int .u8 (tx : Int)) := fun w h => by have := h.2.2; simp [World.cell?, this]
              have k2 : ∀ w, SerS D E g va vs kd tx s id w → w.cell? ⟨g, 2, none⟩ = some (.string s) := fun w h => by have := h.2.2; simp [World.cell?, this]
              have k3 : ∀ w, SerS D E g va vs kd tx s id w → w.cell? ⟨g, 3, none⟩ = some (.int .i64 id) := fun w h => by have := h.2.2; simp [World.cell?, this]
              have HVA := Lib.hid hva
              have HS9' := Lib.hid hS9
              have HAL : Hid (SerS D E g va vs kd tx s id (w8.alloc (.cells #[.int .u8 (kd : Int), .int .u8 (tx : Int), .string s, .int .i64 id] 29))) := Lib.hid (S8.below ((Below.refl _ _).alloc (Nat.le_refl _) _))
              clear hBA ho9 hb9 hS9 ho9' hva hvs hln hlo8
              refine wp_region_free (by kernel_rfl) ?_
              rw [hw8]
              clear hw8
              refine free_take (i := 0) (d := some 189) (v := ?_) (by kernel_rfl) rfl rfl HF (fun _ _ _ h => h) (.inl ⟨by rfl, ?_⟩) ?_
              rotate_left
              · intro w _
                go_simp; try with_reducible rfl
              try simp only [Act.put, List.setIfInBounds_toArray, List.set_cons_zero, List.set_cons_succ]
              refine free_take (i := 1) (d := some 190) (v := ?_) (by kernel_rfl) rfl rfl HF (fun _ _ _ h => h) (.inl ⟨by rfl, ?_⟩) ?_
              rotate_left
              · intro w _
                go_simp; try with_reducible rfl
              try simp only [Act.put, List.setIfInBounds_toArray, List.set_cons_zero, List.set_cons_succ]
              refine free_take (i := 2) (d := some 191) (v := ?_) (by kernel_rfl) rfl rfl HF (fun _ _ _ h => h) (.inl ⟨by rfl, ?_⟩) ?_
              rotate_left
              · intro w _
                go_simp; try with_reducible rfl
              try simp only [Act.put, List.setIfInBounds_toArray, List.set_cons_zero, List.set_cons_succ]
              refine free_take (i := 3) (d := some 192) (v := ?_) (by kernel_rfl) rfl rfl HF (fun _ _ _ h => h) (.inl ⟨by rfl, ?_⟩) ?_
              rotate_left
              · intro w _
                go_simp; try with_reducible rfl
              try simp only [Act.put, List.setIfInBounds_toArray, List.set_cons_zero, List.set_cons_succ]
              refine free_take (i := 8) (d := some 197) (v := ?_) (by kernel_rfl) rfl rfl HF (fun _ _ _ h => h) (.inl ⟨by rfl, ?_⟩) ?_
              rotate_left
              · intro w _
                go_simp; try with_reducible rfl
              try simp only [Act.put, List.setIfInBounds_toArray, List.set_cons_zero, List.set_cons_succ]
              refine free_take (i := 9) (d := some 198) (v := ?_) (by kernel_rfl) rfl rfl HF (fun _ _ _ h => h) (.inl ⟨by rfl, ?_⟩) ?_
              rotate_left
              · intro w _
                go_simp; try with_reducible rfl
              try simp only [Act.put, List.setIfInBounds_toArray, List.set_cons_zero, List.set_cons_succ]
              refine free_take (i := 11) (d := some 200) (v := ?_) (by kernel_rfl) rfl rfl HF (fun _ _ _ h => h) (.inl ⟨by rfl, ?_⟩) ?_
              rotate_left
              · intro w _
                go_simp; try with_reducible rfl
              try simp only [Act.put, List.setIfInBounds_toArray, List.set_cons_zero, List.set_cons_succ]
              refine free_take (i := 12) (d := some 201) (v := ?_) (by kernel_rfl) rfl rfl HF (fun _ _ _ h => h) (.inl ⟨by rfl, ?_⟩) ?_
              rotate_left
              · intro w _
                go_simp; try with_reducible rfl
              try simp only [Act.put, List.setIfInBounds_toArray, List.set_cons_zero, List.set_cons_succ]
              refine AnyL.enter (SerS D E g va vs kd tx s id) ?_
              refine AnyL.take (i := 4) (d := some 193) (v := ?_) (by kernel_rfl) rfl rfl HF (fun _ _ _ h => h) (.inl ⟨by rfl, ?_⟩) (by first | assumption | rfl) ?_
              rotate_left
              · intro w hS; try subst hS
                go_simp; try with_reducible rfl
              try simp only [Act.put, List.setIfInBounds_toArray, List.set_cons_zero, List.set_cons_succ]
              refine AnyL.take (i := 5) (d := some 194) (v := ?_) (by kernel_rfl) rfl rfl HF (fun _ _ _ h => h) (.inl ⟨by rfl, ?_⟩) (by first | assumption | rfl) ?_
              rotate_left
              · intro w hS; try subst hS
                go_simp; try with_reducible rfl
              try simp only [Act.put, List.setIfInBounds_toArray, List.set_cons_zero, List.set_cons_succ]
              refine AnyL.take (i := 10) (d := some 199) (v := ?_) (by kernel_rfl) rfl rfl HF (fun _ _ _ h => h) (.inl ⟨by rfl, ?_⟩) (by first | assumption | rfl) ?_
              rotate_left
              · intro w hS; try subst hS
                go_simp; try with_reducible rfl
              try simp only [Act.put, List.setIfInBounds_toArray, List.set_cons_zero, List.set_cons_succ]
              refine AnyL.take (i := 13) (d := some 202) (v := ?_) (by kernel_rfl) rfl rfl HF (fun _ _ _ h => h) (.inl ⟨by rfl, ?_⟩) (by first | assumption | rfl) ?_
              rotate_left
              · intro w hS; try subst hS
                go_simp; try with_reducible rfl
              try simp only [Act.put, List.setIfInBounds_toArray, List.set_cons_zero, List.set_cons_succ]
              refine AnyL.one (i := 6) (by kernel_rfl) (by kernel_rfl) rfl HF (by rfl) (fun K hK => ?_)
              go_simp
              refine hK _ _ HAL.out ?_
              clear hK K
              try simp only [Act.put, List.setIfInBounds_toArray, List.set_cons_zero, List.set_cons_succ]
              refine AnyL.one (i := 7) (by kernel_rfl) (by kernel_rfl) rfl HF (by rfl) (fun K hK => ?_)
              simp [execOp, resolve, invoke, builtin, hrun, Result.andThen, Act.eval, Oper.uponIn]
              refine hK _ _ HS9'.out ?_
              clear hK K hrun
              try simp only [Act.put, List.setIfInBounds_toArray, List.set_cons_zero, List.set_cons_succ]
              refine AnyL.take (i := 18) (d := some 207) (v := ?_) (by kernel_rfl) rfl rfl HF (fun _ _ _ h => h) (.inl ⟨by rfl, ?_⟩) (by first | assumption | rfl) ?_
              rotate_left
              · intro w hS; try subst hS
                go_simp; try with_reducible rfl
              try simp only [Act.put, List.setIfInBounds_toArray, List.set_cons_zero, List.set_cons_succ]
              refine AnyL.one (i := 14) (by kernel_rfl) (by kernel_rfl) rfl HF (by rfl) (fun K hK => ?_)
              go_simp
              first | ((with_reducible refine And.intro ?hdep ?_); (case hdep => first | rfl | (intro h; cases h))) | skip
              refine callsIn_wide.2 (HC.out.mono ?_)
              rintro e w10 ⟨rfl, ⟨t10, hS10⟩, hR10⟩
              have HS10 := Lib.hid hS10
              have HBA10 := Lib.hid (HalfBut.keep HBA9.out (hR10.2 _ (by decide) (by decide)) (hR10.2 _ (by decide) (by decide))); have HE10 := Lib.hid (Half.keep HE9.out (hR10.2 _ (by decide) (by decide)) (hR10.2 _ (by decide) (by decide))); have HNW10 := Lib.hid (SlA.keep HNW9.out (hR10.2 _ (by decide) (by decide)))
              have HSS10 : Hid (SerS D E g va vs kd tx s id w10) := Lib.hid (HS9'.out.keep (hR10.2 _ (by decide) (by decide)) (hR10.2 _ (by decide) (by decide)) (hR10.2 _ (by decide) (by decide)))
              have HR10 := Lib.hid hR10.1
              clear hS10 hR10
              obtain ⟨s2, w11, hrun, hBI, ho11, hb11⟩ := app_int HE10.out hk4 (HS10.out.2.2.2.2.1.2.2.2) HLN.out.2 gc
              have ho11' := ho11.mono (ts' := tsL) (by simp)
              have hS11 := HS10.out.onT ho11'
              have hBA11 := HBA10.out.keep (ho11.keepT (by decide)) (ho11.keepT (by decide))
              have HS11 : Hid (SerS D E g va vs kd tx s id w11) := Lib.hid (SerS.keep HSS10.out (ho11.keepT (by decide)) (ho11.keepT (by decide)) (ho11.keepT (by decide)))
              have HREL1 : Hid (SerRel lo p sl rs D E (i + 1) (.slice ua un uc) ((w11.setCell ⟨D, k, none⟩ (slV (sa, sn, sc))).setCell ⟨E, k, none⟩ (slV s2))) := Lib.hid (rel_end hk4 HFK.out hS11 hBA11 hBI (SlA.keep HNW10.out (ho11.keepT (by decide))))
              have HBW11 : Hid (Below W.heap.size W ((w11.setCell ⟨D, k, none⟩ (slV (sa, sn, sc))).setCell ⟨E, k, none⟩ (slV s2))) := Lib.hid (by
                have hl := HLO.out
                have l1 := HBA10.out.2.1; have l2 := hBI.2.1
                have hb : Below lo wr w11 := (HB6.out.mono (Nat.le_trans (by rw [← hl]; exact HBW.out.size) (Nat.le_refl _))).trans (Below.trans (HBD.out.mono (HS6.out.2.2.2.2.1.2.2.2)) (HB89.out.trans (HR10.out.trans hb11)))
                rw [← hl] at hb l1 l2
                exact ((HBW.out.trans hb).setCell (p := ⟨D, k, none⟩) l1 _).setCell (p := ⟨E, k, none⟩) l2 _)
              have dk := hBA11.1.cell hk4
              have df := hBA11.1.free k
              have hE12 : LgC (w11.setCell ⟨D, k, none⟩ (slV (sa, sn, sc))) E 64 vs := KeepT.setCell (a := ⟨D, k, none⟩) hBA11.1 (by decide) _ _ _ hBI.1
              have ek := hE12.cell hk4
              have ef := hE12.free k
              obtain ⟨ra, rn, rc⟩ := s2
              rw [HVA.out] at dk
              rw [HVS.out] at hrun ek
              simp only [slV] at hrun dk ek df ef HREL1 HBW11
              obtain ⟨w12, hw12⟩ : ∃ w, w11.setCell ⟨D, k, none⟩ (.slice sa sn sc) = w := ⟨_, rfl⟩
              rw [hw12] at ek ef HREL1 HBW11
              obtain ⟨w13, hw13⟩ : ∃ w, w12.setCell ⟨E, k, none⟩ (.slice ra rn rc) = w := ⟨_, rfl⟩
              rw [hw13] at HREL1 HBW11
              clear hBI ho11 hb11 ho11' hS11 hBA11 hE12
              refine hK _ _ HSS10.out ?_
              clear hK K
              try simp only [Act.put, List.setIfInBounds_toArray, List.set_cons_zero, List.set_cons_succ]
              refine AnyL.one (i := 15) (by kernel_rfl) (by kernel_rfl) rfl HF (by rfl) (fun K hK => ?_)
              go_simp
              first | ((with_reducible refine And.intro ?hdep ?_); (case hdep => first | rfl | (intro h; cases h))) | skip
              refine callsIn_wide.2 ((num_any w10 gc).mono ?_)
              rintro e w ⟨rfl, h⟩
              rw [h]
              clear h w
              refine hK _ _ HSS10.out ?_
              clear hK K
              try simp only [Act.put, List.setIfInBounds_toArray, List.set_cons_zero, List.set_cons_succ]
              refine AnyL.one (i := 16) (by kernel_rfl) (by kernel_rfl) rfl HF (by rfl) (fun K hK => ?_)
              go_simp
              refine hK _ _ (HSS10.out.below ((Below.refl _ _).alloc (Nat.le_refl _) _)) ?_
              clear hK K
              try simp only [Act.put, List.setIfInBounds_toArray, List.set_cons_zero, List.set_cons_succ]
              refine AnyL.one (i := 17) (by kernel_rfl) (by kernel_rfl) rfl HF (by rfl) (fun K hK => ?_)
              simp [execOp, resolve, invoke, builtin, hrun, Result.andThen, Act.eval, Oper.uponIn]
              refine hK _ _ HS11.out ?_
              clear hK K hrun
              try simp only [Act.put, List.setIfInBounds_toArray, List.set_cons_zero, List.set_cons_succ]
              refine AnyL.wall (i := 19) (by kernel_rfl) rfl HF (by rfl) (fun K hK => ?_)
              go_simp
              refine hK (fun _ => True) _ _ ?_
              clear hK K
              try simp only [Act.put, List.setIfInBounds_toArray, List.set_cons_zero, List.set_cons_succ]
              refine AnyL.take (i := 20) (d := some 208) (v := ?_) (by kernel_rfl) rfl rfl HF (fun _ _ _ h => h) (.inl ⟨by rfl, ?_⟩) (by first | assumption | rfl) ?_
              rotate_left
              · intro w hS; try subst hS
                go_simp; try with_reducible rfl
              try simp only [Act.put, List.setIfInBounds_toArray, List.set_cons_zero, List.set_cons_succ]
              refine AnyL.one (i := 21) (by kernel_rfl) (by kernel_rfl) rfl HF (by rfl) (fun K hK => ?_)
              go_simp
              refine hK _ _ trivial ?_
              clear hK K
              try simp only [Act.put, List.setIfInBounds_toArray, List.set_cons_zero, List.set_cons_succ]
              refine AnyL.done (by kernel_rfl) ?_
              clear S8 dk df ek ef j0 j1 k0 k1 k2 k3 hw12 hw13
              go_wp2_with fail
              go_roundw
              case rel => exact ⟨i + 1, by omega, by go_num, HREL1.out, HBW11.out⟩
              case measure => simp [intOf]; omega
            · as_aux_lemma =>
              have c3 : w6.cell? ⟨p, 2 + k, none⟩ = some (.pointer (some ⟨x.t, 0, none⟩)) := by rw [c2]; unfold tsS; rw [hf]; rfl
              clear c2
              have HFK := Lib.hid hf
              have HC := Lib.hid (ser_commit HS6.out HIK.out hk4 hf)
              clear hf
              go_wp2_with fail
              refine HC.out.mono ?_
              rintro e w7 ⟨n, c, rfl, X2, Vs2, hXb, ⟨⟨t7, hS7⟩, hR7⟩, hcs⟩
              have HS7 := Lib.hid hS7; have HR7 := Lib.hid hR7.1
              have HD7 := Lib.hid (Half.keep HD6.out (hR7.2 _ (by decide) (by decide)) (hR7.2 _ (by decide) (by decide))); have HE7 := Lib.hid (Half.keep HE6.out (hR7.2 _ (by decide) (by decide)) (hR7.2 _ (by decide) (by decide))); have HNW7 := Lib.hid (SlA.keep HNW6.out (hR7.2 _ (by decide) (by decide)))
              have HBW7 : Hid (Below W.heap.size W w7) := Lib.hid (by
                have hl := HLO.out
                have hb : Below lo wr w7 := (HB6.out.mono (by rw [← hl]; exact HBW.out.size)).trans HR7.out
                rw [← hl] at hb
                exact HBW.out.trans hb)
              have HLA := Lib.hid (lgA_same (x' := { x with d := true }) (t' := t7) HFK.out); have HLI := Lib.hid (lgI_same (x' := { x with d := true }) (t' := t7) HFK.out)
              have HREL7 : Hid (X2.T.toList = X1.T.toList → ∀ w, Below w7.heap.size w7 w → SerRel lo p sl rs D E (i + 1) (.slice ua un uc) w) := Lib.hid (fun heq w hb => ⟨X2, Vs2, _, va, vs, HS7.out.onT (OnT.of hb), by rw [HLA.out]; exact Half.keep HD7.out (KeepT.below hb) (KeepT.below hb), by rw [HLI.out]; exact Half.keep HE7.out (KeepT.below hb) (KeepT.below hb), by rw [heq]; exact SlA.below HNW7.out hb⟩)
              have d1 : w7.cell? ⟨p, 0, none⟩ = some (.pointer (some ⟨X2.b, 0, none⟩)) := HS7.out.1.box
              have HVR := Lib.hid (Version_any HS7.out.2.1.1)
              rw [hXb] at HVR d1
              have HTX : Hid (TxAt w7 X2.b { x with d := true }) := Lib.hid (HS7.out.2.2.2.2.2.1 k hk4 _ (by unfold up; rw [if_pos rfl])).1
              clear hS7 hR7 x0 x1 x2 x3 y0 y1 y2 y3 f0 f1 f2 f3 c1 c3 hwy hw6 m0 m1 m2 m3 HC hXb
              rcases hcs with ⟨hc0, heq⟩ | ⟨rfl, rfl, heq⟩ | ⟨rfl, hn, rfl, hrep⟩
              · have he : errV c = .iface 60 (.int .i64 c) := by unfold errV; rw [if_neg hc0]; rfl
                rw [he]
                have HEQ := Lib.hid (HREL7.out heq w7 (Below.refl _ _))
                clear he hc0 heq
                go_wp2_with fail
                go_roundw
                case rel => exact ⟨i + 1, by omega, by go_num, HEQ.out, HBW7.out⟩
                case measure => simp [intOf]; omega
              · rw [show errV 0 = .nilIface from rfl]
                have HEQ := Lib.hid (HREL7.out heq)
                clear heq
                by_cases hv : x.n = X2.N
                · have hvb : (x.n != X2.N) = false := by rw [hv]; simp
                  have HV := Lib.hid hv
                  clear hv
                  go_wp2_with fail
                  refine HVR.out.mono ?_
                  rintro e w8 ⟨rfl, hb8⟩
                  have HB8 := Lib.hid hb8
                  clear hb8
                  go_wp2_with fail
                  refine (TxnVersion_any (HTX.out.below HB8.out).1).mono ?_
                  rintro e w ⟨rfl, h⟩; rw [h]; clear h w
                  have hvc : (x.n == x.n) = true := by simp
                  go_wp2_with fail
                  go_roundw
                  case rel => exact ⟨i + 1, by omega, by go_num, HEQ.out _ HB8.out, Below.step HBW7.out HB8.out⟩
                  case measure => simp [intOf]; omega
                · have hvb : (x.n != X2.N) = true := by simpa using hv
                  clear hv
                  go_wp2_with fail
                  refine HVR.out.mono ?_
                  rintro e w8 ⟨rfl, hb8⟩
                  have HB8 := Lib.hid hb8
                  clear hb8
                  go_wp2_with fail
                  go_roundw
                  case rel => exact ⟨i + 1, by omega, by go_num, HEQ.out _ HB8.out, Below.step HBW7.out HB8.out⟩
                  case measure => simp [intOf]; omega
              · rw [show errV 0 = .nilIface from rfl]
                have hvb : (X2.N != X2.N) = false := by simp
                have hvc : (X2.N == x.n) = false := by simpa using hn
                have HRP := Lib.hid hrep
                clear hrep hn
                go_wp2_with fail
                refine HVR.out.mono ?_
                rintro e w8 ⟨rfl, hb8⟩
                have HB8 := Lib.hid hb8
                clear hb8
                go_wp2_with fail
                refine (TxnVersion_any (HTX.out.below HB8.out).1).mono ?_
                rintro e w ⟨rfl, h⟩; rw [h]; clear h w
                go_wp2_with fail
                obtain ⟨w9, hw9⟩ : ∃ w, w8.drew = w := ⟨_, rfl⟩
                have hbd : Below w7.heap.size w7 w9 := by rw [← hw9]; exact HB8.out.drew
                have HB9 := Lib.hid hbd
                have S9 : LgC w9 D 62 va ∧ LgC w9 E 64 vs := ⟨KeepT.below hbd _ _ _ HD7.out.1, KeepT.below hbd _ _ _ HE7.out.1⟩
                obtain ⟨⟨da, dn, dc⟩, hva⟩ : ∃ z, va k = z := ⟨_, rfl⟩
                obtain ⟨⟨ea, en, ec⟩, hvs⟩ : ∃ z, vs k = z := ⟨_, rfl⟩
                have j0 : ∀ w, LgC w D 62 va ∧ LgC w E 64 vs → w.cell? ⟨D, k, none⟩ = some (.slice da dn dc) := fun w h => by have := h.1.cell hk4; rw [hva] at this; exact this
                have j1 : ∀ w, LgC w D 62 va ∧ LgC w E 64 vs → w.cell? ⟨E, k, none⟩ = some (.slice ea en ec) := fun w h => by have := h.2.cell hk4; rw [hvs] at this; exact this
                have hda : Acs lo w9 (.slice da dn dc) (Al.map Prod.fst) := by
                  have := (HD7.out.2.2.1 k hk4).below hbd
                  rw [hva, lgA_at HFK.out] at this; exact this
                have hea : Ins lo w9 (.slice ea en ec) (Al.map Prod.snd) := by
                  have := (HE7.out.2.2.1 k hk4).below hbd
                  rw [hvs, lgI_at HFK.out] at this; exact this
                have hsl := HS6.out.2.2.2.2.2.1 k hk4 _ HFK.out
                have HRPL := Lib.hid (replay_any (SlA.below HNW7.out hbd) hda hea hsl.2.2.2.2.2.2.2.2 HRP.out (by
                  have h1 := HS6.out.2.2.2.1.1; have h2 := Tr.sz_eq X1.T; have := HIK.out; omega) (by have := hsl.2.2.2.2.2.2.2.1; have := HIK.out; dsimp only at *; omega))
                clear hbd hva hvs hda hea hsl
                refine wp_region_anyH (fun w => LgC w D 62 va ∧ LgC w E 64 vs) (by kernel_rfl) ?_
                rw [hw9]
                clear hw9
                refine AnyH.take (i := 0) (d := some 120) (v := ?_) (by kernel_rfl) rfl rfl HF (fun _ _ _ h => h) (.inl ⟨by rfl, ?_⟩) (by first | assumption | rfl) ?_
                rotate_left
                · intro w hS; try subst hS
                  go_simp; try with_reducible rfl
                try simp only [Act.put, List.setIfInBounds_toArray, List.set_cons_zero, List.set_cons_succ]
                refine AnyH.take (i := 1) (d := some 121) (v := ?_) (by kernel_rfl) rfl rfl HF (fun _ _ _ h => h) (.inl ⟨by rfl, ?_⟩) (by first | assumption | rfl) ?_
                rotate_left
                · intro w hS; try subst hS
                  go_simp; try with_reducible rfl
                try simp only [Act.put, List.setIfInBounds_toArray, List.set_cons_zero, List.set_cons_succ]
                refine AnyH.take (i := 2) (d := some 122) (v := ?_) (by kernel_rfl) rfl rfl HF (fun _ _ _ h => h) (.inl ⟨by rfl, ?_⟩) (by first | assumption | rfl) ?_
                rotate_left
                · intro w hS; try subst hS
                  go_simp; try with_reducible rfl
                try simp only [Act.put, List.setIfInBounds_toArray, List.set_cons_zero, List.set_cons_succ]
                refine AnyH.take (i := 3) (d := some 123) (v := ?_) (by kernel_rfl) rfl rfl HF (fun _ _ _ h => h) (.inl ⟨by rfl, ?_⟩) (by first | assumption | rfl) ?_
                rotate_left
                · intro w hS; try subst hS
                  go_simp; try with_reducible rfl
                try simp only [Act.put, List.setIfInBounds_toArray, List.set_cons_zero, List.set_cons_succ]
                refine AnyH.take (i := 4) (d := some 124) (v := ?_) (by kernel_rfl) rfl rfl HF (fun _ _ _ h => h) (.inl ⟨by rfl, ?_⟩) (by first | assumption | rfl) ?_
                rotate_left
                · intro w hS; try subst hS
                  go_simp; try with_reducible rfl
                try simp only [Act.put, List.setIfInBounds_toArray, List.set_cons_zero, List.set_cons_succ]
                refine AnyH.take (i := 5) (d := some 125) (v := ?_) (by kernel_rfl) rfl rfl HF (fun _ _ _ h => h) (.inl ⟨by rfl, ?_⟩) (by first | assumption | rfl) ?_
                rotate_left
                · intro w hS; try subst hS
                  go_simp; try with_reducible rfl
                try simp only [Act.put, List.setIfInBounds_toArray, List.set_cons_zero, List.set_cons_succ]
                refine AnyH.take (i := 6) (d := some 126) (v := ?_) (by kernel_rfl) rfl rfl HF (fun _ _ _ h => h) (.inl ⟨by rfl, ?_⟩) (by first | assumption | rfl) ?_
                rotate_left
                · intro w hS; try subst hS
                  go_simp; try with_reducible rfl
                try simp only [Act.put, List.setIfInBounds_toArray, List.set_cons_zero, List.set_cons_succ]
                refine AnyH.one (i := 7) (by kernel_rfl) (by kernel_rfl) rfl HF (by rfl) (fun K hK => ?_)
                go_simp
                first | ((with_reducible refine And.intro ?hdep ?_); (case hdep => first | rfl | (intro h; cases h))) | skip
                refine callsIn_wide.2 (HRPL.out.mono ?_)
                rintro e w10 ⟨v10, rfl, hP10, hb10⟩
                have S10 : LgC w10 D 62 va ∧ LgC w10 E 64 vs := ⟨KeepT.below hb10 _ _ _ S9.1, KeepT.below hb10 _ _ _ S9.2⟩
                obtain ⟨pa, pc, hpv⟩ := hP10.len
                obtain ⟨pn, hpn⟩ : ∃ z, X2.T.toList.length = z := ⟨_, rfl⟩
                rw [hpn] at hpv
                subst hpv
                have HP10 := Lib.hid hP10; have HB10 := Lib.hid hb10
                clear hP10 hb10 hpn
                refine hK _ _ S10 ?_
                clear hK K
                try simp only [Act.put, List.setIfInBounds_toArray, List.set_cons_zero, List.set_cons_succ]
                refine AnyH.take (i := 8) (d := some 119) (v := ?_) (by kernel_rfl) rfl rfl HF (fun _ _ _ h => h) (.inl ⟨by rfl, ?_⟩) (by first | assumption | rfl) ?_
                rotate_left
                · intro w hS; try subst hS
                  go_simp; try with_reducible rfl
                try simp only [Act.put, List.setIfInBounds_toArray, List.set_cons_zero, List.set_cons_succ]
                refine AnyH.take (i := 9) (d := some 128) (v := ?_) (by kernel_rfl) rfl rfl HF (fun _ _ _ h => h) (.inl ⟨by rfl, ?_⟩) (by first | assumption | rfl) ?_
                rotate_left
                · intro w hS; try subst hS
                  go_simp; try with_reducible rfl
                try simp only [Act.put, List.setIfInBounds_toArray, List.set_cons_zero, List.set_cons_succ]
                refine AnyH.take (i := 10) (d := some 129) (v := ?_) (by kernel_rfl) rfl rfl HF (fun _ _ _ h => h) (.inl ⟨by rfl, ?_⟩) (by first | assumption | rfl) ?_
                rotate_left
                · intro w hS; try subst hS
                  go_simp; try with_reducible rfl
                try simp only [Act.put, List.setIfInBounds_toArray, List.set_cons_zero, List.set_cons_succ]
                refine AnyH.take (i := 11) (d := some 19) (v := ?_) (by kernel_rfl) rfl rfl HF (fun _ _ _ h => h) (.inl ⟨by rfl, ?_⟩) (by first | assumption | rfl) ?_
                rotate_left
                · intro w hS; try subst hS
                  go_simp; try with_reducible rfl
                try simp only [Act.put, List.setIfInBounds_toArray, List.set_cons_zero, List.set_cons_succ]
                refine AnyH.take (i := 12) (d := some 20) (v := ?_) (by kernel_rfl) rfl rfl HF (fun _ _ _ h => h) (.inl ⟨by rfl, ?_⟩) (by first | assumption | rfl) ?_
                rotate_left
                · intro w hS; try subst hS
                  go_simp; try with_reducible rfl
                try simp only [Act.put, List.setIfInBounds_toArray, List.set_cons_zero, List.set_cons_succ]
                refine AnyH.done (by kernel_rfl) ?_
                have HB11 := Lib.hid (Below.step HB9.out HB10.out)
                have HREL11 : Hid (SerRel lo p sl rs D E (i + 1) (.slice pa pn pc) w10) := Lib.hid ⟨X2, Vs2, _, va, vs, HS7.out.onT (OnT.of HB11.out), by rw [HLA.out]; exact Half.keep HD7.out (KeepT.below HB11.out) (KeepT.below HB11.out), by rw [HLI.out]; exact Half.keep HE7.out (KeepT.below HB11.out) (KeepT.below HB11.out), HP10.out⟩
                have HBW11 := Lib.hid (Below.step HBW7.out HB11.out)
                clear S9 S10 j0 j1 d1
                go_wp2_with fail
                go_roundw
                case rel => exact ⟨i + 1, by omega, by go_num, HREL11.out, HBW11.out⟩
                case measure => simp [intOf]; omega
          · obtain rfl : i = A.length := by omega
            obtain ⟨X1, Vs1, f, va, vs, hSA, hHD, hHE, hnow⟩ := HR.out
            obtain ⟨ua, uc, hu⟩ := hnow.len
            obtain ⟨un, hun⟩ : ∃ n, X1.T.toList.length = n := ⟨_, rfl⟩
            rw [hun] at hu
            subst hu
            have c1 : wr.cell? ⟨p, 0, none⟩ = some (.pointer (some ⟨X1.b, 0, none⟩)) := hSA.1.box
            have hlen : X1.T.toList.length ≤ 1000000 := by
              have h1 := hSA.2.2.2.1.1; have h2 := Tr.sz_eq X1.T; have := HKL.out; omega
            have HL1 := Lib.hid (List_any hSA.2.1 hlen)
            have HNE := Lib.hid hnow; have HLN := Lib.hid hlen
            clear hSA hHD hHE hnow hun hlen
            go_wp2_with fail
            refine HL1.out.mono ?_
            rintro e w7 ⟨v7, rfl, h7, hb7⟩
            have HB7 := Lib.hid (Below.step HBW.out hb7)
            have HLS := Lib.hid (list_same (HNE.out.below hb7) h7 HLN.out)
            clear h7 hb7
            go_wp2_with fail
            refine HLS.out.mono ?_
            rintro e w8 ⟨rfl, hb8⟩
            have HB8 := Lib.hid (Below.step HB7.out hb8)
            clear hb8
            go_wp2_with fail
            go_ret
            exact ⟨rfl, HB8.out⟩
      · have B2 := Lib.hid (Below.step B1.out hb)
        clear h0 hb
        go_wp2_with fail
        go_ret
        exact ⟨rfl, B2.out⟩
    · have t2 : (A.length : Int) > 60 := by omega
      have t1 : ¬ ((L.length : Int) > 20) := by omega
      go_wp2_with fail
      refine (awake_any w1).mono ?_; rintro e w2 ⟨rfl, b2⟩
      have B2 := Lib.hid (Below.step B1.out b2); clear b2
      go_wp2_with fail
      go_ret
      exact ⟨rfl, B2.out⟩
  · have t1 : (L.length : Int) > 20 := by omega
    go_wp2_with fail
    refine (awake_any w1).mono ?_; rintro e w2 ⟨rfl, b2⟩
    have B2 := Lib.hid (Below.step B1.out b2); clear b2
    go_wp2_with fail
    go_ret
    exact ⟨rfl, B2.out⟩
end S
end Go.Proofs.Ytlfodhejpbjfcaa
