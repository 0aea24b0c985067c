/- The specification's Pieces. -/
import Derived.Test.YtpjcfepngjpfbaaTable
import Derived.Test.YtpjcfepngjpfbaaPcP
import Derived.Test.YtpjcfepngjpfbaaParts0
import Derived.Test.YtpjcfepngjpfbaaCom
import Derived.Laws.OwnMore
set_option linter.unusedVariables false
set_option linter.unusedSimpArgs false
namespace Go.Proofs.Ytpjcfepngjpfbaa
open Go.RowKit Go.Lib
/-- append of whatever slice to a slice of the call's own. -/
theorem run_catA {α : Type} {P : Program} {t e : TypeId} {size bytes : Nat} (hE : Elem P t e size bytes) {enc : α → List Value} (he : ∀ a, (enc a).length = size) (h1 : ∀ y, ∀ u ∈ enc y, u.oneCell' = true) (ty : TypeId)
    {B₀ B₁ : Nat} {w : World} {v v2 : Value} {l l2 : List α} (hS : SlA B₀ w e size enc v l) (hS2 : SlA B₁ w e size enc v2 l2) (hbytes : (l.length + l2.length) * bytes ≤ 140737488355328) (hbase : B₀ ≤ w.heap.size) :
    ∃ v' w', (Builtin.append_ #[t, t] ty #[v, v2]).run P w = .ok v' w' ∧ SlA B₀ w' e size enc v' (l ++ l2) ∧ Below B₀ w w' ∧ ∀ t, t ≠ e → KeepT t w w' := by
  rcases hS2.shape with ⟨rfl, rfl⟩ | ⟨g, cap, rfl, -, -⟩
  · obtain ⟨ht, i, z, hi, hz, hsz, hby, hzs, h0, hb0⟩ := hE
    exact ⟨v, w, run_append_owned_none w B₀ t ty e i size ht hi v _ _ hS, by rw [List.append_nil]; exact hS, Below.refl _ _, fun _ _ => KeepT.refl _ _⟩
  · obtain ⟨v', w', hr, ho, hg, hb⟩ := run_catO hE he h1 ty hS hS2 hbytes hbase
    exact ⟨v', w', hr, ho, hb, fun t ht => keep_own hS hg ht⟩
namespace M
attribute [local go_sem] Oper.semAt_some
def encQ (p : Nat × Nat) : List Value := [.int .i64 p.1, .int .i64 p.2]
theorem encQ_len (p : Nat × Nat) : (encQ p).length = 2 := rfl
theorem encQ_one (p : Nat × Nat) : ∀ u ∈ encQ p, u.oneCell' = true := by simp [encQ, Value.oneCell']
abbrev Pcs (B : Nat) (W : World) (v : Value) (L : List (Nat × Nat)) : Prop := SlA B W 51 2 encQ v L
theorem elemQ : Elem Try.prog 45 51 2 16 := elem_of Try.underlying45 (z := .agg #[.int .i64 0, .int .i64 0]) (by kernel_rfl) rfl (by decide) (by decide)
theorem rusF_get (E : List En) (n i : Nat) (h : i < (rusF E n).length) : (rusF E n)[i] = (entAt E i).ru := by simp [rusF]
theorem lnsF_get (E : List En) (n i : Nat) (h : i < (lnsF E n).length) : (lnsF E n)[i] = (txt E i).length := by simp [lnsF]
set_option maxRecDepth 100000 in
set_option maxHeartbeats 8000000 in
theorem refPc_any {E : List En} (hwd : WfD E) (hE : E.length ≤ 1048576) {f t : Nat} (hft : f ≤ t) : ∀ (i : Nat), i ≤ E.length → (entAt E i).even = true → ∀ (a : Nat) (W : World) (rv lv : Value) (z0 : Nat), a + (txt E i).length ≤ 1152921504606846976 → Rus z0 W rv (rusF E (E.length + 1)) → Lns z0 W lv (lnsF E (E.length + 1)) →
    Calls Try.prog 19 #[rv, lv, .int .i64 i, .int .i64 a, .int .i64 f, .int .i64 t] W fun e w' => ∃ v, e = .returned v ∧ Pcs W.heap.size w' v (pcF E f t i a) ∧ Below W.heap.size W w' := by
  have HF : ∀ f, Fence.wide.fn f := fun _ => trivial
  have HWD := Lib.hid hwd; have HEL := Lib.hid hE; have HFT := Lib.hid hft
  clear hwd hE hft
  intro i
  induction i using Nat.strongRecOn with
  | _ i ih =>
    intro hi he a W rv lv z0 hab hR hL
    have HIH := Lib.hid ih
    have HI := Lib.hid hi; have HEV := Lib.hid he; have HAB := Lib.hid hab
    have HR := Lib.hid hR; have HL := Lib.hid hL
    obtain ⟨N, hN⟩ : ∃ N, E.length + 1 = N := ⟨_, rfl⟩
    have HN := Lib.hid hN
    have hRl : (rusF E (E.length + 1)).length = N := by rw [rusF_len, hN]
    have hLl : (lnsF E (E.length + 1)).length = N := by rw [lnsF_len, hN]
    obtain ⟨gr, rc, rfl⟩ : ∃ gr rc, rv = .slice (some ⟨gr, 0, none⟩) N rc := by
      rcases hR.shape with ⟨-, h⟩ | ⟨g, c, h, -⟩
      · rw [h] at hRl; simp at hRl; omega
      · exact ⟨g, c, by rw [h, hRl]⟩
    obtain ⟨gl, lc, rfl⟩ : ∃ gl lc, lv = .slice (some ⟨gl, 0, none⟩) N lc := by
      rcases hL.shape with ⟨-, h⟩ | ⟨g, c, h, -⟩
      · rw [h] at hLl; simp at hLl; omega
      · exact ⟨g, c, by rw [h, hLl]⟩
    have HRC : Hid (∀ w, Below W.heap.size W w → ∀ j, j ≤ E.length → w.cell? ⟨gl, j, none⟩ = some (.int .i64 ((txt E j).length : Nat))) := Lib.hid (fun w hw j hj => by
      have h := SlA.cell encLn_len (hL.below hw) (i := j) (by rw [hLl]; omega) (j := 0) (by omega)
      rw [lnsF_get, Nat.mul_one, Nat.add_zero] at h
      exact h)
    have HRR : Hid (∀ w, Below W.heap.size W w → ∀ k, k < 5 → w.cell? ⟨gr, i * 5 + k, none⟩ = (encRu (entAt E i).ru)[k]?) := Lib.hid (fun w hw k hk => by
      have h := SlA.cell encRu_len (hR.below hw) (i := i) (by rw [hRl]; omega) (j := k) hk
      rw [rusF_get] at h
      exact h)
    have c0 := HRC.out W (Below.refl _ _) i hi
    have hiN : i < N := by omega
    have hiI : (i : Int) < (N : Int) := by omega
    obtain ⟨ln, hln⟩ : ∃ n, (txt E i).length = n := ⟨_, rfl⟩
    have HLN := Lib.hid hln
    rw [hln] at c0 hab
    have hew : IntKind.i64.wrap ((a : Int) + (ln : Int)) = ((a + ln : Nat) : Int) := by rw [IntKind.wrap_i64]; omega
    obtain ⟨en, hen⟩ : ∃ y, a + ln = y := ⟨_, rfl⟩
    have HEN : Hid (a + (txt E i).length = en) := Lib.hid (by rw [hln]; exact hen)
    rw [hen] at hew
    clear ih hi he hab hR hL hN hRl hLl hln hen
    by_cases h0 : i = 0
    · have b0 : ((i : Int) == 0) = true := by simp [h0]
      have HP : Hid (pcF E f t i a = []) := Lib.hid (by rw [h0]; exact pcF_skip zero_skip)
      rw [HP.out]
      clear h0
      go_enter Try.func19, Try.ntmps19
      go_wp2_with fail
      go_ret
      exact ⟨_, rfl, SlA.nil _ _ _ _ _, Below.refl _ _⟩
    · have b0 : ((i : Int) == 0) = false := by simp; omega
      by_cases h1 : en ≤ f
      · have d1 : (en : Int) ≤ (f : Int) := by omega
        have HP : Hid (pcF E f t i a = []) := Lib.hid (pcF_skip (by rw [HEN.out]; omega))
        rw [HP.out]
        clear h0
        go_enter Try.func19, Try.ntmps19
        go_wp2_with fail
        go_ret
        exact ⟨_, rfl, SlA.nil _ _ _ _ _, Below.refl _ _⟩
      · have d1 : ¬ (en : Int) ≤ (f : Int) := by omega
        by_cases h2 : t ≤ a
        · have d2 : (t : Int) ≤ (a : Int) := by omega
          have HP : Hid (pcF E f t i a = []) := Lib.hid (pcF_skip (by rw [HEN.out]; omega))
          rw [HP.out]
          clear h0
          go_enter Try.func19, Try.ntmps19
          go_wp2_with fail
          go_ret
          exact ⟨_, rfl, SlA.nil _ _ _ _ _, Below.refl _ _⟩
        · have d2 : ¬ (t : Int) ≤ (a : Int) := by omega
          rcases pcF_ref HWD.out HFT.out (f := f) (t := t) (a := a) (Nat.pos_of_ne_zero h0) HI.out HEV.out (by rw [HEN.out]; omega) (by omega) with ⟨c3, c4, c5⟩ | ⟨c3, lx, rx, hn, c5⟩
          · rw [HEN.out] at c4
            have d3 : (f : Int) ≤ (a : Int) := by omega
            have d4 : (en : Int) ≤ (t : Int) := by omega
            rw [c5]
            obtain ⟨W1, hW1⟩ : ∃ w, W.alloc (.cells #[.int .i64 a, .int .i64 i] 51) = w := ⟨_, rfl⟩
            have l1 : Pcs W.heap.size W1 (.slice (some ⟨W.heap.size, 0, none⟩) 1 1) [(a, i)] := by rw [← hW1]; exact SlA.lit (l := [(a, i)]) encQ_len rfl (by simp; unfold maxLen; omega)
            have b1 : Below W.heap.size W W1 := by rw [← hW1]; exact (Below.refl _ _).alloc (Nat.le_refl _) _
            have H1 := Lib.hid l1; have HB := Lib.hid b1
            clear h0 l1 b1 c5
            go_enter Try.func19, Try.ntmps19
            go_wp2_with fail
            go_ret
            exact ⟨_, rfl, H1.out, HB.out⟩
          · rw [HEN.out] at c3
            have hll : lx ≤ E.length := by have h1 := hn.ll; have h2 := HI.out; omega
            have hrr : rx ≤ E.length := by have h1 := hn.rl; have h2 := HI.out; omega
            have hlen : (txt E i).length = (txt E lx).length + (txt E rx).length := by rw [hn.txt, List.length_append]
            have HIL := Lib.hid (HIH.out lx hn.ll hll hn.le a)
            have HIR := Lib.hid (HIH.out rx hn.rl hrr hn.re (a + (txt E lx).length))
            obtain ⟨am, ham⟩ : ∃ y, a + (txt E lx).length = y := ⟨_, rfl⟩
            have HML := Lib.hid (pcF_many HWD.out (f := f) (t := t) lx a hll hn.le); have HMR := Lib.hid (pcF_many HWD.out (f := f) (t := t) rx am hrr hn.re)
            have HDP : Hid ((entAt E lx).depth ≤ 1048576 ∧ (entAt E rx).depth ≤ 1048576) := Lib.hid (by
              have h1 := (HWD.out.wf.get lx hn.l0 hll).2.2.2; have h2 := (HWD.out.wf.get rx hn.r0 hrr).2.2.2; have h3 := HEL.out
              omega)
            have HAL : Hid (a + (txt E lx).length ≤ 1152921504606846976 ∧ am + (txt E rx).length ≤ 1152921504606846976) := Lib.hid (by have := HAB.out; omega)
            have hcl := fun w hw => HRC.out w hw lx hll
            have haw : IntKind.i64.wrap ((a : Int) + ((txt E lx).length : Int)) = (am : Int) := by rw [IntKind.wrap_i64]; have := HAL.out; omega
            obtain ⟨ll, hlle⟩ : ∃ y, (txt E lx).length = y := ⟨_, rfl⟩
            rw [hlle] at hcl haw
            rw [c5]
            rw [ham] at HIR ⊢
            obtain ⟨r, hr⟩ : ∃ r, (entAt E i).ru = r := ⟨_, rfl⟩
            have hrl : r.left = lx := by rw [← hr]; exact hn.left
            have hrx : r.right = rx := by rw [← hr]; exact hn.right
            rw [hr] at HRR
            have HLX := Lib.hid hrl; have HRX := Lib.hid hrx
            rw [← hrl] at hcl
            have hlN : r.left < N := by have := HN.out; omega
            have hlI : (r.left : Int) < (N : Int) := by omega
            obtain ⟨P1, hP1⟩ : ∃ L, pcF E f t lx a = L := ⟨_, rfl⟩
            obtain ⟨P2, hP2⟩ : ∃ L, pcF E f t rx am = L := ⟨_, rfl⟩
            rw [hP1] at HIL HML ⊢
            rw [hP2] at HIR HMR ⊢
            have q0 : W.cell? ⟨gr, i * 5, none⟩ = some (.int .i64 r.kind) := HRR.out W (Below.refl _ _) 0 (by omega)
            have q1 : W.cell? ⟨gr, i * 5 + 1, none⟩ = some (.int .u8 r.letter) := HRR.out W (Below.refl _ _) 1 (by omega)
            have q2 : W.cell? ⟨gr, i * 5 + 2, none⟩ = some (.int .i64 r.left) := HRR.out W (Below.refl _ _) 2 (by omega)
            have q3 : W.cell? ⟨gr, i * 5 + 3, none⟩ = some (.int .i64 r.right) := HRR.out W (Below.refl _ _) 3 (by omega)
            have q4 : W.cell? ⟨gr, i * 5 + 4, none⟩ = some (.int .i64 r.times) := HRR.out W (Below.refl _ _) 4 (by omega)
            obtain ⟨wz, w6, hz, hs6, kr, br, ⟨r0, r1, r2, r3, r4⟩, e0, e1, e2, e3, e4⟩ := newRu W r
            obtain ⟨g14, hg14⟩ : ∃ g, W.heap.size = g := ⟨_, rfl⟩
            rw [hg14] at hs6 kr r0 r1 r2 r3 r4 e0 e1 e2 e3 e4
            obtain ⟨-, -, i2, i3, -⟩ := kr.cells
            have HB6 := Lib.hid br; have HK6 := Lib.hid kr
            have HRC6 := Lib.hid (HIL.out w6 (.slice (some ⟨gr, 0, none⟩) N rc) (.slice (some ⟨gl, 0, none⟩) N lc) z0 HAL.out.1 (SlA.below HR.out br) (SlA.below HL.out br))
            rw [← hrl] at HRC6
            have HG14 := Lib.hid hg14
            clear h0 hn hll hrr hlen ham hlle hr hrl hrx hP1 hP2 br kr c5 HIL
            by_cases c6 : f ≤ a
            · have d3 : (f : Int) ≤ (a : Int) := by omega
              have d4 : ¬ (en : Int) ≤ (t : Int) := by omega
              have d5 : ¬ en ≤ t := by omega
              go_enter Try.func19, Try.ntmps19
              go_wp2_with fail
              refine HRC6.out.mono ?_; rintro e' w7 ⟨v1, rfl, hv1, b7⟩
              have HV1 := Lib.hid (SlA.mono hv1 HB6.out.size)
              have HB7 := Lib.hid (Below.after HB6.out b7)
              have HK7 : Hid (RuC w7 g14 r) := Lib.hid (below_block b7 HK6.out)
              obtain ⟨a1, c1, e1'⟩ := hv1.len
              obtain ⟨n1, hn1⟩ : ∃ n, P1.length = n := ⟨_, rfl⟩
              rw [hn1] at e1'
              subst e1'
              have HN1 := Lib.hid hn1
              clear hv1 b7 hn1 hz hs6 r0 r1 r2 r3 r4 e0 e1 e2 e3 e4 i2 i3 q0 q1 q2 q3 q4 hg14 HRC6 c0
              go_wp2_with fail
              have m0 : ∀ w, (Below W.heap.size W w ∧ RuC w g14 r) → w.cell? ⟨g14, 2, none⟩ = some (.int .i64 r.left) := fun w h => h.2.cells.2.2.1
              have m1 : ∀ w, (Below W.heap.size W w ∧ RuC w g14 r) → w.cell? ⟨g14, 3, none⟩ = some (.int .i64 r.right) := fun w h => h.2.cells.2.2.2.1
              have m2 : ∀ w, (Below W.heap.size W w ∧ RuC w g14 r) → w.cell? ⟨gl, r.left, none⟩ = some (.int .i64 ll) := fun w h => hcl w h.1
              refine wp_region_anyH (fun w => Below W.heap.size W w ∧ RuC w g14 r) (by kernel_rfl) ?_
              have S0 : (fun w => Below W.heap.size W w ∧ RuC w g14 r) w7.drew := ⟨HB7.out.drew, HK7.out⟩
              obtain ⟨wd, hwd⟩ : ∃ y, w7.drew = y := ⟨_, rfl⟩
              have HV1d := Lib.hid (SlA.below HV1.out (Below.refl w7.heap.size w7).drew)
              rw [hwd] at S0 HV1d ⊢
              have HRD := Lib.hid (HIR.out wd (.slice (some ⟨gr, 0, none⟩) N rc) (.slice (some ⟨gl, 0, none⟩) N lc) z0 HAL.out.2 (SlA.below HR.out S0.1) (SlA.below HL.out S0.1))
              rw [← HRX.out] at HRD
              clear hwd
              refine AnyH.take (i := 0) (d := some 58) (v := ?_) (by kernel_rfl) rfl rfl HF (fun _ _ _ h => h) (.inl ⟨by rfl, ?_⟩) (by first | assumption | rfl) ?_
              rotate_left
              · intro w hS; try subst hS
                go_simp; try with_reducible rfl
              try simp only [Act.put, List.setIfInBounds_toArray, List.set_cons_zero, List.set_cons_succ]
              refine AnyH.take (i := 1) (d := some 59) (v := ?_) (by kernel_rfl) rfl rfl HF (fun _ _ _ h => h) (.inl ⟨by rfl, ?_⟩) (by first | assumption | rfl) ?_
              rotate_left
              · intro w hS; try subst hS
                go_simp; try with_reducible rfl
              try simp only [Act.put, List.setIfInBounds_toArray, List.set_cons_zero, List.set_cons_succ]
              refine AnyH.take (i := 2) (d := some 60) (v := ?_) (by kernel_rfl) rfl rfl HF (fun _ _ _ h => h) (.inl ⟨by rfl, ?_⟩) (by first | assumption | rfl) ?_
              rotate_left
              · intro w hS; try subst hS
                go_simp; try with_reducible rfl
              try simp only [Act.put, List.setIfInBounds_toArray, List.set_cons_zero, List.set_cons_succ]
              refine AnyH.take (i := 3) (d := some 61) (v := ?_) (by kernel_rfl) rfl rfl HF (fun _ _ _ h => h) (.inl ⟨by rfl, ?_⟩) (by first | assumption | rfl) ?_
              rotate_left
              · intro w hS; try subst hS
                go_simp; try with_reducible rfl
              try simp only [Act.put, List.setIfInBounds_toArray, List.set_cons_zero, List.set_cons_succ]
              refine AnyH.take (i := 4) (d := some 62) (v := ?_) (by kernel_rfl) rfl rfl HF (fun _ _ _ h => h) (.inl ⟨by rfl, ?_⟩) (by first | assumption | rfl) ?_
              rotate_left
              · intro w hS; try subst hS
                go_simp; try with_reducible rfl
              try simp only [Act.put, List.setIfInBounds_toArray, List.set_cons_zero, List.set_cons_succ]
              refine AnyH.take (i := 5) (d := some 63) (v := ?_) (by kernel_rfl) rfl rfl HF (fun _ _ _ h => h) (.inl ⟨by rfl, ?_⟩) (by first | assumption | rfl) ?_
              rotate_left
              · intro w hS; try subst hS
                go_simp; try with_reducible rfl
              try simp only [Act.put, List.setIfInBounds_toArray, List.set_cons_zero, List.set_cons_succ]
              refine AnyH.take (i := 6) (d := some 64) (v := ?_) (by kernel_rfl) rfl rfl HF (fun _ _ _ h => h) (.inl ⟨by rfl, ?_⟩) (by first | assumption | rfl) ?_
              rotate_left
              · intro w hS; try subst hS
                go_simp; try with_reducible rfl
              try simp only [Act.put, List.setIfInBounds_toArray, List.set_cons_zero, List.set_cons_succ]
              refine AnyH.take (i := 7) (d := some 65) (v := ?_) (by kernel_rfl) rfl rfl HF (fun _ _ _ h => h) (.inl ⟨by rfl, ?_⟩) (by first | assumption | rfl) ?_
              rotate_left
              · intro w hS; try subst hS
                go_simp; try with_reducible rfl
              try simp only [Act.put, List.setIfInBounds_toArray, List.set_cons_zero, List.set_cons_succ]
              refine AnyH.take (i := 8) (d := some 66) (v := ?_) (by kernel_rfl) rfl rfl HF (fun _ _ _ h => h) (.inl ⟨by rfl, ?_⟩) (by first | assumption | rfl) ?_
              rotate_left
              · intro w hS; try subst hS
                go_simp; try with_reducible rfl
              try simp only [Act.put, List.setIfInBounds_toArray, List.set_cons_zero, List.set_cons_succ]
              refine AnyH.take (i := 9) (d := some 67) (v := ?_) (by kernel_rfl) rfl rfl HF (fun _ _ _ h => h) (.inl ⟨by rfl, ?_⟩) (by first | assumption | rfl) ?_
              rotate_left
              · intro w hS; try subst hS
                go_simp; try with_reducible rfl
              try simp only [Act.put, List.setIfInBounds_toArray, List.set_cons_zero, List.set_cons_succ]
              refine AnyH.take (i := 10) (d := some 68) (v := ?_) (by kernel_rfl) rfl rfl HF (fun _ _ _ h => h) (.inl ⟨by rfl, ?_⟩) (by first | assumption | rfl) ?_
              rotate_left
              · intro w hS; try subst hS
                go_simp; try with_reducible rfl
              try simp only [Act.put, List.setIfInBounds_toArray, List.set_cons_zero, List.set_cons_succ]
              refine AnyH.take (i := 11) (d := some 69) (v := ?_) (by kernel_rfl) rfl rfl HF (fun _ _ _ h => h) (.inl ⟨by rfl, ?_⟩) (by first | assumption | rfl) ?_
              rotate_left
              · intro w hS; try subst hS
                go_simp; try with_reducible rfl
              try simp only [Act.put, List.setIfInBounds_toArray, List.set_cons_zero, List.set_cons_succ]
              refine AnyH.take (i := 12) (d := some 70) (v := ?_) (by kernel_rfl) rfl rfl HF (fun _ _ _ h => h) (.inl ⟨by rfl, ?_⟩) (by first | assumption | rfl) ?_
              rotate_left
              · intro w hS; try subst hS
                go_simp; try with_reducible rfl
              try simp only [Act.put, List.setIfInBounds_toArray, List.set_cons_zero, List.set_cons_succ]
              refine AnyH.take (i := 13) (d := some 71) (v := ?_) (by kernel_rfl) rfl rfl HF (fun _ _ _ h => h) (.inl ⟨by rfl, ?_⟩) (by first | assumption | rfl) ?_
              rotate_left
              · intro w hS; try subst hS
                go_simp; try with_reducible rfl
              try simp only [Act.put, List.setIfInBounds_toArray, List.set_cons_zero, List.set_cons_succ]
              refine AnyH.one (i := 14) (by kernel_rfl) (by kernel_rfl) rfl HF (by rfl) (fun K hK => ?_)
              go_simp
              first | ((with_reducible refine And.intro ?hdep ?_); (case hdep => first | rfl | (intro h; cases h))) | skip
              first | refine callsIn_wide.2 (HRD.out.mono ?_) | refine ⟨(fun h => by cases h), callsIn_wide.2 (HRD.out.mono ?_)⟩ | refine ⟨trivial, (fun h => by cases h), callsIn_wide.2 (HRD.out.mono ?_)⟩ | refine HRD.out.mono ?_
              rintro e' w8 ⟨v2, rfl, hv2, b8⟩
              have s8 : (fun w => Below W.heap.size W w ∧ RuC w g14 r) w8 := ⟨Below.after S0.1 b8, below_block b8 S0.2⟩
              have HV1c := Lib.hid (SlA.below HV1d.out b8)
              refine hK _ _ s8 ?_
              clear hK K
              try simp only [Act.put, List.setIfInBounds_toArray, List.set_cons_zero, List.set_cons_succ]
              obtain ⟨v9, w9, hrun, hown, hb9, hkt9⟩ := run_catA elemQ encQ_len encQ_one 45 HV1c.out hv2 (by have h1 := HML.out; have h2 := HMR.out; have h3 := HDP.out; omega) s8.1.size
              have s9 : (fun w => Below W.heap.size W w ∧ RuC w g14 r) w9 := ⟨s8.1.trans hb9, hkt9 _ (by decide) _ _ _ s8.2⟩
              have H9 := Lib.hid hown; have HB9 := Lib.hid s9.1
              refine AnyH.one (i := 15) (by kernel_rfl) (by kernel_rfl) rfl HF (by rfl) (fun K hK => ?_)
              simp [execOp, resolve, invoke, builtin, hrun, Result.andThen, Act.eval, Oper.uponIn]
              refine hK _ _ s9 ?_
              try simp only [Act.put, List.setIfInBounds_toArray, List.set_cons_zero, List.set_cons_succ]
              clear hK K hown hb9 s8 hv2 b8 S0 hrun hkt9
              refine AnyH.take (i := 16) (d := some 12) (v := ?_) (by kernel_rfl) rfl rfl HF (fun _ _ _ h => h) (.inl ⟨by rfl, ?_⟩) (by first | assumption | rfl) ?_
              rotate_left
              · intro w hS; try subst hS
                go_simp; try with_reducible rfl
              try simp only [Act.put, List.setIfInBounds_toArray, List.set_cons_zero, List.set_cons_succ]
              refine AnyH.done (by kernel_rfl) ?_
              clear m0 m1 m2 hcl s9
              go_wp2_with fail
              exact bodyPost_ret (v := v9) (by simp [results, Try.results19, go_sem]) rfl ⟨_, rfl, H9.out, HB9.out⟩
            · have d3 : ¬ (f : Int) ≤ (a : Int) := by omega
              go_enter Try.func19, Try.ntmps19
              go_wp2_with fail
              refine HRC6.out.mono ?_; rintro e' w7 ⟨v1, rfl, hv1, b7⟩
              have HV1 := Lib.hid (SlA.mono hv1 HB6.out.size)
              have HB7 := Lib.hid (Below.after HB6.out b7)
              have HK7 : Hid (RuC w7 g14 r) := Lib.hid (below_block b7 HK6.out)
              obtain ⟨a1, c1, e1'⟩ := hv1.len
              obtain ⟨n1, hn1⟩ : ∃ n, P1.length = n := ⟨_, rfl⟩
              rw [hn1] at e1'
              subst e1'
              have HN1 := Lib.hid hn1
              clear hv1 b7 hn1 hz hs6 r0 r1 r2 r3 r4 e0 e1 e2 e3 e4 i2 i3 q0 q1 q2 q3 q4 hg14 HRC6 c0
              go_wp2_with fail
              have m0 : ∀ w, (Below W.heap.size W w ∧ RuC w g14 r) → w.cell? ⟨g14, 2, none⟩ = some (.int .i64 r.left) := fun w h => h.2.cells.2.2.1
              have m1 : ∀ w, (Below W.heap.size W w ∧ RuC w g14 r) → w.cell? ⟨g14, 3, none⟩ = some (.int .i64 r.right) := fun w h => h.2.cells.2.2.2.1
              have m2 : ∀ w, (Below W.heap.size W w ∧ RuC w g14 r) → w.cell? ⟨gl, r.left, none⟩ = some (.int .i64 ll) := fun w h => hcl w h.1
              refine wp_region_anyH (fun w => Below W.heap.size W w ∧ RuC w g14 r) (by kernel_rfl) ?_
              have S0 : (fun w => Below W.heap.size W w ∧ RuC w g14 r) w7.drew := ⟨HB7.out.drew, HK7.out⟩
              obtain ⟨wd, hwd⟩ : ∃ y, w7.drew = y := ⟨_, rfl⟩
              have HV1d := Lib.hid (SlA.below HV1.out (Below.refl w7.heap.size w7).drew)
              rw [hwd] at S0 HV1d ⊢
              have HRD := Lib.hid (HIR.out wd (.slice (some ⟨gr, 0, none⟩) N rc) (.slice (some ⟨gl, 0, none⟩) N lc) z0 HAL.out.2 (SlA.below HR.out S0.1) (SlA.below HL.out S0.1))
              rw [← HRX.out] at HRD
              clear hwd
              refine AnyH.take (i := 0) (d := some 58) (v := ?_) (by kernel_rfl) rfl rfl HF (fun _ _ _ h => h) (.inl ⟨by rfl, ?_⟩) (by first | assumption | rfl) ?_
              rotate_left
              · intro w hS; try subst hS
                go_simp; try with_reducible rfl
              try simp only [Act.put, List.setIfInBounds_toArray, List.set_cons_zero, List.set_cons_succ]
              refine AnyH.take (i := 1) (d := some 59) (v := ?_) (by kernel_rfl) rfl rfl HF (fun _ _ _ h => h) (.inl ⟨by rfl, ?_⟩) (by first | assumption | rfl) ?_
              rotate_left
              · intro w hS; try subst hS
                go_simp; try with_reducible rfl
              try simp only [Act.put, List.setIfInBounds_toArray, List.set_cons_zero, List.set_cons_succ]
              refine AnyH.take (i := 2) (d := some 60) (v := ?_) (by kernel_rfl) rfl rfl HF (fun _ _ _ h => h) (.inl ⟨by rfl, ?_⟩) (by first | assumption | rfl) ?_
              rotate_left
              · intro w hS; try subst hS
                go_simp; try with_reducible rfl
              try simp only [Act.put, List.setIfInBounds_toArray, List.set_cons_zero, List.set_cons_succ]
              refine AnyH.take (i := 3) (d := some 61) (v := ?_) (by kernel_rfl) rfl rfl HF (fun _ _ _ h => h) (.inl ⟨by rfl, ?_⟩) (by first | assumption | rfl) ?_
              rotate_left
              · intro w hS; try subst hS
                go_simp; try with_reducible rfl
              try simp only [Act.put, List.setIfInBounds_toArray, List.set_cons_zero, List.set_cons_succ]
              refine AnyH.take (i := 4) (d := some 62) (v := ?_) (by kernel_rfl) rfl rfl HF (fun _ _ _ h => h) (.inl ⟨by rfl, ?_⟩) (by first | assumption | rfl) ?_
              rotate_left
              · intro w hS; try subst hS
                go_simp; try with_reducible rfl
              try simp only [Act.put, List.setIfInBounds_toArray, List.set_cons_zero, List.set_cons_succ]
              refine AnyH.take (i := 5) (d := some 63) (v := ?_) (by kernel_rfl) rfl rfl HF (fun _ _ _ h => h) (.inl ⟨by rfl, ?_⟩) (by first | assumption | rfl) ?_
              rotate_left
              · intro w hS; try subst hS
                go_simp; try with_reducible rfl
              try simp only [Act.put, List.setIfInBounds_toArray, List.set_cons_zero, List.set_cons_succ]
              refine AnyH.take (i := 6) (d := some 64) (v := ?_) (by kernel_rfl) rfl rfl HF (fun _ _ _ h => h) (.inl ⟨by rfl, ?_⟩) (by first | assumption | rfl) ?_
              rotate_left
              · intro w hS; try subst hS
                go_simp; try with_reducible rfl
              try simp only [Act.put, List.setIfInBounds_toArray, List.set_cons_zero, List.set_cons_succ]
              refine AnyH.take (i := 7) (d := some 65) (v := ?_) (by kernel_rfl) rfl rfl HF (fun _ _ _ h => h) (.inl ⟨by rfl, ?_⟩) (by first | assumption | rfl) ?_
              rotate_left
              · intro w hS; try subst hS
                go_simp; try with_reducible rfl
              try simp only [Act.put, List.setIfInBounds_toArray, List.set_cons_zero, List.set_cons_succ]
              refine AnyH.take (i := 8) (d := some 66) (v := ?_) (by kernel_rfl) rfl rfl HF (fun _ _ _ h => h) (.inl ⟨by rfl, ?_⟩) (by first | assumption | rfl) ?_
              rotate_left
              · intro w hS; try subst hS
                go_simp; try with_reducible rfl
              try simp only [Act.put, List.setIfInBounds_toArray, List.set_cons_zero, List.set_cons_succ]
              refine AnyH.take (i := 9) (d := some 67) (v := ?_) (by kernel_rfl) rfl rfl HF (fun _ _ _ h => h) (.inl ⟨by rfl, ?_⟩) (by first | assumption | rfl) ?_
              rotate_left
              · intro w hS; try subst hS
                go_simp; try with_reducible rfl
              try simp only [Act.put, List.setIfInBounds_toArray, List.set_cons_zero, List.set_cons_succ]
              refine AnyH.take (i := 10) (d := some 68) (v := ?_) (by kernel_rfl) rfl rfl HF (fun _ _ _ h => h) (.inl ⟨by rfl, ?_⟩) (by first | assumption | rfl) ?_
              rotate_left
              · intro w hS; try subst hS
                go_simp; try with_reducible rfl
              try simp only [Act.put, List.setIfInBounds_toArray, List.set_cons_zero, List.set_cons_succ]
              refine AnyH.take (i := 11) (d := some 69) (v := ?_) (by kernel_rfl) rfl rfl HF (fun _ _ _ h => h) (.inl ⟨by rfl, ?_⟩) (by first | assumption | rfl) ?_
              rotate_left
              · intro w hS; try subst hS
                go_simp; try with_reducible rfl
              try simp only [Act.put, List.setIfInBounds_toArray, List.set_cons_zero, List.set_cons_succ]
              refine AnyH.take (i := 12) (d := some 70) (v := ?_) (by kernel_rfl) rfl rfl HF (fun _ _ _ h => h) (.inl ⟨by rfl, ?_⟩) (by first | assumption | rfl) ?_
              rotate_left
              · intro w hS; try subst hS
                go_simp; try with_reducible rfl
              try simp only [Act.put, List.setIfInBounds_toArray, List.set_cons_zero, List.set_cons_succ]
              refine AnyH.take (i := 13) (d := some 71) (v := ?_) (by kernel_rfl) rfl rfl HF (fun _ _ _ h => h) (.inl ⟨by rfl, ?_⟩) (by first | assumption | rfl) ?_
              rotate_left
              · intro w hS; try subst hS
                go_simp; try with_reducible rfl
              try simp only [Act.put, List.setIfInBounds_toArray, List.set_cons_zero, List.set_cons_succ]
              refine AnyH.one (i := 14) (by kernel_rfl) (by kernel_rfl) rfl HF (by rfl) (fun K hK => ?_)
              go_simp
              first | ((with_reducible refine And.intro ?hdep ?_); (case hdep => first | rfl | (intro h; cases h))) | skip
              first | refine callsIn_wide.2 (HRD.out.mono ?_) | refine ⟨(fun h => by cases h), callsIn_wide.2 (HRD.out.mono ?_)⟩ | refine ⟨trivial, (fun h => by cases h), callsIn_wide.2 (HRD.out.mono ?_)⟩ | refine HRD.out.mono ?_
              rintro e' w8 ⟨v2, rfl, hv2, b8⟩
              have s8 : (fun w => Below W.heap.size W w ∧ RuC w g14 r) w8 := ⟨Below.after S0.1 b8, below_block b8 S0.2⟩
              have HV1c := Lib.hid (SlA.below HV1d.out b8)
              refine hK _ _ s8 ?_
              clear hK K
              try simp only [Act.put, List.setIfInBounds_toArray, List.set_cons_zero, List.set_cons_succ]
              obtain ⟨v9, w9, hrun, hown, hb9, hkt9⟩ := run_catA elemQ encQ_len encQ_one 45 HV1c.out hv2 (by have h1 := HML.out; have h2 := HMR.out; have h3 := HDP.out; omega) s8.1.size
              have s9 : (fun w => Below W.heap.size W w ∧ RuC w g14 r) w9 := ⟨s8.1.trans hb9, hkt9 _ (by decide) _ _ _ s8.2⟩
              have H9 := Lib.hid hown; have HB9 := Lib.hid s9.1
              refine AnyH.one (i := 15) (by kernel_rfl) (by kernel_rfl) rfl HF (by rfl) (fun K hK => ?_)
              simp [execOp, resolve, invoke, builtin, hrun, Result.andThen, Act.eval, Oper.uponIn]
              refine hK _ _ s9 ?_
              try simp only [Act.put, List.setIfInBounds_toArray, List.set_cons_zero, List.set_cons_succ]
              clear hK K hown hb9 s8 hv2 b8 S0 hrun hkt9
              refine AnyH.take (i := 16) (d := some 12) (v := ?_) (by kernel_rfl) rfl rfl HF (fun _ _ _ h => h) (.inl ⟨by rfl, ?_⟩) (by first | assumption | rfl) ?_
              rotate_left
              · intro w hS; try subst hS
                go_simp; try with_reducible rfl
              try simp only [Act.put, List.setIfInBounds_toArray, List.set_cons_zero, List.set_cons_succ]
              refine AnyH.done (by kernel_rfl) ?_
              clear m0 m1 m2 hcl s9
              go_wp2_with fail
              exact bodyPost_ret (v := v9) (by simp [results, Try.results19, go_sem]) rfl ⟨_, rfl, H9.out, HB9.out⟩
end M
end Go.Proofs.Ytpjcfepngjpfbaa
