/- plays: changes one after another, the map and the reference's list side by side. -/
import Derived.Test.YtdgclambplipnaaIsii
import Derived.Test.YtdgclambplipnaaAskAllii
import Derived.Test.YtdgclambplipnaaEndsii
namespace Go.Proofs.Ytdgclambplipnaa
open Go.RowKit Go.Shelf
namespace ii

/-- A slice of changes, wherever it lies: each in three cells. -/
def ActsAt (W : World) (v : Value) (L : List (Bool × Int × Int)) : Prop :=
  ∃ a cap, v = .slice a L.length cap ∧ ∀ (i : Nat) (h : i < L.length), ∃ b, a = some b ∧ W.cell? (b.add (i * 3)) = some (.bool L[i].1) ∧ W.cell? ⟨(b.add (i * 3)).block, (b.add (i * 3)).off + 1, none⟩ = some (Value.int .i64 L[i].2.1) ∧ W.cell? ⟨(b.add (i * 3)).block, (b.add (i * 3)).off + 2, none⟩ = some (.int .i64 L[i].2.2)
theorem cell_below {A C : World} {a : Addr} {v : Value} (h : A.cell? a = some v) (hb : Below A.heap.size A C) : C.cell? a = some v := by
  have h2 := h
  unfold World.cell? at h ⊢
  cases hh : A.heap[a.block]? with
  | none => rw [hh] at h; cases h
  | some o =>
    rw [hb.block a.block (Array.getElem?_eq_some_iff.1 hh).1]
    exact h
/-- The map: its box, its tree. -/
def MB (W : World) (B : Nat) (T : Tr Int Int) : Prop := ∃ q, W.heap[B]? = some (.cells #[.pointer q] 26 (0, 0)) ∧ Is W q T
theorem MB.below {A C : World} {B : Nat} {T : Tr Int Int} (h : MB A B T) (hb : Below A.heap.size A C) : MB C B T := by
  obtain ⟨q, h1, h2⟩ := h; exact ⟨q, box_below hb h1, h2.below hb⟩
/-- What stands after some of the changes. -/
def PS (W : World) (B : Nat) (v : Value) (T : Tr Int Int) (m : Nat) : Prop := MB W B T ∧ Prs 0 W v (rep kf T.toList) ∧ Sorted lt T.toList ∧ OkL ok T.toList ∧ T.sz ≤ m
theorem PS.below {A C : World} {B : Nat} {v : Value} {T : Tr Int Int} {m : Nat} (h : PS A B v T m) (hb : Below A.heap.size A C) : PS C B v T m := ⟨h.1.below hb, h.2.1.below hb, h.2.2⟩
theorem PS.put {A : World} {B : Nat} {v : Value} {T T0 : Tr Int Int} {m : Nat} {q : Option Addr} (h0 : MB A B T0) (hq : Is A q T) (hV : Prs 0 A v (rep kf T.toList)) (h1 : Sorted lt T.toList) (h2 : OkL ok T.toList) (h3 : T.sz ≤ m) :
    PS (A.setCell ⟨B, 0, none⟩ (.pointer q)) B v T m := by
  obtain ⟨q0, hb, -⟩ := h0
  exact ⟨⟨q, box_set _ hb, hq.keep (KeepT.setCell (a := ⟨B, 0, none⟩) hb (by decide))⟩, hV.setCell (a := ⟨B, 0, none⟩) _ hb (by decide), h1, h2, h3⟩

/-- What stands in the midst of a round. -/
def RD (W : World) (B : Nat) (q : Option Addr) (v : Value) (T : Tr Int Int) (C : Nat) (x : Bool × Int × Int) (w : World) : Prop :=
  w.heap[B]? = some (.cells #[.pointer q] 26 (0, 0)) ∧ Is w q T ∧ Prs 0 w v (rep kf T.toList) ∧ w.heap[C]? = some (.cells #[.bool x.1, Value.int .i64 x.2.1, .int .i64 x.2.2] 36 (0, 0)) ∧ Below W.heap.size W w
theorem RD.below {W : World} {B : Nat} {q : Option Addr} {v : Value} {T : Tr Int Int} {C : Nat} {x : Bool × Int × Int} {w w' : World} (h : RD W B q v T C x w) (hb : Below w.heap.size w w') : RD W B q v T C x w' :=
  ⟨box_below hb h.1, h.2.1.below hb, h.2.2.1.below hb, box_below hb h.2.2.2.1, Below.step h.2.2.2.2 hb⟩
theorem RD.c1 {W : World} {B : Nat} {q : Option Addr} {v : Value} {T : Tr Int Int} {C : Nat} {x : Bool × Int × Int} {w : World} (h : RD W B q v T C x w) : w.cell? ⟨C, 1, none⟩ = some (Value.int .i64 x.2.1) := by simp [World.cell?, h.2.2.2.1]

set_option maxRecDepth 100000 in
set_option maxHeartbeats 4000000 in
theorem plays_any {W : World} {v : Value} {L : List (Bool × Int × Int)} (hA : ActsAt W v L) (hok : ∀ a ∈ L, ok a.2.1) (k : Int) (hk : ok k) (hn : L.length ≤ 60) :
    Calls Try.prog 21 #[v, Value.int .i64 k, .func (.func 17) #[] #[]] W fun e w' => e = .returned (.bool true) ∧ Below W.heap.size W w' := by
  obtain ⟨a, cap, rfl, hcells⟩ := hA
  have HC := Lib.hid hcells; have HOK := Lib.hid hok; have HK := Lib.hid hk
  clear hcells hok hk
  have HN0 := Lib.hid (heap_new W (.cells #[.pointer none] 26))
  have hps : PS (W.alloc (.cells #[.pointer none] 26)) W.heap.size (.slice none 0 0) .nil 0 := ⟨⟨none, HN0.out, rfl⟩, SlA.nil _ _ _ _ _, by simp [Tr.toList, Sorted], by simp [Tr.toList, OkL], by simp [Tr.sz]⟩
  have HP0 := Lib.hid hps; clear hps HN0
  have HB0 : Hid (Below W.heap.size W (W.alloc (.cells #[.pointer none] 26))) := Lib.hid ((Below.refl _ W).alloc (Nat.le_refl _) _)
  go_enter Try.func21, Try.ntmps21
  go_wp2_with fail
  go_loopw [8, 15] (fun l c wr => ∃ (j : Nat) (T : Tr Int Int), j ≤ L.length ∧ c = .int .i64 j ∧ PS wr W.heap.size l T j ∧ Below W.heap.size W wr) (fun _ c _ => L.length - (intOf c).toNat)
  case atStart => exact ⟨0, .nil, by omega, rfl, HP0.out, HB0.out⟩
  case round =>
    obtain ⟨j, T, hj, rfl, hP, hB⟩ := hrel
    have HP := Lib.hid hP; have HB := Lib.hid hB; clear hP hB
    by_cases hlt : j < L.length
    · obtain ⟨b, rfl, d0, d1, d2⟩ := HC.out j hlt
      obtain ⟨⟨q, hq1, hq2⟩, hV, hso, hol, hsz⟩ := HP.out
      obtain ⟨a0, c0, hv⟩ := hV.len
      have hokj : ok L[j].2.1 := HOK.out _ (List.getElem_mem hlt)
      subst hv
      generalize hx : L[j] = x at *
      have e0 : wr.cell? (b.add (j * 3)) = some (.bool x.1) := by
        exact cell_below d0 HB.out
      have e1 : wr.cell? ⟨(b.add (j * 3)).block, (b.add (j * 3)).off + 1, none⟩ = some (Value.int .i64 x.2.1) := cell_below d1 HB.out
      have e2 : wr.cell? ⟨(b.add (j * 3)).block, (b.add (j * 3)).off + 2, none⟩ = some (.int .i64 x.2.2) := cell_below d2 HB.out
      have c1 : ∀ o, (wr.alloc o).cell? ⟨W.heap.size, 0, none⟩ = some (.pointer q) := fun o => box_cell (box_below ((Below.refl _ wr).alloc (Nat.le_refl _) o) hq1)
      clear hq1 hq2 hV
      have hjl : (j : Int) < (L.length : Int) := by omega
      have hj0 : (0 : Int) ≤ (j : Int) := by omega
      go_wp2_with fail
      have hba : Below wr.heap.size wr (wr.alloc (.cells #[.bool x.1, Value.int .i64 x.2.1, .int .i64 x.2.2] 36)) := (Below.refl _ wr).alloc (Nat.le_refl _) _
      have hP1 := HP.out.below hba
      obtain ⟨⟨q', hq1', hq2'⟩, hV', -⟩ := hP1
      obtain rfl : q = q' := by
        have := (box_cell hq1').symm.trans (c1 _); simpa using this.symm
      refine (do_any x hokj hq2' hV' hso hol (by omega)).mono ?_
      rintro e w2 ⟨q2, v2, rfl, hT2, hV2, b2⟩
      obtain ⟨a2, cp2, hv2⟩ := hV2.len
      subst hv2
      have hBw2 := Below.step (HB.out.trans (hba.mono HB.out.size)) b2
      have hN2 : w2.heap[wr.heap.size]? = some (.cells #[.bool x.1, Value.int .i64 x.2.1, .int .i64 x.2.2] 36 (0, 0)) := box_below b2 (heap_new wr _)
      have hm2 : w2.heap[W.heap.size]? = some (.cells #[.pointer q] 26 (0, 0)) := box_below b2 hq1'
      have hps := PS.put (m := j + 1) (T0 := T) ⟨q, hm2, (hq2'.below b2)⟩ hT2 hV2 (actF_sorted x hso) (actF_ok x hokj hso hol) (by have := actF_sz x T; omega)
      have hBw3 := hBw2.setCell (p := ⟨W.heap.size, 0, none⟩) (Nat.le_refl _) (.pointer q2)
      have hN3 : (w2.setCell ⟨W.heap.size, 0, none⟩ (.pointer q2)).heap[wr.heap.size]? = some (.cells #[.bool x.1, Value.int .i64 x.2.1, .int .i64 x.2.2] 36 (0, 0)) := by
        rw [Below.heap_setCell]
        · exact hN2
        · intro e; have e : wr.heap.size = W.heap.size := by simpa using e
          rw [e, hm2] at hN2; simp at hN2
      have c2 := box_cell hm2; have f2 := box_frozen hm2
      have hRD : RD W W.heap.size q2 (.slice a2 (rep kf (actF x T).toList).length cp2) (actF x T) wr.heap.size x (w2.setCell ⟨W.heap.size, 0, none⟩ (.pointer q2)) := ⟨box_set _ hm2, hT2.keep (KeepT.setCell (a := ⟨W.heap.size, 0, none⟩) hm2 (by decide)), hps.2.1, hN3, hBw3⟩
      have hso2 := hps.2.2.1; have hol2 := hps.2.2.2.1; have hsz2 := hps.2.2.2.2
      have HSO := Lib.hid hso2; have HOL := Lib.hid hol2
      have hl2 : (actF x T).toList.length ≤ 1000000 := by have := Tr.sz_eq (actF x T); omega
      have HL2 := Lib.hid hl2
      have hrl : (rep kf (actF x T).toList).length = (actF x T).toList.length := by simp [rep]
      rw [hrl] at hRD
      have HOX := Lib.hid hokj
      generalize actF x T = T2 at *
      have HR3 := Lib.hid hRD
      clear hba hq1' hq2' hV' hso hol hT2 hV2 b2 hBw2 hN2 hps hBw3 hN3 e0 e1 e2 d0 d1 d2 c1 hRD hso2 hol2 hl2 hokj HP HB
      rw [hrl]
      clear hrl
      go_wp2_with fail
      generalize w2.setCell ⟨W.heap.size, 0, none⟩ (.pointer q2) = w3 at *
      clear c2 f2 hm2
      refine (Len_any HR3.out.2.1).mono ?_
      rintro e w4 ⟨rfl, b4⟩
      rw [Tr.sz_eq]
      have HR4 := Lib.hid (HR3.out.below b4); clear b4 HR3
      have c4 := box_cell HR4.out.1; have k4 := HR4.out.c1
      go_wp2_with fail
      refine (asks_any _ HOX.out HR4.out.2.1 HR4.out.2.2.1 HSO.out HOL.out HL2.out).mono ?_
      rintro e w5 ⟨rfl, b5⟩
      have HR5 := Lib.hid (HR4.out.below b5); clear b5 HR4 c4 k4
      have c5 := box_cell HR5.out.1
      go_wp2_with fail
      refine (asks_any _ HK.out HR5.out.2.1 HR5.out.2.2.1 HSO.out HOL.out HL2.out).mono ?_
      rintro e w6 ⟨rfl, b6⟩
      have HR6 := Lib.hid (HR5.out.below b6); clear b6 HR5 c5
      have c6 := box_cell HR6.out.1
      go_wp2_with fail
      refine (ends_any HR6.out.2.1 HR6.out.2.2.1 HOL.out HL2.out).mono ?_
      rintro e w7 ⟨rfl, b7⟩
      have HR7 := Lib.hid (HR6.out.below b7); clear b7 HR6 c6
      go_wp2_with fail
      go_roundw
      case rel => exact ⟨j + 1, T2, by omega, by go_num, ⟨⟨q2, HR7.out.1, HR7.out.2.1⟩, HR7.out.2.2.1, HSO.out, HOL.out, hsz2⟩, HR7.out.2.2.2.2⟩
      case measure => simp [intOf]; omega
    · obtain rfl : j = L.length := by omega
      obtain ⟨⟨q, hq1, hq2⟩, hV, hso, hol, hsz⟩ := HP.out
      obtain ⟨a0, c0, hv⟩ := hV.len
      have hrl : (rep kf T.toList).length = T.toList.length := by simp [rep]
      rw [hrl] at hv
      subst hv
      have hl2 : T.toList.length ≤ 1000000 := by have := Tr.sz_eq T; omega
      have c1 := box_cell hq1
      have HQ := Lib.hid hq2; have HL2 := Lib.hid hl2; have HOL := Lib.hid hol; have HQ1 := Lib.hid hq1; have HV := Lib.hid hV
      clear hq1 hq2 hV hso hol hsz hrl hj hlt hn
      go_wp2_with fail
      refine (keys_any HQ.out HL2.out).mono ?_
      rintro e w2 ⟨v2, rfl, hS, b2⟩
      obtain ⟨a2, cp2, hv2⟩ := hS.len
      rw [List.length_map] at hv2
      subst hv2
      have HS := Lib.hid (hS.mono (Nat.zero_le _)); have HB2 := Lib.hid (Below.step HB.out b2); have HM2 := Lib.hid (box_below b2 HQ1.out); have HQ2 := Lib.hid (HQ.out.below b2); have HV2 := Lib.hid (HV.out.below b2)
      clear hS b2 HQ HQ1 HV HB c1 HP
      go_wp2_with fail
      go_loopw [66] (fun c wr => ∃ i : Nat, i ≤ T.toList.length ∧ c = .int .i64 i ∧ Below w2.heap.size w2 wr) (fun c _ => T.toList.length - (intOf c).toNat)
      case atStart => exact ⟨0, by omega, rfl, Below.refl _ _⟩
      case round =>
        obtain ⟨i, hi, rfl, hB⟩ := hrel
        have HB3 := Lib.hid hB; clear hB
        by_cases hlt : i < T.toList.length
        · have hik : i < (T.toList.map Prod.fst).length := by simpa using hlt
          have hir : i < (rep kf T.toList).length := by simpa [rep] using hlt
          obtain ⟨g2, c2', hv, -, -⟩ : ∃ g c, Value.slice a2 T.toList.length cp2 = .slice (some ⟨g, 0, none⟩) (T.toList.map Prod.fst).length c ∧ True ∧ True := by
            rcases HS.out.shape with ⟨-, h⟩ | ⟨g, c, h, -⟩
            · rw [h] at hik; simp at hik
            · exact ⟨g, c, h, trivial, trivial⟩
          simp only [Value.slice.injEq] at hv
          obtain ⟨rfl, -, rfl⟩ := hv
          have hS2 : SlA 0 w2 3 1 encK (.slice (some ⟨g2, 0, none⟩) (T.toList.map Prod.fst).length cp2) (T.toList.map Prod.fst) := by
            have h := HS.out
            rw [List.length_map]; exact h
          obtain ⟨g1, c1', hv, -, -, hE⟩ := Prs.at HV2.out hir
          simp only [Value.slice.injEq] at hv
          obtain ⟨rfl, -, rfl⟩ := hv
          have k0 : ∀ w, Below w2.heap.size w2 w → w.cell? ⟨g2, i, none⟩ = some (Value.int .i64 T.toList[i].1) := fun w hw => by
            have h := SlA.cell (size := 1) (enc := encK) (fun _ => rfl) (hS2.below hw) (i := i) hik (j := 0) Nat.one_pos
            simpa [encK] using h
          have f0 : ∀ w, Below w2.heap.size w2 w → w.cell? ⟨g1, i * 2, none⟩ = some (.string (kf T.toList[i].1)) := fun w hw => by
            rw [(hE w hw i hir).1]; simp [rep]
          have hoki := HOL.out _ (List.getElem_mem hlt)
          have hi0 : (0 : Int) ≤ (i : Int) := by omega
          have hi1 : (i : Int) < (T.toList.length : Int) := by omega
          have HF : ∀ f, Fence.wide.fn f := fun _ => trivial
          generalize T.toList[i].1 = z at *
          clear hik hir hS2 hE
          go_wp2_with fail
          refine wp_region_anyH (Below w2.heap.size w2) (by kernel_rfl) ?_
          have B3 : Below w2.heap.size w2 wr.drew := HB3.out.drew
          refine AnyH.take (i := 0) (d := some 69) (v := ?_) (by kernel_rfl) rfl rfl HF (fun _ _ _ h => h) (.inl ⟨by rfl, ?_⟩) (by first | assumption | rfl) ?_
          rotate_left
          · intro w hS; try subst hS
            go_simp; try with_reducible rfl
          try simp only [Act.put, List.setIfInBounds_toArray, List.set_cons_zero, List.set_cons_succ]
          refine AnyH.take (i := 1) (d := some 70) (v := ?_) (by kernel_rfl) rfl rfl HF (fun _ _ _ h => h) (.inl ⟨by rfl, ?_⟩) (by first | assumption | rfl) ?_
          rotate_left
          · intro w hS; try subst hS
            go_simp; try with_reducible rfl
          try simp only [Act.put, List.setIfInBounds_toArray, List.set_cons_zero, List.set_cons_succ]
          refine AnyH.take (i := 2) (d := some 71) (v := ?_) (by kernel_rfl) rfl rfl HF (fun _ _ _ h => h) (.inl ⟨by rfl, ?_⟩) (by first | assumption | rfl) ?_
          rotate_left
          · intro w hS; try subst hS
            go_simp; try with_reducible rfl
          try simp only [Act.put, List.setIfInBounds_toArray, List.set_cons_zero, List.set_cons_succ]
          refine AnyH.take (i := 3) (d := some 72) (v := ?_) (by kernel_rfl) rfl rfl HF (fun _ _ _ h => h) (.inl ⟨by rfl, ?_⟩) (by first | assumption | rfl) ?_
          rotate_left
          · intro w hS; try subst hS
            go_simp; try with_reducible rfl
          try simp only [Act.put, List.setIfInBounds_toArray, List.set_cons_zero, List.set_cons_succ]
          refine AnyH.take (i := 4) (d := some 73) (v := ?_) (by kernel_rfl) rfl rfl HF (fun _ _ _ h => h) (.inl ⟨by rfl, ?_⟩) (by first | assumption | rfl) ?_
          rotate_left
          · intro w hS; try subst hS
            go_simp; try with_reducible rfl
          try simp only [Act.put, List.setIfInBounds_toArray, List.set_cons_zero, List.set_cons_succ]
          refine AnyH.take (i := 6) (d := some 75) (v := ?_) (by kernel_rfl) rfl rfl HF (fun _ _ _ h => h) (.inl ⟨by rfl, ?_⟩) (by first | assumption | rfl) ?_
          rotate_left
          · intro w hS; try subst hS
            go_simp; try with_reducible rfl
          try simp only [Act.put, List.setIfInBounds_toArray, List.set_cons_zero, List.set_cons_succ]
          refine AnyH.take (i := 7) (d := some 76) (v := ?_) (by kernel_rfl) rfl rfl HF (fun _ _ _ h => h) (.inl ⟨by rfl, ?_⟩) (by first | assumption | rfl) ?_
          rotate_left
          · intro w hS; try subst hS
            go_simp; try with_reducible rfl
          try simp only [Act.put, List.setIfInBounds_toArray, List.set_cons_zero, List.set_cons_succ]
          refine AnyH.take (i := 8) (d := some 77) (v := ?_) (by kernel_rfl) rfl rfl HF (fun _ _ _ h => h) (.inl ⟨by rfl, ?_⟩) (by first | assumption | rfl) ?_
          rotate_left
          · intro w hS; try subst hS
            go_simp; try with_reducible rfl
          try simp only [Act.put, List.setIfInBounds_toArray, List.set_cons_zero, List.set_cons_succ]
          refine AnyH.take (i := 9) (d := some 78) (v := ?_) (by kernel_rfl) rfl rfl HF (fun _ _ _ h => h) (.inl ⟨by rfl, ?_⟩) (by first | assumption | rfl) ?_
          rotate_left
          · intro w hS; try subst hS
            go_simp; try with_reducible rfl
          try simp only [Act.put, List.setIfInBounds_toArray, List.set_cons_zero, List.set_cons_succ]
          refine AnyH.take (i := 10) (d := some 79) (v := ?_) (by kernel_rfl) rfl rfl HF (fun _ _ _ h => h) (.inl ⟨by rfl, ?_⟩) (by first | assumption | rfl) ?_
          rotate_left
          · intro w hS; try subst hS
            go_simp; try with_reducible rfl
          try simp only [Act.put, List.setIfInBounds_toArray, List.set_cons_zero, List.set_cons_succ]
          refine AnyH.one (i := 5) (by kernel_rfl) (by kernel_rfl) rfl HF (by rfl) (fun K hK => ?_)
          go_simp
          first | ((with_reducible refine And.intro ?hdep ?_); (case hdep => first | rfl | (intro h; cases h))) | skip
          refine callsIn_wide.2 ((key_any _ hoki _).mono ?_)
          rintro e w4 ⟨rfl, b4⟩
          have B4 : Below w2.heap.size w2 w4 := Below.step B3 b4
          clear b4
          refine hK _ _ B4 ?_
          clear hK K
          try simp only [Act.put, List.setIfInBounds_toArray, List.set_cons_zero, List.set_cons_succ]
          refine AnyH.take (i := 11) (d := some 80) (v := ?_) (by kernel_rfl) rfl rfl HF (fun _ _ _ h => h) (.inl ⟨by rfl, ?_⟩) (by first | assumption | rfl) ?_
          rotate_left
          · intro w hS; try subst hS
            go_simp; try with_reducible rfl
          try simp only [Act.put, List.setIfInBounds_toArray, List.set_cons_zero, List.set_cons_succ]
          refine AnyH.done (by kernel_rfl) ?_
          go_wp2_with fail
          go_roundw
          case rel => exact ⟨i + 1, by omega, by go_num, B4⟩
          case measure => simp [intOf]; omega
        · obtain rfl : i = T.toList.length := by omega
          have c3 := box_cell (box_below HB3.out HM2.out)
          go_wp2_with fail
          refine (is_any (HQ2.out.below HB3.out) (HV2.out.below HB3.out) HOL.out HL2.out).mono ?_
          rintro e w4 ⟨rfl, b4⟩
          have HB4 := Lib.hid (Below.step (Below.step HB2.out HB3.out) b4)
          clear b4
          go_wp2_with fail
          go_ret
          exact ⟨rfl, HB4.out⟩
end ii
end Go.Proofs.Ytdgclambplipnaa
