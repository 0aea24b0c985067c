/- PmapDiffers: the walk. -/
import Derived.Test.YtdgclambplipnaaPlaysii
import Derived.Test.YtdgclambplipnaaAwake
import Derived.Test.YtdgclambplipnaaChanged
import Derived.Test.YtdgclambplipnaaChgRep
import Derived.Outline
namespace Go.Proofs.Ytdgclambplipnaa
open Go.RowKit
namespace ii
attribute [local go_sem] Oper.semAt_some

/-- A slice of numbers of the call's own, as the walk reads it. -/
theorem SlA.num {B : Nat} {W : World} {v : Value} {l : List Int} (h : SlA B W 3 1 encI v l) {i : Nat} (hi : i < l.length) : ∃ g c, v = .slice (some ⟨g, 0, none⟩) l.length c ∧ ∀ w, Below W.heap.size W w → w.cell? ⟨g, i, none⟩ = some (.int .i64 l[i]) := by
  rcases h.shape with ⟨-, rfl⟩ | ⟨g, cap, rfl, -⟩
  · simp at hi
  · refine ⟨g, cap, rfl, fun w hw => ?_⟩
    have e := SlA.cell (size := 1) (enc := encI) (fun _ => rfl) (h.below hw) hi (j := 0) Nat.one_pos
    simpa [encI] using e
theorem SlA.str {B : Nat} {W : World} {v : Value} {l : List ByteArray} (h : SlA B W 9 1 encS v l) {i : Nat} (hi : i < l.length) : ∃ g c, v = .slice (some ⟨g, 0, none⟩) l.length c ∧ ∀ w, Below W.heap.size W w → w.cell? ⟨g, i, none⟩ = some (.string l[i]) := by
  rcases h.shape with ⟨-, rfl⟩ | ⟨g, cap, rfl, -⟩
  · simp at hi
  · refine ⟨g, cap, rfl, fun w hw => ?_⟩
    have e := SlA.cell (size := 1) (enc := encS) (fun _ => rfl) (h.below hw) hi (j := 0) Nat.one_pos
    simpa [encS] using e

set_option maxRecDepth 100000 in
set_option maxHeartbeats 2000000 in
theorem same_any {A B : Nat} {W : World} {v u : Value} {ks : List Int} (ha : SlA A W 3 1 encI v ks) (hb : SlA B W 9 1 encS u (ks.map kf)) (ho : ∀ k ∈ ks, ok k) (hn : ks.length ≤ 1000000) :
    Calls Try.prog 26 #[v, u] W fun e w' => e = .returned (.bool true) ∧ Below W.heap.size W w' := by
  have HF : ∀ f, Fence.wide.fn f := fun _ => trivial
  have HA := Lib.hid ha; have HB := Lib.hid hb; have HO := Lib.hid ho
  obtain ⟨a1, c1, hv⟩ := ha.len
  subst hv
  obtain ⟨a2, c2, hv⟩ := hb.len
  rw [List.length_map] at hv
  subst hv
  clear ha hb ho
  go_enter Try.func26, Try.ntmps26
  go_wp2_with fail
  go_loopw [13] (fun c wr => ∃ j : Nat, j ≤ ks.length ∧ c = .int .i64 j ∧ Below W.heap.size W wr) (fun c _ => ks.length - (intOf c).toNat)
  case atStart => exact ⟨0, by omega, rfl, Below.refl _ _⟩
  case round =>
    obtain ⟨j, hj, rfl, hBj⟩ := hrel
    have HBj := Lib.hid hBj
    clear hBj
    by_cases hlt : j < ks.length
    · have hl3 : (j : Int) < (ks.length : Int) := by omega
      have hl4 : (0 : Int) ≤ (j : Int) := by omega
      obtain ⟨g, c, he, m1⟩ := SlA.num HA.out hlt
      obtain ⟨g', c', he', m2⟩ := SlA.str HB.out (i := j) (by simpa using hlt)
      rw [List.length_map] at he'
      simp only [Value.slice.injEq] at he he'
      obtain ⟨rfl, -, rfl⟩ := he
      obtain ⟨rfl, -, rfl⟩ := he'
      have k1 : ∀ w, Below wr.heap.size wr w → w.cell? ⟨g, j, none⟩ = some (.int .i64 ks[j]) := fun w h => m1 w (Below.step HBj.out h)
      have k2 : ∀ w, Below wr.heap.size wr w → w.cell? ⟨g', j, none⟩ = some (.string (kf ks[j])) := fun w h => by have := m2 w (Below.step HBj.out h); simpa using this
      have HOK := Lib.hid (HO.out _ (List.getElem_mem hlt))
      generalize ks[j] = k at *
      clear m1 m2
      go_wp2_with fail
      have B0 : Below wr.heap.size wr wr.drew := (Below.refl _ _).drew
      refine wp_region_anyH (Below wr.heap.size wr) (by kernel_rfl) ?_
      refine AnyH.take (i := 0) (d := some 16) (v := ?_) (by kernel_rfl) rfl rfl HF (fun _ _ _ h => h) (.inl ⟨by rfl, ?_⟩) (by first | assumption | rfl) ?_
      rotate_left
      · intro w hS; try subst hS
        go_simp; try with_reducible rfl
      try simp only [Act.put, List.setIfInBounds_toArray, List.set_cons_zero, List.set_cons_succ]
      refine AnyH.take (i := 1) (d := some 17) (v := ?_) (by kernel_rfl) rfl rfl HF (fun _ _ _ h => h) (.inl ⟨by rfl, ?_⟩) (by first | assumption | rfl) ?_
      rotate_left
      · intro w hS; try subst hS
        go_simp; try with_reducible rfl
      try simp only [Act.put, List.setIfInBounds_toArray, List.set_cons_zero, List.set_cons_succ]
      refine AnyH.take (i := 2) (d := some 18) (v := ?_) (by kernel_rfl) rfl rfl HF (fun _ _ _ h => h) (.inl ⟨by rfl, ?_⟩) (by first | assumption | rfl) ?_
      rotate_left
      · intro w hS; try subst hS
        go_simp; try with_reducible rfl
      try simp only [Act.put, List.setIfInBounds_toArray, List.set_cons_zero, List.set_cons_succ]
      refine AnyH.take (i := 3) (d := some 19) (v := ?_) (by kernel_rfl) rfl rfl HF (fun _ _ _ h => h) (.inl ⟨by rfl, ?_⟩) (by first | assumption | rfl) ?_
      rotate_left
      · intro w hS; try subst hS
        go_simp; try with_reducible rfl
      try simp only [Act.put, List.setIfInBounds_toArray, List.set_cons_zero, List.set_cons_succ]
      refine AnyH.take (i := 5) (d := some 21) (v := ?_) (by kernel_rfl) rfl rfl HF (fun _ _ _ h => h) (.inl ⟨by rfl, ?_⟩) (by first | assumption | rfl) ?_
      rotate_left
      · intro w hS; try subst hS
        go_simp; try with_reducible rfl
      try simp only [Act.put, List.setIfInBounds_toArray, List.set_cons_zero, List.set_cons_succ]
      refine AnyH.take (i := 6) (d := some 22) (v := ?_) (by kernel_rfl) rfl rfl HF (fun _ _ _ h => h) (.inl ⟨by rfl, ?_⟩) (by first | assumption | rfl) ?_
      rotate_left
      · intro w hS; try subst hS
        go_simp; try with_reducible rfl
      try simp only [Act.put, List.setIfInBounds_toArray, List.set_cons_zero, List.set_cons_succ]
      refine AnyH.take (i := 7) (d := some 23) (v := ?_) (by kernel_rfl) rfl rfl HF (fun _ _ _ h => h) (.inl ⟨by rfl, ?_⟩) (by first | assumption | rfl) ?_
      rotate_left
      · intro w hS; try subst hS
        go_simp; try with_reducible rfl
      try simp only [Act.put, List.setIfInBounds_toArray, List.set_cons_zero, List.set_cons_succ]
      refine AnyH.take (i := 8) (d := some 24) (v := ?_) (by kernel_rfl) rfl rfl HF (fun _ _ _ h => h) (.inl ⟨by rfl, ?_⟩) (by first | assumption | rfl) ?_
      rotate_left
      · intro w hS; try subst hS
        go_simp; try with_reducible rfl
      try simp only [Act.put, List.setIfInBounds_toArray, List.set_cons_zero, List.set_cons_succ]
      refine AnyH.one (i := 4) (by kernel_rfl) (by kernel_rfl) rfl HF (by rfl) (fun K hK => ?_)
      go_simp
      first | ((with_reducible refine And.intro ?hdep ?_); (case hdep => first | rfl | (intro h; cases h))) | skip
      refine callsIn_wide.2 ((key_any k HOK.out _).mono ?_)
      rintro e w2 ⟨rfl, b2⟩
      have B2 : Below wr.heap.size wr w2 := Below.step B0 b2
      refine hK _ _ B2 ?_
      clear hK K
      try simp only [Act.put, List.setIfInBounds_toArray, List.set_cons_zero, List.set_cons_succ]
      refine AnyH.take (i := 9) (d := some 25) (v := ?_) (by kernel_rfl) rfl rfl HF (fun _ _ _ h => h) (.inl ⟨by rfl, ?_⟩) (by first | assumption | rfl) ?_
      rotate_left
      · intro w hS; try subst hS
        go_simp; try with_reducible rfl
      try simp only [Act.put, List.setIfInBounds_toArray, List.set_cons_zero, List.set_cons_succ]
      refine AnyH.done (by kernel_rfl) ?_
      have HB2 := Lib.hid (Below.step HBj.out B2)
      clear k1 k2 B0 B2 b2
      go_wp2_with fail
      go_roundw
      case rel => exact ⟨j + 1, by omega, by go_num, HB2.out⟩
      case measure => simp [intOf]; omega
    · obtain rfl : j = ks.length := by omega
      go_wp2_with fail
      go_ret
      exact ⟨rfl, HBj.out⟩

theorem chg_ok {X Y : List (Int × Int)} (hx : OkL ok X) (hy : OkL ok Y) (sx : Sorted lt X) (sy : Sorted lt Y) {k : Int} (h : k ∈ chg X Y) : ok k := by
  rcases chg_keys (inc_of sx) (inc_of sy) h with h | h
  · obtain ⟨p, hp, rfl⟩ := List.mem_map.1 h; exact hx p hp
  · obtain ⟨p, hp, rfl⟩ := List.mem_map.1 h; exact hy p hp
theorem chg_len : ∀ X Y : List (Int × Int), (chg X Y).length ≤ X.length + Y.length
  | [], ys => by rw [chg_nil]; simp
  | x :: xs, [] => by rw [chg_nil2]; simp
  | x :: xs, y :: ys => by
    rw [chg_cons]
    have h1 := chg_len xs (y :: ys); have h2 := chg_len (x :: xs) ys; have h3 := chg_len xs ys
    simp only [List.length_cons] at *
    split
    · simp only [List.length_cons]; omega
    · split
      · simp only [List.length_cons]; omega
      · split
        · omega
        · simp only [List.length_cons]; omega
termination_by X Y => X.length + Y.length

/-- A map that stands beside: its box, its list. -/
def OM (W : World) (B : Nat) (v : Value) (T : Tr Int Int) : Prop := MB W B T ∧ Prs 0 W v (rep kf T.toList)
theorem OM.below {A C : World} {B : Nat} {v : Value} {T : Tr Int Int} (h : OM A B v T) (hb : Below A.heap.size A C) : OM C B v T := ⟨h.1.below hb, h.2.below hb⟩
theorem OM.set {A : World} {B B' : Nat} {v : Value} {T : Tr Int Int} {q q' : Option Addr} (h : OM A B v T) (hb : A.heap[B']? = some (.cells #[.pointer q'] 26 (0, 0))) (hne : B ≠ B') : OM (A.setCell ⟨B', 0, none⟩ (.pointer q)) B v T := by
  obtain ⟨⟨q0, h1, h2⟩, h3⟩ := h
  exact ⟨⟨q0, (Below.heap_setCell _ _ _ _ hne).trans h1, h2.keep (KeepT.setCell (a := ⟨B', 0, none⟩) hb (by decide))⟩, h3.setCell (a := ⟨B', 0, none⟩) _ hb (by decide)⟩
/-- Two such maps. -/
def OM2 (W : World) (B : Nat) (v : Value) (T : Tr Int Int) (C : Nat) (u : Value) (S : Tr Int Int) : Prop := OM W B v T ∧ OM W C u S
theorem OM2.below {A W : World} {B C : Nat} {v u : Value} {T S : Tr Int Int} (h : OM2 A B v T C u S) (hb : Below A.heap.size A W) : OM2 W B v T C u S := ⟨h.1.below hb, h.2.below hb⟩
theorem OM2.set {A : World} {B C B' : Nat} {v u : Value} {T S : Tr Int Int} {q q' : Option Addr} (h : OM2 A B v T C u S) (hb : A.heap[B']? = some (.cells #[.pointer q'] 26 (0, 0))) (hne : B ≠ B' ∧ C ≠ B') : OM2 (A.setCell ⟨B', 0, none⟩ (.pointer q)) B v T C u S := ⟨h.1.set hb hne.1, h.2.set hb hne.2⟩

set_option maxRecDepth 100000 in
set_option maxHeartbeats 8000000 in
theorem differs_any {W : World} {v1 v2 v3 : Value} {L1 L2 L3 : List (Bool × Int × Int)} (hA1 : ActsAt W v1 L1) (hok1 : ∀ a ∈ L1, ok a.2.1) (hA2 : ActsAt W v2 L2) (hok2 : ∀ a ∈ L2, ok a.2.1) (hA3 : ActsAt W v3 L3) (hok3 : ∀ a ∈ L3, ok a.2.1) (hb1 : L1.length ≤ 140737488351232) (hb2 : L2.length ≤ 140737488351232) (hb3 : L3.length ≤ 140737488351232) :
    Calls Try.prog 9 #[v1, v2, v3] W fun e w' => e = .returned (.bool true) ∧ Below W.heap.size W w' := by
  obtain ⟨p1, cap1, rfl, hcells1⟩ := hA1
  obtain ⟨p2, cap2, rfl, hcells2⟩ := hA2
  obtain ⟨p3, cap3, rfl, hcells3⟩ := hA3
  have HC1 := Lib.hid hcells1; have HC2 := Lib.hid hcells2; have HC3 := Lib.hid hcells3
  have HOK1 := Lib.hid hok1; have HOK2 := Lib.hid hok2; have HOK3 := Lib.hid hok3
  clear hcells1 hcells2 hcells3 hok1 hok2 hok3
  have i1 : (L1.length : Int) ≤ 140737488351232 := by omega
  have i2 : (L2.length : Int) ≤ 140737488351232 := by omega
  have i3 : (L3.length : Int) ≤ 140737488351232 := by omega
  have j1 : (0 : Int) ≤ (L1.length : Int) := by omega
  have j2 : (0 : Int) ≤ (L2.length : Int) := by omega
  have j3 : (0 : Int) ≤ (L3.length : Int) := by omega
  by_cases hbig : (60 : Int) < (L1.length : Int) + (L2.length : Int) + (L3.length : Int)
  · go_enter Try.func9, Try.ntmps9
    go_wp2_with fail
    refine (awake_any W).mono ?_; rintro e w1 ⟨rfl, b1⟩
    have HB1 := Lib.hid b1; clear b1
    go_wp2_with fail
    refine (awake_any w1).mono ?_; rintro e w2 ⟨rfl, b2⟩
    have HB2 := Lib.hid (Below.step HB1.out b2); clear b2
    go_wp2_with fail
    go_ret
    exact ⟨rfl, HB2.out⟩
  have hsm : L1.length + L2.length + L3.length ≤ 60 := by omega
  have hdec : decide ((60 : Int) < (L1.length : Int) + (L2.length : Int) + (L3.length : Int)) = false := decide_eq_false hbig
  go_enter Try.func9, Try.ntmps9
  go_wp2_with fail
  refine (awake_any W).mono ?_; rintro e w1 ⟨rfl, b1⟩
  have HB1 := Lib.hid b1; clear b1
  obtain ⟨w2, hw2⟩ : ∃ w2, (w1.alloc (.cells #[.pointer none] 26)).alloc (.cells #[.pointer none] 26) = w2 := ⟨_, rfl⟩
  have nil_ps : ∀ (B : Nat) (w : World), w.heap[B]? = some (.cells #[.pointer none] 26 (0, 0)) → PS w B (.slice none 0 0) .nil 0 := fun B w h => ⟨⟨none, h, rfl⟩, SlA.nil _ _ _ _ _, by simp [Tr.toList, Sorted], by simp [Tr.toList, OkL], by simp [Tr.sz]⟩
  have hp7 : PS w2 w1.heap.size (.slice none 0 0) .nil 0 := nil_ps _ _ (by rw [← hw2]; exact (Below.heap_alloc _ _ _ (by simp)).trans (heap_new _ _))
  have ho8 : OM w2 (w1.heap.size + 1) (.slice none 0 0) .nil := by
    have h := nil_ps (w1.heap.size + 1) w2 (by rw [← hw2]; have := heap_new (w1.alloc (.cells #[.pointer none] 26)) (.cells #[.pointer none] 26); rwa [World.size_alloc] at this)
    exact ⟨h.1, h.2.1⟩
  have hb2' : Below w1.heap.size w1 w2 := by rw [← hw2]; exact ((Below.refl _ w1).alloc (Nat.le_refl _) _).alloc (by simp) _
  have HP7 := Lib.hid hp7; have HO8 := Lib.hid ho8; have HB2 := Lib.hid (Below.step HB1.out hb2')
  have HG := Lib.hid HB1.out.size
  clear nil_ps hp7 ho8 hb2' hbig
  go_wp2_with fail
  clear hw2
  generalize w1.heap.size = g at *
  go_loopw [9, 35] (fun l c wr => ∃ (j : Nat) (T : Tr Int Int), j ≤ L1.length ∧ c = .int .i64 j ∧ PS wr g l T j ∧ OM wr (g + 1) (.slice none 0 0) .nil ∧ Below W.heap.size W wr) (fun _ c _ => L1.length - (intOf c).toNat)
  case atStart => exact ⟨0, .nil, by omega, rfl, HP7.out, HO8.out, HB2.out⟩
  case round =>
    obtain ⟨j, T, hj, rfl, hP, hO, hB⟩ := hrel
    have HP := Lib.hid hP; have HO := Lib.hid hO; have HB := Lib.hid hB
    clear hP hO hB HP7 HO8 HB2
    by_cases hlt : j < L1.length
    · skip
      obtain ⟨b, rfl, d0, d1, d2⟩ := HC1.out j hlt
      obtain ⟨⟨q, hq1, hq2⟩, hV, hso, hol, hsz⟩ := HP.out
      obtain ⟨a0, c0, hv⟩ := hV.len
      have hokj : ok L1[j].2.1 := HOK1.out _ (List.getElem_mem hlt)
      have hrl : (rep kf T.toList).length = T.toList.length := by simp [rep]
      rw [hrl] at hv
      subst hv
      generalize hx : L1[j] = x at *
      have e0 : wr.cell? (b.add (j * 3)) = some (.bool x.1) := cell_below d0 HB.out
      have e1 : wr.cell? ⟨(b.add (j * 3)).block, (b.add (j * 3)).off + 1, none⟩ = some (.int .i64 x.2.1) := cell_below d1 HB.out
      have e2 : wr.cell? ⟨(b.add (j * 3)).block, (b.add (j * 3)).off + 2, none⟩ = some (.int .i64 x.2.2) := cell_below d2 HB.out
      have hjl : (j : Int) < (L1.length : Int) := by omega
      have hj0 : (0 : Int) ≤ (j : Int) := by omega
      obtain ⟨w3, hw3⟩ : ∃ w3, wr.alloc (.cells #[.bool x.1, .int .i64 x.2.1, .int .i64 x.2.2] 36) = w3 := ⟨_, rfl⟩
      have hba : Below wr.heap.size wr w3 := by rw [← hw3]; exact (Below.refl _ wr).alloc (Nat.le_refl _) _
      have hN : w3.heap[wr.heap.size]? = some (.cells #[.bool x.1, .int .i64 x.2.1, .int .i64 x.2.2] 36 (0, 0)) := by rw [← hw3]; exact heap_new _ _
      have c1 : w3.cell? ⟨g, 0, none⟩ = some (.pointer q) := box_cell (box_below hba hq1)
      have c3 : w3.cell? ⟨wr.heap.size, 0, none⟩ = some (.bool x.1) := by simp [World.cell?, hN]
      have c4 : w3.cell? ⟨wr.heap.size, 1, none⟩ = some (.int .i64 x.2.1) := by simp [World.cell?, hN]
      have c5 : w3.cell? ⟨wr.heap.size, 2, none⟩ = some (.int .i64 x.2.2) := by simp [World.cell?, hN]
      have HTw := Lib.hid (hq2.below hba); have HVw := Lib.hid (hV.below hba); have HPw := Lib.hid (HP.out.below hba); have HOw := Lib.hid (HO.out.below hba); have HBw := Lib.hid (Below.step HB.out hba)
      have HSO := Lib.hid hso; have HOL := Lib.hid hol; have HSZ := Lib.hid hsz; have HOX := Lib.hid hokj
      clear d0 d1 d2 hx hq1 hq2 hV hso hol hsz hokj hrl hba hN HP HB HO
      go_wp2_with fail
      clear hw3
      refine (do_any x HOX.out HTw.out HVw.out HSO.out HOL.out (by have := HSZ.out; omega)).mono ?_
      rintro e w4 ⟨q2, v2, rfl, hT2, hV2, b4⟩
      have HF4 := Lib.hid (HPw.out.below b4); have HO4 := Lib.hid (HOw.out.below b4)
      obtain ⟨a2, cp2, hv2⟩ := hV2.len
      subst hv2
      obtain ⟨⟨q0, h1, hq0⟩, -⟩ := HF4.out
      have HFN := Lib.hid (PS.put (m := (j + 1 : Nat)) (T0 := T) ⟨q0, h1, hq0⟩ hT2 hV2 (actF_sorted x HSO.out) (actF_ok x HOX.out HSO.out HOL.out) (by have := actF_sz x T; have := HSZ.out; omega))
      have HON := Lib.hid (HO4.out.set (q := q2) h1 (by omega))
      have k1 := box_cell h1; have f1 := box_frozen h1
      have HBN := Lib.hid ((Below.step HBw.out b4).setCell (p := ⟨g, 0, none⟩) HG.out (.pointer q2))
      clear hT2 hV2 b4 c1 c3 c4 c5 e0 e1 e2 h1 hq0 HF4 HPw HBw HVw HTw HOw HO4
      go_wp2_with fail
      go_roundw
      case rel => exact ⟨j + 1, actF x T, by omega, by go_num, HFN.out, HON.out, HBN.out⟩
      case measure => simp [intOf]; omega
    · obtain rfl : j = L1.length := by omega
      obtain ⟨⟨q, hq1, hq2⟩, hV, hso, hol, hsz⟩ := HP.out
      obtain ⟨a0, c0, hv⟩ := hV.len
      have hrl : (rep kf T.toList).length = T.toList.length := by simp [rep]
      rw [hrl] at hv
      subst hv
      obtain ⟨w5, hw5⟩ : ∃ w5, wr.alloc (.cells #[.pointer q] 26) = w5 := ⟨_, rfl⟩
      have hb5 : Below wr.heap.size wr w5 := by rw [← hw5]; exact (Below.refl _ wr).alloc (Nat.le_refl _) _
      have hn5 : w5.heap[wr.heap.size]? = some (.cells #[.pointer q] 26 (0, 0)) := by rw [← hw5]; exact heap_new _ _
      have HP13 : Hid (PS w5 wr.heap.size (.slice a0 T.toList.length c0) T L1.length) := Lib.hid ⟨⟨q, hn5, hq2.below hb5⟩, hV.below hb5, hso, hol, hsz⟩
      have HO7 : Hid (OM2 w5 g (.slice a0 T.toList.length c0) T (g + 1) (.slice none 0 0) .nil) := Lib.hid ⟨⟨⟨q, box_below hb5 hq1, hq2.below hb5⟩, hV.below hb5⟩, HO.out.below hb5⟩
      have c1 := box_cell hq1
      have hgs : g + 1 < wr.heap.size := by obtain ⟨⟨q8, h8, -⟩, -⟩ := HO.out; exact (Array.getElem?_eq_some_iff.1 h8).1
      have HSO := Lib.hid hso; have HOL := Lib.hid hol; have HSZ := Lib.hid hsz
      have HB5 := Lib.hid (Below.step HB.out hb5)
      have hs5 : W.heap.size ≤ wr.heap.size := HB.out.size
      clear hq1 hq2 hV hso hol hsz hrl hb5 hn5 HP HO HB
      go_wp2_with fail
      clear hw5 c1
      generalize hg13 : wr.heap.size = g13 at *
      obtain ⟨T1, hT1⟩ : ∃ T1, T = T1 := ⟨_, rfl⟩
      rw [hT1] at HO7 HSO HOL HSZ
      rw [hT1] at HP13
      rw [hT1]
      have HSO1 := Lib.hid HSO.out; have HOL1 := Lib.hid HOL.out; have HSZ1 := Lib.hid HSZ.out
      clear hT1
      go_loopw [14, 51] (fun l c wr => ∃ (j : Nat) (T : Tr Int Int), j ≤ L2.length ∧ c = .int .i64 j ∧ PS wr g13 l T (L1.length + j : Nat) ∧ OM2 wr g (.slice a0 T1.toList.length c0) T1 (g + 1) (.slice none 0 0) .nil ∧ Below W.heap.size W wr) (fun _ c _ => L2.length - (intOf c).toNat)
      case atStart => exact ⟨0, T1, by omega, rfl, HP13.out, HO7.out, HB5.out⟩
      case round =>
        obtain ⟨j, T, hj, rfl, hP, hO, hB⟩ := hrel
        have HP := Lib.hid hP; have HO := Lib.hid hO; have HB := Lib.hid hB
        clear hP hO hB HP13 HO7 HB5
        by_cases hlt : j < L2.length
        · skip
          obtain ⟨b, rfl, d0, d1, d2⟩ := HC2.out j hlt
          obtain ⟨⟨q, hq1, hq2⟩, hV, hso, hol, hsz⟩ := HP.out
          obtain ⟨a0, c0, hv⟩ := hV.len
          have hokj : ok L2[j].2.1 := HOK2.out _ (List.getElem_mem hlt)
          have hrl : (rep kf T.toList).length = T.toList.length := by simp [rep]
          rw [hrl] at hv
          subst hv
          generalize hx : L2[j] = x at *
          have e0 : wr.cell? (b.add (j * 3)) = some (.bool x.1) := cell_below d0 HB.out
          have e1 : wr.cell? ⟨(b.add (j * 3)).block, (b.add (j * 3)).off + 1, none⟩ = some (.int .i64 x.2.1) := cell_below d1 HB.out
          have e2 : wr.cell? ⟨(b.add (j * 3)).block, (b.add (j * 3)).off + 2, none⟩ = some (.int .i64 x.2.2) := cell_below d2 HB.out
          have hjl : (j : Int) < (L2.length : Int) := by omega
          have hj0 : (0 : Int) ≤ (j : Int) := by omega
          obtain ⟨w3, hw3⟩ : ∃ w3, wr.alloc (.cells #[.bool x.1, .int .i64 x.2.1, .int .i64 x.2.2] 36) = w3 := ⟨_, rfl⟩
          have hba : Below wr.heap.size wr w3 := by rw [← hw3]; exact (Below.refl _ wr).alloc (Nat.le_refl _) _
          have hN : w3.heap[wr.heap.size]? = some (.cells #[.bool x.1, .int .i64 x.2.1, .int .i64 x.2.2] 36 (0, 0)) := by rw [← hw3]; exact heap_new _ _
          have c1 : w3.cell? ⟨g13, 0, none⟩ = some (.pointer q) := box_cell (box_below hba hq1)
          have c3 : w3.cell? ⟨wr.heap.size, 0, none⟩ = some (.bool x.1) := by simp [World.cell?, hN]
          have c4 : w3.cell? ⟨wr.heap.size, 1, none⟩ = some (.int .i64 x.2.1) := by simp [World.cell?, hN]
          have c5 : w3.cell? ⟨wr.heap.size, 2, none⟩ = some (.int .i64 x.2.2) := by simp [World.cell?, hN]
          have HTw := Lib.hid (hq2.below hba); have HVw := Lib.hid (hV.below hba); have HPw := Lib.hid (HP.out.below hba); have HOw := Lib.hid (HO.out.below hba); have HBw := Lib.hid (Below.step HB.out hba)
          have HSO := Lib.hid hso; have HOL := Lib.hid hol; have HSZ := Lib.hid hsz; have HOX := Lib.hid hokj
          clear d0 d1 d2 hx hq1 hq2 hV hso hol hsz hokj hrl hba hN HP HB HO
          go_wp2_with fail
          clear hw3
          refine (do_any x HOX.out HTw.out HVw.out HSO.out HOL.out (by have := HSZ.out; omega)).mono ?_
          rintro e w4 ⟨q2, v2, rfl, hT2, hV2, b4⟩
          have HF4 := Lib.hid (HPw.out.below b4); have HO4 := Lib.hid (HOw.out.below b4)
          obtain ⟨a2, cp2, hv2⟩ := hV2.len
          subst hv2
          obtain ⟨⟨q0, h1, hq0⟩, -⟩ := HF4.out
          have HFN := Lib.hid (PS.put (m := (L1.length + (j + 1) : Nat)) (T0 := T) ⟨q0, h1, hq0⟩ hT2 hV2 (actF_sorted x HSO.out) (actF_ok x HOX.out HSO.out HOL.out) (by have := actF_sz x T; have := HSZ.out; omega))
          have HON := Lib.hid (HO4.out.set (q := q2) h1 ⟨by omega, by omega⟩)
          have k1 := box_cell h1; have f1 := box_frozen h1
          have HBN := Lib.hid ((Below.step HBw.out b4).setCell (p := ⟨g13, 0, none⟩) hs5 (.pointer q2))
          clear hT2 hV2 b4 c1 c3 c4 c5 e0 e1 e2 h1 hq0 HF4 HPw HBw HVw HTw HOw HO4
          go_wp2_with fail
          go_roundw
          case rel => exact ⟨j + 1, actF x T, by omega, by go_num, HFN.out, HON.out, HBN.out⟩
          case measure => simp [intOf]; omega
        · obtain rfl : j = L2.length := by omega
          obtain ⟨⟨q2, hq1, hq2⟩, hV, hso, hol, hsz⟩ := HP.out
          obtain ⟨a3, c3, hv⟩ := hV.len
          have hrl : (rep kf T.toList).length = T.toList.length := by simp [rep]
          rw [hrl] at hv
          subst hv
          obtain ⟨⟨o1, o2⟩, ⟨⟨q8, n8, m8⟩, -⟩⟩ := HO.out
          have HP8 : Hid (PS wr (g + 1) (.slice none 0 0) .nil 0) := Lib.hid ⟨⟨q8, n8, m8⟩, SlA.nil _ _ _ _ _, by simp [Tr.toList, Sorted], by simp [Tr.toList, OkL], by simp [Tr.sz]⟩
          have HOO : Hid (OM2 wr g (.slice a0 T1.toList.length c0) T1 g13 (.slice a3 T.toList.length c3) T) := Lib.hid ⟨⟨o1, o2⟩, ⟨⟨q2, hq1, hq2⟩, hV⟩⟩
          have HSO2 := Lib.hid hso; have HOL2 := Lib.hid hol; have HSZ2 := Lib.hid hsz; have HBB := Lib.hid HB.out
          obtain ⟨T2, hT2⟩ : ∃ T2, T = T2 := ⟨_, rfl⟩
          rw [hT2] at HOO HSO2 HOL2 HSZ2
          rw [hT2]
          clear hq1 hq2 hV hso hol hsz hrl HP HO HB o1 o2 n8 m8 hT2
          go_wp2_with fail
          go_loopw [10, 65] (fun l c wr => ∃ (j : Nat) (T : Tr Int Int), j ≤ L3.length ∧ c = .int .i64 j ∧ PS wr (g + 1) l T j ∧ OM2 wr g (.slice a0 T1.toList.length c0) T1 g13 (.slice a3 T2.toList.length c3) T2 ∧ Below W.heap.size W wr) (fun _ c _ => L3.length - (intOf c).toNat)
          case atStart => exact ⟨0, .nil, by omega, rfl, HP8.out, HOO.out, HBB.out⟩
          case round =>
            obtain ⟨j, T, hj, rfl, hP, hO, hB⟩ := hrel
            have HP := Lib.hid hP; have HO := Lib.hid hO; have HB := Lib.hid hB
            clear hP hO hB HP8 HOO HBB
            by_cases hlt : j < L3.length
            · skip
              obtain ⟨b, rfl, d0, d1, d2⟩ := HC3.out j hlt
              obtain ⟨⟨q, hq1, hq2⟩, hV, hso, hol, hsz⟩ := HP.out
              obtain ⟨a0, c0, hv⟩ := hV.len
              have hokj : ok L3[j].2.1 := HOK3.out _ (List.getElem_mem hlt)
              have hrl : (rep kf T.toList).length = T.toList.length := by simp [rep]
              rw [hrl] at hv
              subst hv
              generalize hx : L3[j] = x at *
              have e0 : wr.cell? (b.add (j * 3)) = some (.bool x.1) := cell_below d0 HB.out
              have e1 : wr.cell? ⟨(b.add (j * 3)).block, (b.add (j * 3)).off + 1, none⟩ = some (.int .i64 x.2.1) := cell_below d1 HB.out
              have e2 : wr.cell? ⟨(b.add (j * 3)).block, (b.add (j * 3)).off + 2, none⟩ = some (.int .i64 x.2.2) := cell_below d2 HB.out
              have hjl : (j : Int) < (L3.length : Int) := by omega
              have hj0 : (0 : Int) ≤ (j : Int) := by omega
              obtain ⟨w3, hw3⟩ : ∃ w3, wr.alloc (.cells #[.bool x.1, .int .i64 x.2.1, .int .i64 x.2.2] 36) = w3 := ⟨_, rfl⟩
              have hba : Below wr.heap.size wr w3 := by rw [← hw3]; exact (Below.refl _ wr).alloc (Nat.le_refl _) _
              have hN : w3.heap[wr.heap.size]? = some (.cells #[.bool x.1, .int .i64 x.2.1, .int .i64 x.2.2] 36 (0, 0)) := by rw [← hw3]; exact heap_new _ _
              have c1 : w3.cell? ⟨g + 1, 0, none⟩ = some (.pointer q) := box_cell (box_below hba hq1)
              have c3 : w3.cell? ⟨wr.heap.size, 0, none⟩ = some (.bool x.1) := by simp [World.cell?, hN]
              have c4 : w3.cell? ⟨wr.heap.size, 1, none⟩ = some (.int .i64 x.2.1) := by simp [World.cell?, hN]
              have c5 : w3.cell? ⟨wr.heap.size, 2, none⟩ = some (.int .i64 x.2.2) := by simp [World.cell?, hN]
              have HTw := Lib.hid (hq2.below hba); have HVw := Lib.hid (hV.below hba); have HPw := Lib.hid (HP.out.below hba); have HOw := Lib.hid (HO.out.below hba); have HBw := Lib.hid (Below.step HB.out hba)
              have HSO := Lib.hid hso; have HOL := Lib.hid hol; have HSZ := Lib.hid hsz; have HOX := Lib.hid hokj
              clear d0 d1 d2 hx hq1 hq2 hV hso hol hsz hokj hrl hba hN HP HB HO
              go_wp2_with fail
              clear hw3
              refine (do_any x HOX.out HTw.out HVw.out HSO.out HOL.out (by have := HSZ.out; omega)).mono ?_
              rintro e w4 ⟨q2, v2, rfl, hT2, hV2, b4⟩
              have HF4 := Lib.hid (HPw.out.below b4); have HO4 := Lib.hid (HOw.out.below b4)
              obtain ⟨a2, cp2, hv2⟩ := hV2.len
              subst hv2
              obtain ⟨⟨q0, h1, hq0⟩, -⟩ := HF4.out
              have HFN := Lib.hid (PS.put (m := (j + 1 : Nat)) (T0 := T) ⟨q0, h1, hq0⟩ hT2 hV2 (actF_sorted x HSO.out) (actF_ok x HOX.out HSO.out HOL.out) (by have := actF_sz x T; have := HSZ.out; omega))
              have HON := Lib.hid (HO4.out.set (q := q2) h1 ⟨by omega, by omega⟩)
              have k1 := box_cell h1; have f1 := box_frozen h1
              have HBN := Lib.hid ((Below.step HBw.out b4).setCell (p := ⟨g + 1, 0, none⟩) (Nat.le_trans HG.out (Nat.le_succ g)) (.pointer q2))
              clear hT2 hV2 b4 c1 c3 c4 c5 e0 e1 e2 h1 hq0 HF4 HPw HBw HVw HTw HOw HO4
              go_wp2_with fail
              go_roundw
              case rel => exact ⟨j + 1, actF x T, by omega, by go_num, HFN.out, HON.out, HBN.out⟩
              case measure => simp [intOf]; omega
            · obtain rfl : j = L3.length := by omega
              obtain ⟨⟨q3, hq1, hq2⟩, hV, hso, hol, hsz⟩ := HP.out
              obtain ⟨a4, c4, hv⟩ := hV.len
              have hrl : (rep kf T.toList).length = T.toList.length := by simp [rep]
              rw [hrl] at hv
              subst hv
              obtain ⟨⟨⟨x1, y1, z1⟩, s1⟩, ⟨⟨x2, y2, z2⟩, s2⟩⟩ := HO.out
              have HSa := Lib.hid hso; have HOa := Lib.hid hol
              have HM1 := Lib.hid (show OM wr g (.slice a0 T1.toList.length c0) T1 from ⟨⟨x1, y1, z1⟩, s1⟩); have HM2 := Lib.hid (show OM wr g13 (.slice a3 T2.toList.length c3) T2 from ⟨⟨x2, y2, z2⟩, s2⟩); have HM3 := Lib.hid (show OM wr (g + 1) (.slice a4 T.toList.length c4) T from ⟨⟨q3, hq1, hq2⟩, hV⟩)
              have HZ1 := Lib.hid z1; have HZ2 := Lib.hid z2; have HZ3 := Lib.hid hq2
              have hl1 := Tr.sz_eq T1; have hl2 := Tr.sz_eq T2; have hl3 := Tr.sz_eq T
              have HLL : Hid (T1.toList.length ≤ 100 ∧ T2.toList.length ≤ 200 ∧ T.toList.length ≤ 100) := Lib.hid (by
                have e1 := HSZ1.out; have e2 := HSZ2.out; omega)
              have c7 := box_cell y1; have c13 := box_cell y2; have c8 := box_cell hq1
              have HY1 := Lib.hid y1; have HY2 := Lib.hid y2; have HY3 := Lib.hid hq1
              have HBw := Lib.hid HB.out
              clear y1 y2 z1 z2 s1 s2 hq1 hq2 hV hso hol hsz hrl HP HO HB hl1 hl2 hl3
              go_wp2_with fail
              refine (changed_any HZ1.out HZ2.out (by have := HLL.out; omega)).mono ?_
              rintro e w5 ⟨r5, rfl, hS5, b5⟩
              obtain ⟨a5, c5, hv5⟩ := hS5.len
              subst hv5
              have HS5 := Lib.hid hS5; have B5 := Lib.hid b5
              clear hS5 b5
              go_wp2_with fail
              refine (refChanged_any (HM1.out.2.below B5.out) (HM2.out.2.below B5.out) (by have := HLL.out; simp [rep]; omega)).mono ?_
              rintro e w6 ⟨r6, rfl, hS6, b6⟩
              rw [refChg_eq HSO1.out HOL1.out HSO2.out HOL2.out] at hS6
              obtain ⟨a6, c6, hv6⟩ := hS6.len
              rw [List.length_map] at hv6
              subst hv6
              have HS6 := Lib.hid hS6; have HS5' := Lib.hid (HS5.out.below b6); have B6 := Lib.hid (Below.step B5.out b6)
              clear hS6 b6 HS5 B5
              go_wp2_with fail
              refine (same_any (HS5'.out.mono (Nat.zero_le _)) (HS6.out.mono (Nat.zero_le _)) (fun k hk => chg_ok HOL1.out HOL2.out HSO1.out HSO2.out hk) (by have := chg_len T1.toList T2.toList; have := HLL.out; omega)).mono ?_
              rintro e w7 ⟨rfl, b7⟩
              have B7 := Lib.hid (Below.step B6.out b7)
              have d13 := box_cell (box_below B7.out HY2.out); have d8 := box_cell (box_below B7.out HY3.out)
              clear b7 B6 HS5' HS6 c7 c13 c8
              go_wp2_with fail
              refine (changed_any (HZ2.out.below B7.out) (HZ3.out.below B7.out) (by have := HLL.out; omega)).mono ?_
              rintro e w8 ⟨r8, rfl, hS8, b8⟩
              obtain ⟨a8, c8, hv8⟩ := hS8.len
              subst hv8
              have HS8 := Lib.hid hS8; have B8 := Lib.hid (Below.step B7.out b8)
              clear hS8 b8 B7 d13 d8
              go_wp2_with fail
              refine (refChanged_any (HM2.out.2.below B8.out) (HM3.out.2.below B8.out) (by have := HLL.out; simp [rep]; omega)).mono ?_
              rintro e w9 ⟨r9, rfl, hS9, b9⟩
              rw [refChg_eq HSO2.out HOL2.out HSa.out HOa.out] at hS9
              obtain ⟨a9, c9, hv9⟩ := hS9.len
              rw [List.length_map] at hv9
              subst hv9
              have HS9 := Lib.hid hS9; have HS8' := Lib.hid (HS8.out.below b9); have B9 := Lib.hid (Below.step B8.out b9)
              clear hS9 b9 HS8 B8
              go_wp2_with fail
              refine (same_any (HS8'.out.mono (Nat.zero_le _)) (HS9.out.mono (Nat.zero_le _)) (fun k hk => chg_ok HOL2.out HOa.out HSO2.out HSa.out hk) (by have := chg_len T2.toList T.toList; have := HLL.out; omega)).mono ?_
              rintro e w10 ⟨rfl, b10⟩
              have B10 := Lib.hid (Below.step B9.out b10)
              have d13 := box_cell (box_below B10.out HY2.out)
              clear b10 B9 HS8' HS9
              go_wp2_with fail
              refine (changed_any (HZ2.out.below B10.out) (HZ2.out.below B10.out) (by have := HLL.out; omega)).mono ?_
              rintro e w11 ⟨r11, rfl, hS11, b11⟩
              rw [chg_self] at hS11
              obtain ⟨a11, c11, hv11⟩ := hS11.len
              simp only [List.length_nil] at hv11
              subst hv11
              have B11 := Lib.hid (Below.step HBw.out (Below.step B10.out b11))
              clear hS11 b11 B10 d13
              go_wp2_with fail
              go_ret
              exact ⟨rfl, B11.out⟩
end ii
end Go.Proofs.Ytdgclambplipnaa
