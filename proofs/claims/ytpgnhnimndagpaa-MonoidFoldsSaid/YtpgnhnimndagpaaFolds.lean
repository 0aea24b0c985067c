/- MonoidFolds: the walk. -/
import Derived.Test.YtpgnhnimndagpaaWindows
import Derived.Test.YtpgnhnimndagpaaPrefW
import Derived.Test.YtpgnhnimndagpaaFoldW
namespace Go.Proofs.Ytpgnhnimndagpaa
open Go.RowKit
namespace W
attribute [local go_sem] Oper.semAt_some

theorem _root_.Go.Proofs.Ytpgnhnimndagpaa.RowAt.pre {α : Type} {ev : α → Value} {W : World} {a : Option Addr} {n cap i : Nat} {L : List α} (h : RowAt ev W (.slice a n cap) L) (hi : i ≤ n) : RowAt ev W (.slice a i cap) (L.take i) := by
  obtain ⟨a', c, e, h1, h2, h⟩ := h
  simp only [Value.slice.injEq] at e
  obtain ⟨rfl, rfl, rfl⟩ := e
  have hl : (L.take i).length = i := by rw [List.length_take]; omega
  refine ⟨_, _, by rw [hl], by rw [hl]; omega, h2, fun k hk => ?_⟩
  rw [hl] at hk
  obtain ⟨b, e, x⟩ := h k (by omega)
  exact ⟨b, e, by rw [x]; simp⟩
theorem _root_.Go.Proofs.Ytpgnhnimndagpaa.RowAt.suf {α : Type} {ev : α → Value} {W : World} {b : Addr} {n cap i : Nat} {L : List α} (h : RowAt ev W (.slice (some b) n cap) L) (hi : i ≤ n) : RowAt ev W (.slice (some (b.add i)) (n - i) (cap - i)) (L.drop i) := by
  have hn : n = L.length := by obtain ⟨a, c, e, -⟩ := h; simp only [Value.slice.injEq] at e; exact e.2.1
  have := h.sub (i := i) (m := n - i) (by omega)
  rwa [List.take_of_length_le (by rw [List.length_drop]; omega)] at this
theorem _root_.Go.Proofs.Ytpgnhnimndagpaa.RowAt.none {α : Type} (ev : α → Value) (W : World) (a : Option Addr) (cap : Nat) (h : cap ≤ maxLen) : RowAt ev W (.slice a 0 cap) ([] : List α) := ⟨a, cap, rfl, by simp, h, fun i hi => by simp at hi⟩

theorem fold_cat {W : World} {v : Value} {L : List ByteArray} (hL : RowAt Value.string W v L) (hs : lenB L ≤ 1000000) :
    Calls Try.prog 33 #[.agg #[], v] W fun e w' => e = .returned (.string (catB L)) ∧ Below W.heap.size W w' := by
  rw [← fold1_catB]
  refine fold_any hL (fun s L' e j hj => ?_)
  subst e
  show ((L'.take j).foldl (fun x1 x2 : ByteArray => x1 ++ x2) s).size + L'[j].size ≤ _
  have h1 := foldl_size (L'.take j) s
  have h2 := lenB_at L' j hj
  have h3 : lenB (s :: L') = s.size + lenB L' := by simp [lenB]
  rw [h1]; omega
theorem catB_append (A B : List ByteArray) : catB [catB A, catB B] = catB (A ++ B) := by
  have h : ∀ (B : List ByteArray) (x : ByteArray), B.foldl (· ++ ·) x = x ++ catB B := by
    intro B
    induction B with
    | nil => intro x; simp only [catB, List.foldl_nil]; exact ByteArray.append_empty.symm
    | cons b B ih =>
      intro x
      simp only [catB, List.foldl_cons]
      rw [ih, ba_empty, ih b, ByteArray.append_assoc]
  conv => rhs; rw [catB, List.foldl_append, h]
  simp only [catB, List.foldl_cons, List.foldl_nil]
  rw [ba_empty]
theorem pref_cat {W : World} {v : Value} {L : List ByteArray} (hL : RowAt Value.string W v L) (hn : L.length ≤ 1000000) (hs : lenB L ≤ 1000000) :
    Calls Try.prog 32 #[.agg #[], v] W fun e w' => ∃ (A : List ByteArray) (a : Option Addr) (c : Nat), e = .returned (.slice a A.length c) ∧ RowAt Value.string w' (.slice a A.length c) A ∧ A.length = L.length + 1 ∧ (∀ (i : Nat) (h : i < A.length), A[i] = catB (L.take i)) ∧ Below W.heap.size W w' := by
  refine (pref_any hL hn (fun j hj h0 => ?_)).mono fun e w ⟨r, he, hr, hb⟩ => ?_
  · show (fold1 (fun x1 x2 : ByteArray => x1 ++ x2) ⟨#[]⟩ (L.take j)).size + L[j].size ≤ _
    rw [fold1_catB, catB_size]
    have := lenB_at L j hj
    omega
  · have h2 := SlA.row (ev := Value.string) hr
    have hr3 := h2
    obtain ⟨a, c, rfl, -⟩ := h2
    refine ⟨_, a, c, he, hr3, by rw [pfs_length], fun i h => ?_, hb⟩
    simp only [pfs, List.getElem_map, List.getElem_range]
    exact fold1_catB _

set_option maxRecDepth 100000 in
set_option maxHeartbeats 4000000 in
theorem folds_any {W : World} {v : Value} {L : List ByteArray} (hL : RowAt Value.string W v L) (hsz : ∀ s ∈ L, s.size ≤ 9223372036854775807) (k : Int) (hk0 : 0 ≤ k) (hk1 : k ≤ 255) :
    Calls Try.prog 9 #[v, .int .u8 k] W fun e w' => e = .returned (.bool true) ∧ Below W.heap.size W w' := by
  have HF : ∀ f, Fence.wide.fn f := fun _ => trivial
  have H := Lib.hid hL; have HSZ := Lib.hid hsz
  obtain ⟨a, cap, rfl, -, -, -⟩ := hL
  clear hsz
  have HS := Lib.hid (shortL_len L); have HS2 := Lib.hid (shortL_size L)
  go_enter Try.func9, Try.ntmps9
  go_wp2_with fail
  refine (awake_any W).mono ?_; rintro e w1 ⟨rfl, b1⟩
  have HB1 := Lib.hid b1; have H1 := Lib.hid (H.out.below b1); clear b1
  go_wp2_with fail
  refine (short_any H1.out HSZ.out).mono ?_
  rintro e w2 ⟨r, rfl, hr, b2⟩
  have HR := Lib.hid (SlA.row (ev := Value.string) hr); have HB2 := Lib.hid (Below.step HB1.out b2)
  clear b2
  generalize shortL L = S at *
  obtain ⟨n, hn⟩ : ∃ n, S.length = n := ⟨_, rfl⟩
  have HN := Lib.hid hn
  have hn60 : n ≤ 60 := by have := HS.out; omega
  obtain ⟨kk, hkk⟩ : ∃ kk : Nat, k % ((n : Int) + 1) = (kk : Int) := ⟨(k % ((n : Int) + 1)).toNat, by have := Int.emod_nonneg k (show (n : Int) + 1 ≠ 0 by omega); omega⟩
  have hkn : kk ≤ n := by have := Int.emod_lt_of_pos k (show (0 : Int) < (n : Int) + 1 by omega); omega
  have hsh : (∃ a c, r = .slice a n c ∧ a = none ∧ c = 0 ∧ n = 0) ∨ (∃ a b c, r = .slice a n c ∧ a = some b ∧ n ≤ c ∧ c ≤ 9223372036854775807) := by
    rcases hr.shape with ⟨h1, h2⟩ | ⟨g, c, h1, h2, h3⟩
    · left; subst h2; exact ⟨none, 0, by rw [h1, ← hn]; rfl, rfl, rfl, by rw [← hn]; rfl⟩
    · right; unfold maxLen at h3; exact ⟨_, ⟨g, 0, none⟩, c, by rw [h1, hn], rfl, by omega, by omega⟩
  clear hr hn
  rcases hsh with ⟨a2, c2, rfl, rfl, rfl, rfl⟩ | ⟨a2, b2, c2, rfl, rfl, hc3, hc4⟩
  · obtain rfl : kk = 0 := by omega
    have hS0 : S = [] := List.eq_nil_of_length_eq_zero HN.out
    subst hS0
    have HRR := Lib.hid HR.out
    have HW1 := Lib.hid (wrap_in (x := 1) (by omega) (by omega))
    have HT := Lib.hid (show k.tmod 1 = 0 from Int.tmod_one k)
    have HW2 := Lib.hid (wrap_in (x := 0) (by omega) (by omega))
    have HW3 := Lib.hid (wrap_in (x := k) (by omega) (by omega))
    clear hkk
    go_wp2_with fail
    have hw1 := HW1.out; have ht := HT.out; have hw2 := HW2.out; have hw3 := HW3.out
    have B0 : Below w2.heap.size w2 w2.drew := (Below.refl _ _).drew
    refine wp_region_anyH (Below w2.heap.size w2) (by kernel_rfl) ?_
    refine AnyH.take (i := 0) (d := some 12) (v := ?_) (by kernel_rfl) rfl rfl HF (fun _ _ _ h => h) (.inl ⟨by rfl, ?_⟩) (by first | assumption | rfl) ?_
    rotate_left
    · intro w hS; try subst hS
      go_simp; try with_reducible rfl
    try simp only [Act.put, List.setIfInBounds_toArray, List.set_cons_zero, List.set_cons_succ]
    refine AnyH.take (i := 1) (d := some 13) (v := ?_) (by kernel_rfl) rfl rfl HF (fun _ _ _ h => h) (.inl ⟨by rfl, ?_⟩) (by first | assumption | rfl) ?_
    rotate_left
    · intro w hS; try subst hS
      go_simp; try with_reducible rfl
    try simp only [Act.put, List.setIfInBounds_toArray, List.set_cons_zero, List.set_cons_succ]
    refine AnyH.take (i := 3) (d := some 15) (v := ?_) (by kernel_rfl) rfl rfl HF (fun _ _ _ h => h) (.inl ⟨by rfl, ?_⟩) (by first | assumption | rfl) ?_
    rotate_left
    · intro w hS; try subst hS
      go_simp; try with_reducible rfl
    try simp only [Act.put, List.setIfInBounds_toArray, List.set_cons_zero, List.set_cons_succ]
    refine AnyH.take (i := 4) (d := some 16) (v := ?_) (by kernel_rfl) rfl rfl HF (fun _ _ _ h => h) (.inl ⟨by rfl, ?_⟩) (by first | assumption | rfl) ?_
    rotate_left
    · intro w hS; try subst hS
      go_simp; try with_reducible rfl
    try simp only [Act.put, List.setIfInBounds_toArray, List.set_cons_zero, List.set_cons_succ]
    refine AnyH.take (i := 5) (d := some 17) (v := ?_) (by kernel_rfl) rfl rfl HF (fun _ _ _ h => h) (.inl ⟨by rfl, ?_⟩) (by first | assumption | rfl) ?_
    rotate_left
    · intro w hS; try subst hS
      go_simp; try with_reducible rfl
    try simp only [Act.put, List.setIfInBounds_toArray, List.set_cons_zero, List.set_cons_succ]
    refine AnyH.take (i := 6) (d := some 18) (v := ?_) (by kernel_rfl) rfl rfl HF (fun _ _ _ h => h) (.inl ⟨by rfl, ?_⟩) (by first | assumption | rfl) ?_
    rotate_left
    · intro w hS; try subst hS
      go_simp; try with_reducible rfl
    try simp only [Act.put, List.setIfInBounds_toArray, List.set_cons_zero, List.set_cons_succ]
    refine AnyH.take (i := 7) (d := some 19) (v := ?_) (by kernel_rfl) rfl rfl HF (fun _ _ _ h => h) (.inl ⟨by rfl, ?_⟩) (by first | assumption | rfl) ?_
    rotate_left
    · intro w hS; try subst hS
      go_simp; try with_reducible rfl
    try simp only [Act.put, List.setIfInBounds_toArray, List.set_cons_zero, List.set_cons_succ]
    refine AnyH.take (i := 8) (d := some 20) (v := ?_) (by kernel_rfl) rfl rfl HF (fun _ _ _ h => h) (.inl ⟨by rfl, ?_⟩) (by first | assumption | rfl) ?_
    rotate_left
    · intro w hS; try subst hS
      go_simp; try with_reducible rfl
    try simp only [Act.put, List.setIfInBounds_toArray, List.set_cons_zero, List.set_cons_succ]
    refine AnyH.one (i := 2) (by kernel_rfl) (by kernel_rfl) rfl HF (by rfl) (fun K hK => ?_)
    go_simp
    first | ((with_reducible refine And.intro ?hdep ?_); (case hdep => first | rfl | (intro h; cases h))) | skip
    refine callsIn_wide.2 ((pref_cat (HRR.out.below B0) (by have := HN.out; omega) (by have := HS2.out; omega)).mono ?_)
    rintro e w3 ⟨A, a3, c3, rfl, hr3, hA, hAi, b3⟩
    have B3 : Below w2.heap.size w2 w3 := Below.step B0 b3
    have HG := Lib.hid hr3; have HA := Lib.hid hA; have HAI := Lib.hid hAi
    clear hr3 hA hAi b3
    refine hK _ _ B3 ?_
    clear hK K
    try simp only [Act.put, List.setIfInBounds_toArray, List.set_cons_zero, List.set_cons_succ]
    refine AnyH.take (i := 9) (d := some 5) (v := ?_) (by kernel_rfl) rfl rfl HF (fun _ _ _ h => h) (.inl ⟨by rfl, ?_⟩) (by first | assumption | rfl) ?_
    rotate_left
    · intro w hS; try subst hS
      go_simp; try with_reducible rfl
    try simp only [Act.put, List.setIfInBounds_toArray, List.set_cons_zero, List.set_cons_succ]
    refine AnyH.take (i := 10) (d := some 6) (v := ?_) (by kernel_rfl) rfl rfl HF (fun _ _ _ h => h) (.inl ⟨by rfl, ?_⟩) (by first | assumption | rfl) ?_
    rotate_left
    · intro w hS; try subst hS
      go_simp; try with_reducible rfl
    try simp only [Act.put, List.setIfInBounds_toArray, List.set_cons_zero, List.set_cons_succ]
    refine AnyH.done (by kernel_rfl) ?_
    clear hw1 ht hw2 hw3
    have HB3 := Lib.hid (Below.step HB2.out B3); have HR3 := Lib.hid (HRR.out.below B3)
    have hAn : A.length = 0 + 1 := by rw [HA.out, HN.out]
    have HAN := Lib.hid hAn
    have hq1 : ((A.length : Int) != 1) = false := by rw [hAn]; simp
    clear B0 B3 HRR hAn
    go_wp2_with fail
    clear hq1
    go_loopw [29] (fun c wr => ∃ j : Nat, j ≤ A.length ∧ c = .int .i64 j ∧ Below w3.heap.size w3 wr) (fun c _ => A.length - (intOf c).toNat)
    case atStart => exact ⟨0, by omega, rfl, Below.refl _ _⟩
    case round =>
      obtain ⟨j, hj, rfl, hB⟩ := hrel
      have HBr := Lib.hid hB; clear hB
      have hAn := HAN.out
      by_cases hlt : j < A.length
      · obtain rfl : j = 0 := by omega
        have hl3 : (0 : Int) < (A.length : Int) := by omega
        have hl4 : (0 : Int) ≤ (0 : Int) := by omega
        have hl5 : (0 : Int) ≤ (0 : Int) := by omega
        have hjn : 0 ≤ 0 := by omega
        obtain ⟨b3, e3, hb3, m3⟩ := HG.out.at hlt
        simp only [Value.slice.injEq] at hb3
        obtain ⟨rfl, -, rfl⟩ := hb3
        rw [HAI.out 0 hlt] at m3
        have z0 : b3.add 0 = b3 := by unfold Addr.add; simp
        rw [z0] at m3
        clear z0
        have hsm : lenB (([] : List ByteArray).take 0) ≤ 1000000 := by have := lenB_take ([] : List ByteArray) 0; have := HS2.out; omega
        have HSM := Lib.hid hsm
        clear hsm hAn
        go_wp2_with fail
        have B0 : Below w3.heap.size w3 wr.drew := HBr.out.drew
        refine wp_region_anyH (Below w3.heap.size w3) (by kernel_rfl) ?_
        refine AnyH.take (i := 0) (d := some 32) (v := ?_) (by kernel_rfl) rfl rfl HF (fun _ _ _ h => h) (.inl ⟨by rfl, ?_⟩) (by first | assumption | rfl) ?_
        rotate_left
        · intro w hS; try subst hS
          go_simp; try with_reducible rfl
        try simp only [Act.put, List.setIfInBounds_toArray, List.set_cons_zero, List.set_cons_succ]
        refine AnyH.take (i := 1) (d := some 33) (v := ?_) (by kernel_rfl) rfl rfl HF (fun _ _ _ h => h) (.inl ⟨by rfl, ?_⟩) (by first | assumption | rfl) ?_
        rotate_left
        · intro w hS; try subst hS
          go_simp; try with_reducible rfl
        try simp only [Act.put, List.setIfInBounds_toArray, List.set_cons_zero, List.set_cons_succ]
        refine AnyH.take (i := 2) (d := some 34) (v := ?_) (by kernel_rfl) rfl rfl HF (fun _ _ _ h => h) (.inl ⟨by rfl, ?_⟩) (by first | assumption | rfl) ?_
        rotate_left
        · intro w hS; try subst hS
          go_simp; try with_reducible rfl
        try simp only [Act.put, List.setIfInBounds_toArray, List.set_cons_zero, List.set_cons_succ]
        refine AnyH.take (i := 3) (d := some 35) (v := ?_) (by kernel_rfl) rfl rfl HF (fun _ _ _ h => h) (.inl ⟨by rfl, ?_⟩) (by first | assumption | rfl) ?_
        rotate_left
        · intro w hS; try subst hS
          go_simp; try with_reducible rfl
        try simp only [Act.put, List.setIfInBounds_toArray, List.set_cons_zero, List.set_cons_succ]
        refine AnyH.take (i := 4) (d := some 36) (v := ?_) (by kernel_rfl) rfl rfl HF (fun _ _ _ h => h) (.inl ⟨by rfl, ?_⟩) (by first | assumption | rfl) ?_
        rotate_left
        · intro w hS; try subst hS
          go_simp; try with_reducible rfl
        try simp only [Act.put, List.setIfInBounds_toArray, List.set_cons_zero, List.set_cons_succ]
        refine AnyH.take (i := 5) (d := some 37) (v := ?_) (by kernel_rfl) rfl rfl HF (fun _ _ _ h => h) (.inl ⟨by rfl, ?_⟩) (by first | assumption | rfl) ?_
        rotate_left
        · intro w hS; try subst hS
          go_simp; try with_reducible rfl
        try simp only [Act.put, List.setIfInBounds_toArray, List.set_cons_zero, List.set_cons_succ]
        refine AnyH.take (i := 6) (d := some 38) (v := ?_) (by kernel_rfl) rfl rfl HF (fun _ _ _ h => h) (.inl ⟨by rfl, ?_⟩) (by first | assumption | rfl) ?_
        rotate_left
        · intro w hS; try subst hS
          go_simp; try with_reducible rfl
        try simp only [Act.put, List.setIfInBounds_toArray, List.set_cons_zero, List.set_cons_succ]
        refine AnyH.one (i := 7) (by kernel_rfl) (by kernel_rfl) rfl HF (by rfl) (fun K hK => ?_)
        go_simp
        first | ((with_reducible refine And.intro ?hdep ?_); (case hdep => first | rfl | (intro h; cases h))) | skip
        refine callsIn_wide.2 ((text_any ((HR3.out.below B0).pre hjn) HSM.out).mono ?_)
        rintro e w4 ⟨rfl, b4⟩
        have B4 : Below w3.heap.size w3 w4 := Below.step B0 b4
        refine hK _ _ B4 ?_
        clear hK K
        try simp only [Act.put, List.setIfInBounds_toArray, List.set_cons_zero, List.set_cons_succ]
        refine AnyH.take (i := 8) (d := some 40) (v := ?_) (by kernel_rfl) rfl rfl HF (fun _ _ _ h => h) (.inl ⟨by rfl, ?_⟩) (by first | assumption | rfl) ?_
        rotate_left
        · intro w hS; try subst hS
          go_simp; try with_reducible rfl
        try simp only [Act.put, List.setIfInBounds_toArray, List.set_cons_zero, List.set_cons_succ]
        refine AnyH.done (by kernel_rfl) ?_
        go_wp2_with fail
        go_roundw
        case rel => exact ⟨0 + 1, by omega, by go_num, B4⟩
        case measure => simp [intOf]; omega
      · obtain rfl : j = A.length := by omega
        have hl1 : (0 : Int) ≤ (0 : Int) := by omega
        have hl2 : (0 : Int) ≤ (0 : Int) := by omega
        have hl3 : (0 : Int) ≤ (0 : Int) := by omega
        have HSM := Lib.hid (show lenB ([] : List ByteArray) ≤ 1000000 by have := HS2.out; omega)
        have HSP := Lib.hid (show lenB (([] : List ByteArray).take 0) ≤ 1000000 by have := lenB_take ([] : List ByteArray) 0; have := HS2.out; omega)
        have HSQ := Lib.hid (show lenB (([] : List ByteArray).drop 0) ≤ 1000000 by have h := lenB_drop ([] : List ByteArray) 0 ([] : List ByteArray).length; rw [List.take_of_length_le (by rw [List.length_drop]; omega)] at h; have := HS2.out; omega)
        have HSR := Lib.hid (show lenB [catB (([] : List ByteArray).take 0), catB (([] : List ByteArray).drop 0)] ≤ 1000000 by
          have h1 := HSP.out; have h2 := HSQ.out
          have h3 := catB_size (([] : List ByteArray).take 0); have h4 := catB_size (([] : List ByteArray).drop 0)
          have e1 := lenB_take ([] : List ByteArray) 0
          have e2 : lenB (([] : List ByteArray).drop 0) ≤ lenB ([] : List ByteArray) := by have h := lenB_drop ([] : List ByteArray) 0 ([] : List ByteArray).length; rwa [List.take_of_length_le (by rw [List.length_drop]; omega)] at h
          have e3 := HS2.out
          simp only [lenB, List.map_cons, List.map_nil, List.sum_cons, List.sum_nil] at *
          omega)
        have HCC : Hid (catB [catB (([] : List ByteArray).take 0), catB (([] : List ByteArray).drop 0)] = catB ([] : List ByteArray)) := Lib.hid (by rw [catB_append, List.take_append_drop])
        obtain ⟨wo, rfl⟩ : ∃ wo : World, wo = wr := ⟨_, rfl⟩
        clear hAn
        go_wp2_with fail
        have B0 : Below w3.heap.size w3 wo.drew := HBr.out.drew
        refine wp_region_anyH (Below w3.heap.size w3) (by kernel_rfl) ?_
        refine AnyH.take (i := 0) (d := some 42) (v := ?_) (by kernel_rfl) rfl rfl HF (fun _ _ _ h => h) (.inl ⟨by rfl, ?_⟩) (by first | assumption | rfl) ?_
        rotate_left
        · intro w hS; try subst hS
          go_simp; try with_reducible rfl
        try simp only [Act.put, List.setIfInBounds_toArray, List.set_cons_zero, List.set_cons_succ]
        refine AnyH.take (i := 1) (d := some 43) (v := ?_) (by kernel_rfl) rfl rfl HF (fun _ _ _ h => h) (.inl ⟨by rfl, ?_⟩) (by first | assumption | rfl) ?_
        rotate_left
        · intro w hS; try subst hS
          go_simp; try with_reducible rfl
        try simp only [Act.put, List.setIfInBounds_toArray, List.set_cons_zero, List.set_cons_succ]
        refine AnyH.take (i := 3) (d := some 45) (v := ?_) (by kernel_rfl) rfl rfl HF (fun _ _ _ h => h) (.inl ⟨by rfl, ?_⟩) (by first | assumption | rfl) ?_
        rotate_left
        · intro w hS; try subst hS
          go_simp; try with_reducible rfl
        try simp only [Act.put, List.setIfInBounds_toArray, List.set_cons_zero, List.set_cons_succ]
        refine AnyH.one (i := 2) (by kernel_rfl) (by kernel_rfl) rfl HF (by rfl) (fun K hK => ?_)
        go_simp
        first | ((with_reducible refine And.intro ?hdep ?_); (case hdep => first | rfl | (intro h; cases h))) | skip
        refine callsIn_wide.2 ((fold_cat (HR3.out.below B0) HSM.out).mono ?_)
        rintro e w4 ⟨rfl, b4⟩
        have B4 : Below w3.heap.size w3 w4 := Below.step B0 b4
        refine hK _ _ B4 ?_
        clear hK K
        try simp only [Act.put, List.setIfInBounds_toArray, List.set_cons_zero, List.set_cons_succ]
        refine AnyH.one (i := 4) (by kernel_rfl) (by kernel_rfl) rfl HF (by rfl) (fun K hK => ?_)
        go_simp
        first | ((with_reducible refine And.intro ?hdep ?_); (case hdep => first | rfl | (intro h; cases h))) | skip
        refine callsIn_wide.2 ((text_any (HR3.out.below B4) HSM.out).mono ?_)
        rintro e w5 ⟨rfl, b5⟩
        have B5 : Below w3.heap.size w3 w5 := Below.step B4 b5
        refine hK _ _ B5 ?_
        clear hK K
        try simp only [Act.put, List.setIfInBounds_toArray, List.set_cons_zero, List.set_cons_succ]
        refine AnyH.take (i := 5) (d := some 47) (v := ?_) (by kernel_rfl) rfl rfl HF (fun _ _ _ h => h) (.inl ⟨by rfl, ?_⟩) (by first | assumption | rfl) ?_
        rotate_left
        · intro w hS; try subst hS
          go_simp; try with_reducible rfl
        try simp only [Act.put, List.setIfInBounds_toArray, List.set_cons_zero, List.set_cons_succ]
        refine AnyH.take (i := 6) (d := some 48) (v := ?_) (by kernel_rfl) rfl rfl HF (fun _ _ _ h => h) (.inl ⟨by rfl, ?_⟩) (by first | assumption | rfl) ?_
        rotate_left
        · intro w hS; try subst hS
          go_simp; try with_reducible rfl
        try simp only [Act.put, List.setIfInBounds_toArray, List.set_cons_zero, List.set_cons_succ]
        refine AnyH.take (i := 7) (d := some 49) (v := ?_) (by kernel_rfl) rfl rfl HF (fun _ _ _ h => h) (.inl ⟨by rfl, ?_⟩) (by first | assumption | rfl) ?_
        rotate_left
        · intro w hS; try subst hS
          go_simp; try with_reducible rfl
        try simp only [Act.put, List.setIfInBounds_toArray, List.set_cons_zero, List.set_cons_succ]
        refine AnyH.take (i := 8) (d := some 50) (v := ?_) (by kernel_rfl) rfl rfl HF (fun _ _ _ h => h) (.inl ⟨by rfl, ?_⟩) (by first | assumption | rfl) ?_
        rotate_left
        · intro w hS; try subst hS
          go_simp; try with_reducible rfl
        try simp only [Act.put, List.setIfInBounds_toArray, List.set_cons_zero, List.set_cons_succ]
        refine AnyH.take (i := 9) (d := some 51) (v := ?_) (by kernel_rfl) rfl rfl HF (fun _ _ _ h => h) (.inl ⟨by rfl, ?_⟩) (by first | assumption | rfl) ?_
        rotate_left
        · intro w hS; try subst hS
          go_simp; try with_reducible rfl
        try simp only [Act.put, List.setIfInBounds_toArray, List.set_cons_zero, List.set_cons_succ]
        refine AnyH.take (i := 10) (d := some 52) (v := ?_) (by kernel_rfl) rfl rfl HF (fun _ _ _ h => h) (.inl ⟨by rfl, ?_⟩) (by first | assumption | rfl) ?_
        rotate_left
        · intro w hS; try subst hS
          go_simp; try with_reducible rfl
        try simp only [Act.put, List.setIfInBounds_toArray, List.set_cons_zero, List.set_cons_succ]
        refine AnyH.take (i := 11) (d := some 53) (v := ?_) (by kernel_rfl) rfl rfl HF (fun _ _ _ h => h) (.inl ⟨by rfl, ?_⟩) (by first | assumption | rfl) ?_
        rotate_left
        · intro w hS; try subst hS
          go_simp; try with_reducible rfl
        try simp only [Act.put, List.setIfInBounds_toArray, List.set_cons_zero, List.set_cons_succ]
        refine AnyH.take (i := 13) (d := some 55) (v := ?_) (by kernel_rfl) rfl rfl HF (fun _ _ _ h => h) (.inl ⟨by rfl, ?_⟩) (by first | assumption | rfl) ?_
        rotate_left
        · intro w hS; try subst hS
          go_simp; try with_reducible rfl
        try simp only [Act.put, List.setIfInBounds_toArray, List.set_cons_zero, List.set_cons_succ]
        refine AnyH.take (i := 14) (d := some 56) (v := ?_) (by kernel_rfl) rfl rfl HF (fun _ _ _ h => h) (.inl ⟨by rfl, ?_⟩) (by first | assumption | rfl) ?_
        rotate_left
        · intro w hS; try subst hS
          go_simp; try with_reducible rfl
        try simp only [Act.put, List.setIfInBounds_toArray, List.set_cons_zero, List.set_cons_succ]
        refine AnyH.take (i := 15) (d := some 57) (v := ?_) (by kernel_rfl) rfl rfl HF (fun _ _ _ h => h) (.inl ⟨by rfl, ?_⟩) (by first | assumption | rfl) ?_
        rotate_left
        · intro w hS; try subst hS
          go_simp; try with_reducible rfl
        try simp only [Act.put, List.setIfInBounds_toArray, List.set_cons_zero, List.set_cons_succ]
        refine AnyH.take (i := 16) (d := some 58) (v := ?_) (by kernel_rfl) rfl rfl HF (fun _ _ _ h => h) (.inl ⟨by rfl, ?_⟩) (by first | assumption | rfl) ?_
        rotate_left
        · intro w hS; try subst hS
          go_simp; try with_reducible rfl
        try simp only [Act.put, List.setIfInBounds_toArray, List.set_cons_zero, List.set_cons_succ]
        refine AnyH.take (i := 20) (d := some 62) (v := ?_) (by kernel_rfl) rfl rfl HF (fun _ _ _ h => h) (.inl ⟨by rfl, ?_⟩) (by first | assumption | rfl) ?_
        rotate_left
        · intro w hS; try subst hS
          go_simp; try with_reducible rfl
        try simp only [Act.put, List.setIfInBounds_toArray, List.set_cons_zero, List.set_cons_succ]
        refine AnyH.one (i := 12) (by kernel_rfl) (by kernel_rfl) rfl HF (by rfl) (fun K hK => ?_)
        go_simp
        first | ((with_reducible refine And.intro ?hdep ?_); (case hdep => first | rfl | (intro h; cases h))) | skip
        refine callsIn_wide.2 ((fold_cat ((HR3.out.below B5).pre hkn) HSP.out).mono ?_)
        rintro e w6 ⟨rfl, b6⟩
        have B6 : Below w3.heap.size w3 w6 := Below.step B5 b6
        refine hK _ _ B6 ?_
        clear hK K
        try simp only [Act.put, List.setIfInBounds_toArray, List.set_cons_zero, List.set_cons_succ]
        refine AnyH.one (i := 17) (by kernel_rfl) (by kernel_rfl) rfl HF (by rfl) (fun K hK => ?_)
        go_simp
        first | ((with_reducible refine And.intro ?hdep ?_); (case hdep => first | rfl | (intro h; cases h))) | skip
        refine callsIn_wide.2 ((fold_cat (L := ([] : List ByteArray).drop 0) (RowAt.none _ _ _ _ (by unfold maxLen; omega)) HSQ.out).mono ?_)
        rintro e w7 ⟨rfl, b7⟩
        have B7 : Below w3.heap.size w3 w7 := Below.step B6 b7
        refine hK _ _ B7 ?_
        clear hK K
        try simp only [Act.put, List.setIfInBounds_toArray, List.set_cons_zero, List.set_cons_succ]
        refine AnyH.one (i := 18) (by kernel_rfl) (by kernel_rfl) rfl HF (by rfl) (fun K hK => ?_)
        go_simp
        have B8 : Below w3.heap.size w3 (w7.alloc (.cells #[.string (catB (([] : List ByteArray).take 0)), .string (catB (([] : List ByteArray).drop 0))] 9)) := B7.alloc B7.size _
        refine hK _ _ B8 ?_
        clear hK K
        try simp only [Act.put, List.setIfInBounds_toArray, List.set_cons_zero, List.set_cons_succ]
        refine AnyH.one (i := 19) (by kernel_rfl) (by kernel_rfl) rfl HF (by rfl) (fun K hK => ?_)
        go_simp
        first | ((with_reducible refine And.intro ?hdep ?_); (case hdep => first | rfl | (intro h; cases h))) | skip
        refine callsIn_wide.2 ((fold_cat (L := [catB (([] : List ByteArray).take 0), catB (([] : List ByteArray).drop 0)]) (RowAt.lit (L := [catB (([] : List ByteArray).take 0), catB (([] : List ByteArray).drop 0)]) w7 rfl (show 2 ≤ maxLen by decide)) HSR.out).mono ?_)
        rintro e w9 ⟨rfl, b9⟩
        have B9 : Below w3.heap.size w3 w9 := Below.step B8 b9
        rw [HCC.out]
        refine hK _ _ B9 ?_
        clear hK K
        try simp only [Act.put, List.setIfInBounds_toArray, List.set_cons_zero, List.set_cons_succ]
        refine AnyH.one (i := 21) (by kernel_rfl) (by kernel_rfl) rfl HF (by rfl) (fun K hK => ?_)
        go_simp
        first | ((with_reducible refine And.intro ?hdep ?_); (case hdep => first | rfl | (intro h; cases h))) | skip
        refine callsIn_wide.2 ((text_any (HR3.out.below B9) HSM.out).mono ?_)
        rintro e w10 ⟨rfl, b10⟩
        have B10 : Below w3.heap.size w3 w10 := Below.step B9 b10
        refine hK _ _ B10 ?_
        clear hK K
        try simp only [Act.put, List.setIfInBounds_toArray, List.set_cons_zero, List.set_cons_succ]
        refine AnyH.take (i := 22) (d := some 64) (v := ?_) (by kernel_rfl) rfl rfl HF (fun _ _ _ h => h) (.inl ⟨by rfl, ?_⟩) (by first | assumption | rfl) ?_
        rotate_left
        · intro w hS; try subst hS
          go_simp; try with_reducible rfl
        try simp only [Act.put, List.setIfInBounds_toArray, List.set_cons_zero, List.set_cons_succ]
        refine AnyH.take (i := 23) (d := some 65) (v := ?_) (by kernel_rfl) rfl rfl HF (fun _ _ _ h => h) (.inl ⟨by rfl, ?_⟩) (by first | assumption | rfl) ?_
        rotate_left
        · intro w hS; try subst hS
          go_simp; try with_reducible rfl
        try simp only [Act.put, List.setIfInBounds_toArray, List.set_cons_zero, List.set_cons_succ]
        refine AnyH.take (i := 24) (d := some 4) (v := ?_) (by kernel_rfl) rfl rfl HF (fun _ _ _ h => h) (.inl ⟨by rfl, ?_⟩) (by first | assumption | rfl) ?_
        rotate_left
        · intro w hS; try subst hS
          go_simp; try with_reducible rfl
        try simp only [Act.put, List.setIfInBounds_toArray, List.set_cons_zero, List.set_cons_succ]
        refine AnyH.done (by kernel_rfl) ?_
        go_wp2_with fail
        go_ret
        exact ⟨rfl, Below.step HB3.out B10⟩
  · by_cases hKc : c2 = kk
    · obtain rfl : n = kk := by omega
      obtain rfl : c2 = n := hKc
      have HRR := Lib.hid HR.out
      have HW1 := Lib.hid (wrap_in (x := (c2 : Int) + 1) (by omega) (by omega))
      have hw0 : ¬ ((c2 : Int) + 1 = 0) := by omega
      have hwb : ((c2 : Int) + 1 == 0) = false := by simpa using hw0
      have HT := Lib.hid (show k.tmod ((c2 : Int) + 1) = (c2 : Int) by rw [Int.tmod_eq_emod_of_nonneg hk0]; exact hkk)
      have HW2 := Lib.hid (wrap_in (x := (c2 : Int)) (by omega) (by omega))
      have HW3 := Lib.hid (wrap_in (x := k) (by omega) (by omega))
      clear hkk
      go_wp2_with fail
      have hw1 := HW1.out; have ht := HT.out; have hw2 := HW2.out; have hw3 := HW3.out
      have B0 : Below w2.heap.size w2 w2.drew := (Below.refl _ _).drew
      refine wp_region_anyH (Below w2.heap.size w2) (by kernel_rfl) ?_
      refine AnyH.take (i := 0) (d := some 12) (v := ?_) (by kernel_rfl) rfl rfl HF (fun _ _ _ h => h) (.inl ⟨by rfl, ?_⟩) (by first | assumption | rfl) ?_
      rotate_left
      · intro w hS; try subst hS
        go_simp; try with_reducible rfl
      try simp only [Act.put, List.setIfInBounds_toArray, List.set_cons_zero, List.set_cons_succ]
      refine AnyH.take (i := 1) (d := some 13) (v := ?_) (by kernel_rfl) rfl rfl HF (fun _ _ _ h => h) (.inl ⟨by rfl, ?_⟩) (by first | assumption | rfl) ?_
      rotate_left
      · intro w hS; try subst hS
        go_simp; try with_reducible rfl
      try simp only [Act.put, List.setIfInBounds_toArray, List.set_cons_zero, List.set_cons_succ]
      refine AnyH.take (i := 3) (d := some 15) (v := ?_) (by kernel_rfl) rfl rfl HF (fun _ _ _ h => h) (.inl ⟨by rfl, ?_⟩) (by first | assumption | rfl) ?_
      rotate_left
      · intro w hS; try subst hS
        go_simp; try with_reducible rfl
      try simp only [Act.put, List.setIfInBounds_toArray, List.set_cons_zero, List.set_cons_succ]
      refine AnyH.take (i := 4) (d := some 16) (v := ?_) (by kernel_rfl) rfl rfl HF (fun _ _ _ h => h) (.inl ⟨by rfl, ?_⟩) (by first | assumption | rfl) ?_
      rotate_left
      · intro w hS; try subst hS
        go_simp; try with_reducible rfl
      try simp only [Act.put, List.setIfInBounds_toArray, List.set_cons_zero, List.set_cons_succ]
      refine AnyH.take (i := 5) (d := some 17) (v := ?_) (by kernel_rfl) rfl rfl HF (fun _ _ _ h => h) (.inl ⟨by rfl, ?_⟩) (by first | assumption | rfl) ?_
      rotate_left
      · intro w hS; try subst hS
        go_simp; try with_reducible rfl
      try simp only [Act.put, List.setIfInBounds_toArray, List.set_cons_zero, List.set_cons_succ]
      refine AnyH.take (i := 6) (d := some 18) (v := ?_) (by kernel_rfl) rfl rfl HF (fun _ _ _ h => h) (.inl ⟨by rfl, ?_⟩) (by first | assumption | rfl) ?_
      rotate_left
      · intro w hS; try subst hS
        go_simp; try with_reducible rfl
      try simp only [Act.put, List.setIfInBounds_toArray, List.set_cons_zero, List.set_cons_succ]
      refine AnyH.take (i := 7) (d := some 19) (v := ?_) (by kernel_rfl) rfl rfl HF (fun _ _ _ h => h) (.inl ⟨by rfl, ?_⟩) (by first | assumption | rfl) ?_
      rotate_left
      · intro w hS; try subst hS
        go_simp; try with_reducible rfl
      try simp only [Act.put, List.setIfInBounds_toArray, List.set_cons_zero, List.set_cons_succ]
      refine AnyH.take (i := 8) (d := some 20) (v := ?_) (by kernel_rfl) rfl rfl HF (fun _ _ _ h => h) (.inl ⟨by rfl, ?_⟩) (by first | assumption | rfl) ?_
      rotate_left
      · intro w hS; try subst hS
        go_simp; try with_reducible rfl
      try simp only [Act.put, List.setIfInBounds_toArray, List.set_cons_zero, List.set_cons_succ]
      refine AnyH.one (i := 2) (by kernel_rfl) (by kernel_rfl) rfl HF (by rfl) (fun K hK => ?_)
      go_simp
      first | ((with_reducible refine And.intro ?hdep ?_); (case hdep => first | rfl | (intro h; cases h))) | skip
      refine callsIn_wide.2 ((pref_cat (HRR.out.below B0) (by have := HN.out; omega) (by have := HS2.out; omega)).mono ?_)
      rintro e w3 ⟨A, a3, c3, rfl, hr3, hA, hAi, b3⟩
      have B3 : Below w2.heap.size w2 w3 := Below.step B0 b3
      have HG := Lib.hid hr3; have HA := Lib.hid hA; have HAI := Lib.hid hAi
      clear hr3 hA hAi b3
      refine hK _ _ B3 ?_
      clear hK K
      try simp only [Act.put, List.setIfInBounds_toArray, List.set_cons_zero, List.set_cons_succ]
      refine AnyH.take (i := 9) (d := some 5) (v := ?_) (by kernel_rfl) rfl rfl HF (fun _ _ _ h => h) (.inl ⟨by rfl, ?_⟩) (by first | assumption | rfl) ?_
      rotate_left
      · intro w hS; try subst hS
        go_simp; try with_reducible rfl
      try simp only [Act.put, List.setIfInBounds_toArray, List.set_cons_zero, List.set_cons_succ]
      refine AnyH.take (i := 10) (d := some 6) (v := ?_) (by kernel_rfl) rfl rfl HF (fun _ _ _ h => h) (.inl ⟨by rfl, ?_⟩) (by first | assumption | rfl) ?_
      rotate_left
      · intro w hS; try subst hS
        go_simp; try with_reducible rfl
      try simp only [Act.put, List.setIfInBounds_toArray, List.set_cons_zero, List.set_cons_succ]
      refine AnyH.done (by kernel_rfl) ?_
      clear hw1 ht hw2 hw3 hw0 hwb
      have HB3 := Lib.hid (Below.step HB2.out B3); have HR3 := Lib.hid (HRR.out.below B3)
      have hAn : A.length = c2 + 1 := by rw [HA.out, HN.out]
      have HAN := Lib.hid hAn
      have hq1 : ((A.length : Int) != (c2 : Int) + 1) = false := by rw [hAn]; simp
      clear B0 B3 HRR hAn
      go_wp2_with fail
      clear hq1
      go_loopw [29] (fun c wr => ∃ j : Nat, j ≤ A.length ∧ c = .int .i64 j ∧ Below w3.heap.size w3 wr) (fun c _ => A.length - (intOf c).toNat)
      case atStart => exact ⟨0, by omega, rfl, Below.refl _ _⟩
      case round =>
        obtain ⟨j, hj, rfl, hB⟩ := hrel
        have HBr := Lib.hid hB; clear hB
        have hAn := HAN.out
        by_cases hlt : j < A.length
        · have hl3 : (j : Int) < (A.length : Int) := by omega
          have hl4 : (0 : Int) ≤ (j : Int) := by omega
          have hl5 : (j : Int) ≤ (c2 : Int) := by omega
          have hjn : j ≤ c2 := by omega
          obtain ⟨b3, e3, hb3, m3⟩ := HG.out.at hlt
          simp only [Value.slice.injEq] at hb3
          obtain ⟨rfl, -, rfl⟩ := hb3
          rw [HAI.out j hlt] at m3
          have hsm : lenB (S.take j) ≤ 1000000 := by have := lenB_take S j; have := HS2.out; omega
          have HSM := Lib.hid hsm
          clear hsm hAn
          go_wp2_with fail
          have B0 : Below w3.heap.size w3 wr.drew := HBr.out.drew
          refine wp_region_anyH (Below w3.heap.size w3) (by kernel_rfl) ?_
          refine AnyH.take (i := 0) (d := some 32) (v := ?_) (by kernel_rfl) rfl rfl HF (fun _ _ _ h => h) (.inl ⟨by rfl, ?_⟩) (by first | assumption | rfl) ?_
          rotate_left
          · intro w hS; try subst hS
            go_simp; try with_reducible rfl
          try simp only [Act.put, List.setIfInBounds_toArray, List.set_cons_zero, List.set_cons_succ]
          refine AnyH.take (i := 1) (d := some 33) (v := ?_) (by kernel_rfl) rfl rfl HF (fun _ _ _ h => h) (.inl ⟨by rfl, ?_⟩) (by first | assumption | rfl) ?_
          rotate_left
          · intro w hS; try subst hS
            go_simp; try with_reducible rfl
          try simp only [Act.put, List.setIfInBounds_toArray, List.set_cons_zero, List.set_cons_succ]
          refine AnyH.take (i := 2) (d := some 34) (v := ?_) (by kernel_rfl) rfl rfl HF (fun _ _ _ h => h) (.inl ⟨by rfl, ?_⟩) (by first | assumption | rfl) ?_
          rotate_left
          · intro w hS; try subst hS
            go_simp; try with_reducible rfl
          try simp only [Act.put, List.setIfInBounds_toArray, List.set_cons_zero, List.set_cons_succ]
          refine AnyH.take (i := 3) (d := some 35) (v := ?_) (by kernel_rfl) rfl rfl HF (fun _ _ _ h => h) (.inl ⟨by rfl, ?_⟩) (by first | assumption | rfl) ?_
          rotate_left
          · intro w hS; try subst hS
            go_simp; try with_reducible rfl
          try simp only [Act.put, List.setIfInBounds_toArray, List.set_cons_zero, List.set_cons_succ]
          refine AnyH.take (i := 4) (d := some 36) (v := ?_) (by kernel_rfl) rfl rfl HF (fun _ _ _ h => h) (.inl ⟨by rfl, ?_⟩) (by first | assumption | rfl) ?_
          rotate_left
          · intro w hS; try subst hS
            go_simp; try with_reducible rfl
          try simp only [Act.put, List.setIfInBounds_toArray, List.set_cons_zero, List.set_cons_succ]
          refine AnyH.take (i := 5) (d := some 37) (v := ?_) (by kernel_rfl) rfl rfl HF (fun _ _ _ h => h) (.inl ⟨by rfl, ?_⟩) (by first | assumption | rfl) ?_
          rotate_left
          · intro w hS; try subst hS
            go_simp; try with_reducible rfl
          try simp only [Act.put, List.setIfInBounds_toArray, List.set_cons_zero, List.set_cons_succ]
          refine AnyH.take (i := 6) (d := some 38) (v := ?_) (by kernel_rfl) rfl rfl HF (fun _ _ _ h => h) (.inl ⟨by rfl, ?_⟩) (by first | assumption | rfl) ?_
          rotate_left
          · intro w hS; try subst hS
            go_simp; try with_reducible rfl
          try simp only [Act.put, List.setIfInBounds_toArray, List.set_cons_zero, List.set_cons_succ]
          refine AnyH.one (i := 7) (by kernel_rfl) (by kernel_rfl) rfl HF (by rfl) (fun K hK => ?_)
          go_simp
          first | ((with_reducible refine And.intro ?hdep ?_); (case hdep => first | rfl | (intro h; cases h))) | skip
          refine callsIn_wide.2 ((text_any ((HR3.out.below B0).pre hjn) HSM.out).mono ?_)
          rintro e w4 ⟨rfl, b4⟩
          have B4 : Below w3.heap.size w3 w4 := Below.step B0 b4
          refine hK _ _ B4 ?_
          clear hK K
          try simp only [Act.put, List.setIfInBounds_toArray, List.set_cons_zero, List.set_cons_succ]
          refine AnyH.take (i := 8) (d := some 40) (v := ?_) (by kernel_rfl) rfl rfl HF (fun _ _ _ h => h) (.inl ⟨by rfl, ?_⟩) (by first | assumption | rfl) ?_
          rotate_left
          · intro w hS; try subst hS
            go_simp; try with_reducible rfl
          try simp only [Act.put, List.setIfInBounds_toArray, List.set_cons_zero, List.set_cons_succ]
          refine AnyH.done (by kernel_rfl) ?_
          go_wp2_with fail
          go_roundw
          case rel => exact ⟨j + 1, by omega, by go_num, B4⟩
          case measure => simp [intOf]; omega
        · obtain rfl : j = A.length := by omega
          have hl1 : (c2 : Int) ≤ (c2 : Int) := by omega
          have hl2 : (0 : Int) ≤ (c2 : Int) := by omega
          have hl3 : (c2 : Int) ≤ (c2 : Int) := by omega
          have HSM := Lib.hid (show lenB S ≤ 1000000 by have := HS2.out; omega)
          have HSP := Lib.hid (show lenB (S.take c2) ≤ 1000000 by have := lenB_take S c2; have := HS2.out; omega)
          have HSQ := Lib.hid (show lenB (S.drop c2) ≤ 1000000 by have h := lenB_drop S c2 S.length; rw [List.take_of_length_le (by rw [List.length_drop]; omega)] at h; have := HS2.out; omega)
          have HSR := Lib.hid (show lenB [catB (S.take c2), catB (S.drop c2)] ≤ 1000000 by
            have h1 := HSP.out; have h2 := HSQ.out
            have h3 := catB_size (S.take c2); have h4 := catB_size (S.drop c2)
            have e1 := lenB_take S c2
            have e2 : lenB (S.drop c2) ≤ lenB S := by have h := lenB_drop S c2 S.length; rwa [List.take_of_length_le (by rw [List.length_drop]; omega)] at h
            have e3 := HS2.out
            simp only [lenB, List.map_cons, List.map_nil, List.sum_cons, List.sum_nil] at *
            omega)
          have HCC : Hid (catB [catB (S.take c2), catB (S.drop c2)] = catB S) := Lib.hid (by rw [catB_append, List.take_append_drop])
          obtain ⟨wo, rfl⟩ : ∃ wo : World, wo = wr := ⟨_, rfl⟩
          clear hAn
          go_wp2_with fail
          have B0 : Below w3.heap.size w3 wo.drew := HBr.out.drew
          refine wp_region_anyH (Below w3.heap.size w3) (by kernel_rfl) ?_
          refine AnyH.take (i := 0) (d := some 42) (v := ?_) (by kernel_rfl) rfl rfl HF (fun _ _ _ h => h) (.inl ⟨by rfl, ?_⟩) (by first | assumption | rfl) ?_
          rotate_left
          · intro w hS; try subst hS
            go_simp; try with_reducible rfl
          try simp only [Act.put, List.setIfInBounds_toArray, List.set_cons_zero, List.set_cons_succ]
          refine AnyH.take (i := 1) (d := some 43) (v := ?_) (by kernel_rfl) rfl rfl HF (fun _ _ _ h => h) (.inl ⟨by rfl, ?_⟩) (by first | assumption | rfl) ?_
          rotate_left
          · intro w hS; try subst hS
            go_simp; try with_reducible rfl
          try simp only [Act.put, List.setIfInBounds_toArray, List.set_cons_zero, List.set_cons_succ]
          refine AnyH.take (i := 3) (d := some 45) (v := ?_) (by kernel_rfl) rfl rfl HF (fun _ _ _ h => h) (.inl ⟨by rfl, ?_⟩) (by first | assumption | rfl) ?_
          rotate_left
          · intro w hS; try subst hS
            go_simp; try with_reducible rfl
          try simp only [Act.put, List.setIfInBounds_toArray, List.set_cons_zero, List.set_cons_succ]
          refine AnyH.one (i := 2) (by kernel_rfl) (by kernel_rfl) rfl HF (by rfl) (fun K hK => ?_)
          go_simp
          first | ((with_reducible refine And.intro ?hdep ?_); (case hdep => first | rfl | (intro h; cases h))) | skip
          refine callsIn_wide.2 ((fold_cat (HR3.out.below B0) HSM.out).mono ?_)
          rintro e w4 ⟨rfl, b4⟩
          have B4 : Below w3.heap.size w3 w4 := Below.step B0 b4
          refine hK _ _ B4 ?_
          clear hK K
          try simp only [Act.put, List.setIfInBounds_toArray, List.set_cons_zero, List.set_cons_succ]
          refine AnyH.one (i := 4) (by kernel_rfl) (by kernel_rfl) rfl HF (by rfl) (fun K hK => ?_)
          go_simp
          first | ((with_reducible refine And.intro ?hdep ?_); (case hdep => first | rfl | (intro h; cases h))) | skip
          refine callsIn_wide.2 ((text_any (HR3.out.below B4) HSM.out).mono ?_)
          rintro e w5 ⟨rfl, b5⟩
          have B5 : Below w3.heap.size w3 w5 := Below.step B4 b5
          refine hK _ _ B5 ?_
          clear hK K
          try simp only [Act.put, List.setIfInBounds_toArray, List.set_cons_zero, List.set_cons_succ]
          refine AnyH.take (i := 5) (d := some 47) (v := ?_) (by kernel_rfl) rfl rfl HF (fun _ _ _ h => h) (.inl ⟨by rfl, ?_⟩) (by first | assumption | rfl) ?_
          rotate_left
          · intro w hS; try subst hS
            go_simp; try with_reducible rfl
          try simp only [Act.put, List.setIfInBounds_toArray, List.set_cons_zero, List.set_cons_succ]
          refine AnyH.take (i := 6) (d := some 48) (v := ?_) (by kernel_rfl) rfl rfl HF (fun _ _ _ h => h) (.inl ⟨by rfl, ?_⟩) (by first | assumption | rfl) ?_
          rotate_left
          · intro w hS; try subst hS
            go_simp; try with_reducible rfl
          try simp only [Act.put, List.setIfInBounds_toArray, List.set_cons_zero, List.set_cons_succ]
          refine AnyH.take (i := 7) (d := some 49) (v := ?_) (by kernel_rfl) rfl rfl HF (fun _ _ _ h => h) (.inl ⟨by rfl, ?_⟩) (by first | assumption | rfl) ?_
          rotate_left
          · intro w hS; try subst hS
            go_simp; try with_reducible rfl
          try simp only [Act.put, List.setIfInBounds_toArray, List.set_cons_zero, List.set_cons_succ]
          refine AnyH.take (i := 8) (d := some 50) (v := ?_) (by kernel_rfl) rfl rfl HF (fun _ _ _ h => h) (.inl ⟨by rfl, ?_⟩) (by first | assumption | rfl) ?_
          rotate_left
          · intro w hS; try subst hS
            go_simp; try with_reducible rfl
          try simp only [Act.put, List.setIfInBounds_toArray, List.set_cons_zero, List.set_cons_succ]
          refine AnyH.take (i := 9) (d := some 51) (v := ?_) (by kernel_rfl) rfl rfl HF (fun _ _ _ h => h) (.inl ⟨by rfl, ?_⟩) (by first | assumption | rfl) ?_
          rotate_left
          · intro w hS; try subst hS
            go_simp; try with_reducible rfl
          try simp only [Act.put, List.setIfInBounds_toArray, List.set_cons_zero, List.set_cons_succ]
          refine AnyH.take (i := 10) (d := some 52) (v := ?_) (by kernel_rfl) rfl rfl HF (fun _ _ _ h => h) (.inl ⟨by rfl, ?_⟩) (by first | assumption | rfl) ?_
          rotate_left
          · intro w hS; try subst hS
            go_simp; try with_reducible rfl
          try simp only [Act.put, List.setIfInBounds_toArray, List.set_cons_zero, List.set_cons_succ]
          refine AnyH.take (i := 11) (d := some 53) (v := ?_) (by kernel_rfl) rfl rfl HF (fun _ _ _ h => h) (.inl ⟨by rfl, ?_⟩) (by first | assumption | rfl) ?_
          rotate_left
          · intro w hS; try subst hS
            go_simp; try with_reducible rfl
          try simp only [Act.put, List.setIfInBounds_toArray, List.set_cons_zero, List.set_cons_succ]
          refine AnyH.take (i := 13) (d := some 55) (v := ?_) (by kernel_rfl) rfl rfl HF (fun _ _ _ h => h) (.inl ⟨by rfl, ?_⟩) (by first | assumption | rfl) ?_
          rotate_left
          · intro w hS; try subst hS
            go_simp; try with_reducible rfl
          try simp only [Act.put, List.setIfInBounds_toArray, List.set_cons_zero, List.set_cons_succ]
          refine AnyH.take (i := 14) (d := some 56) (v := ?_) (by kernel_rfl) rfl rfl HF (fun _ _ _ h => h) (.inl ⟨by rfl, ?_⟩) (by first | assumption | rfl) ?_
          rotate_left
          · intro w hS; try subst hS
            go_simp; try with_reducible rfl
          try simp only [Act.put, List.setIfInBounds_toArray, List.set_cons_zero, List.set_cons_succ]
          refine AnyH.take (i := 15) (d := some 57) (v := ?_) (by kernel_rfl) rfl rfl HF (fun _ _ _ h => h) (.inl ⟨by rfl, ?_⟩) (by first | assumption | rfl) ?_
          rotate_left
          · intro w hS; try subst hS
            go_simp; try with_reducible rfl
          try simp only [Act.put, List.setIfInBounds_toArray, List.set_cons_zero, List.set_cons_succ]
          refine AnyH.take (i := 16) (d := some 58) (v := ?_) (by kernel_rfl) rfl rfl HF (fun _ _ _ h => h) (.inl ⟨by rfl, ?_⟩) (by first | assumption | rfl) ?_
          rotate_left
          · intro w hS; try subst hS
            go_simp; try with_reducible rfl
          try simp only [Act.put, List.setIfInBounds_toArray, List.set_cons_zero, List.set_cons_succ]
          refine AnyH.take (i := 20) (d := some 62) (v := ?_) (by kernel_rfl) rfl rfl HF (fun _ _ _ h => h) (.inl ⟨by rfl, ?_⟩) (by first | assumption | rfl) ?_
          rotate_left
          · intro w hS; try subst hS
            go_simp; try with_reducible rfl
          try simp only [Act.put, List.setIfInBounds_toArray, List.set_cons_zero, List.set_cons_succ]
          refine AnyH.one (i := 12) (by kernel_rfl) (by kernel_rfl) rfl HF (by rfl) (fun K hK => ?_)
          go_simp
          first | ((with_reducible refine And.intro ?hdep ?_); (case hdep => first | rfl | (intro h; cases h))) | skip
          refine callsIn_wide.2 ((fold_cat ((HR3.out.below B5).pre hkn) HSP.out).mono ?_)
          rintro e w6 ⟨rfl, b6⟩
          have B6 : Below w3.heap.size w3 w6 := Below.step B5 b6
          refine hK _ _ B6 ?_
          clear hK K
          try simp only [Act.put, List.setIfInBounds_toArray, List.set_cons_zero, List.set_cons_succ]
          refine AnyH.one (i := 17) (by kernel_rfl) (by kernel_rfl) rfl HF (by rfl) (fun K hK => ?_)
          go_simp
          first | ((with_reducible refine And.intro ?hdep ?_); (case hdep => first | rfl | (intro h; cases h))) | skip
          refine callsIn_wide.2 ((fold_cat (L := S.drop c2) (by rw [List.drop_of_length_le (by have := HN.out; omega)]; exact RowAt.none _ _ _ _ (by unfold maxLen; omega)) HSQ.out).mono ?_)
          rintro e w7 ⟨rfl, b7⟩
          have B7 : Below w3.heap.size w3 w7 := Below.step B6 b7
          refine hK _ _ B7 ?_
          clear hK K
          try simp only [Act.put, List.setIfInBounds_toArray, List.set_cons_zero, List.set_cons_succ]
          refine AnyH.one (i := 18) (by kernel_rfl) (by kernel_rfl) rfl HF (by rfl) (fun K hK => ?_)
          go_simp
          have B8 : Below w3.heap.size w3 (w7.alloc (.cells #[.string (catB (S.take c2)), .string (catB (S.drop c2))] 9)) := B7.alloc B7.size _
          refine hK _ _ B8 ?_
          clear hK K
          try simp only [Act.put, List.setIfInBounds_toArray, List.set_cons_zero, List.set_cons_succ]
          refine AnyH.one (i := 19) (by kernel_rfl) (by kernel_rfl) rfl HF (by rfl) (fun K hK => ?_)
          go_simp
          first | ((with_reducible refine And.intro ?hdep ?_); (case hdep => first | rfl | (intro h; cases h))) | skip
          refine callsIn_wide.2 ((fold_cat (L := [catB (S.take c2), catB (S.drop c2)]) (RowAt.lit (L := [catB (S.take c2), catB (S.drop c2)]) w7 rfl (show 2 ≤ maxLen by decide)) HSR.out).mono ?_)
          rintro e w9 ⟨rfl, b9⟩
          have B9 : Below w3.heap.size w3 w9 := Below.step B8 b9
          rw [HCC.out]
          refine hK _ _ B9 ?_
          clear hK K
          try simp only [Act.put, List.setIfInBounds_toArray, List.set_cons_zero, List.set_cons_succ]
          refine AnyH.one (i := 21) (by kernel_rfl) (by kernel_rfl) rfl HF (by rfl) (fun K hK => ?_)
          go_simp
          first | ((with_reducible refine And.intro ?hdep ?_); (case hdep => first | rfl | (intro h; cases h))) | skip
          refine callsIn_wide.2 ((text_any (HR3.out.below B9) HSM.out).mono ?_)
          rintro e w10 ⟨rfl, b10⟩
          have B10 : Below w3.heap.size w3 w10 := Below.step B9 b10
          refine hK _ _ B10 ?_
          clear hK K
          try simp only [Act.put, List.setIfInBounds_toArray, List.set_cons_zero, List.set_cons_succ]
          refine AnyH.take (i := 22) (d := some 64) (v := ?_) (by kernel_rfl) rfl rfl HF (fun _ _ _ h => h) (.inl ⟨by rfl, ?_⟩) (by first | assumption | rfl) ?_
          rotate_left
          · intro w hS; try subst hS
            go_simp; try with_reducible rfl
          try simp only [Act.put, List.setIfInBounds_toArray, List.set_cons_zero, List.set_cons_succ]
          refine AnyH.take (i := 23) (d := some 65) (v := ?_) (by kernel_rfl) rfl rfl HF (fun _ _ _ h => h) (.inl ⟨by rfl, ?_⟩) (by first | assumption | rfl) ?_
          rotate_left
          · intro w hS; try subst hS
            go_simp; try with_reducible rfl
          try simp only [Act.put, List.setIfInBounds_toArray, List.set_cons_zero, List.set_cons_succ]
          refine AnyH.take (i := 24) (d := some 4) (v := ?_) (by kernel_rfl) rfl rfl HF (fun _ _ _ h => h) (.inl ⟨by rfl, ?_⟩) (by first | assumption | rfl) ?_
          rotate_left
          · intro w hS; try subst hS
            go_simp; try with_reducible rfl
          try simp only [Act.put, List.setIfInBounds_toArray, List.set_cons_zero, List.set_cons_succ]
          refine AnyH.done (by kernel_rfl) ?_
          go_wp2_with fail
          go_ret
          exact ⟨rfl, Below.step HB3.out B10⟩
    · have hKi : ¬ (c2 : Int) = (kk : Int) := by omega
      have HRR := Lib.hid HR.out
      have HW1 := Lib.hid (wrap_in (x := (n : Int) + 1) (by omega) (by omega))
      have hw0 : ¬ ((n : Int) + 1 = 0) := by omega
      have hwb : ((n : Int) + 1 == 0) = false := by simpa using hw0
      have HT := Lib.hid (show k.tmod ((n : Int) + 1) = (kk : Int) by rw [Int.tmod_eq_emod_of_nonneg hk0]; exact hkk)
      have HW2 := Lib.hid (wrap_in (x := (kk : Int)) (by omega) (by omega))
      have HW3 := Lib.hid (wrap_in (x := k) (by omega) (by omega))
      clear hkk
      go_wp2_with fail
      have hw1 := HW1.out; have ht := HT.out; have hw2 := HW2.out; have hw3 := HW3.out
      have B0 : Below w2.heap.size w2 w2.drew := (Below.refl _ _).drew
      refine wp_region_anyH (Below w2.heap.size w2) (by kernel_rfl) ?_
      refine AnyH.take (i := 0) (d := some 12) (v := ?_) (by kernel_rfl) rfl rfl HF (fun _ _ _ h => h) (.inl ⟨by rfl, ?_⟩) (by first | assumption | rfl) ?_
      rotate_left
      · intro w hS; try subst hS
        go_simp; try with_reducible rfl
      try simp only [Act.put, List.setIfInBounds_toArray, List.set_cons_zero, List.set_cons_succ]
      refine AnyH.take (i := 1) (d := some 13) (v := ?_) (by kernel_rfl) rfl rfl HF (fun _ _ _ h => h) (.inl ⟨by rfl, ?_⟩) (by first | assumption | rfl) ?_
      rotate_left
      · intro w hS; try subst hS
        go_simp; try with_reducible rfl
      try simp only [Act.put, List.setIfInBounds_toArray, List.set_cons_zero, List.set_cons_succ]
      refine AnyH.take (i := 3) (d := some 15) (v := ?_) (by kernel_rfl) rfl rfl HF (fun _ _ _ h => h) (.inl ⟨by rfl, ?_⟩) (by first | assumption | rfl) ?_
      rotate_left
      · intro w hS; try subst hS
        go_simp; try with_reducible rfl
      try simp only [Act.put, List.setIfInBounds_toArray, List.set_cons_zero, List.set_cons_succ]
      refine AnyH.take (i := 4) (d := some 16) (v := ?_) (by kernel_rfl) rfl rfl HF (fun _ _ _ h => h) (.inl ⟨by rfl, ?_⟩) (by first | assumption | rfl) ?_
      rotate_left
      · intro w hS; try subst hS
        go_simp; try with_reducible rfl
      try simp only [Act.put, List.setIfInBounds_toArray, List.set_cons_zero, List.set_cons_succ]
      refine AnyH.take (i := 5) (d := some 17) (v := ?_) (by kernel_rfl) rfl rfl HF (fun _ _ _ h => h) (.inl ⟨by rfl, ?_⟩) (by first | assumption | rfl) ?_
      rotate_left
      · intro w hS; try subst hS
        go_simp; try with_reducible rfl
      try simp only [Act.put, List.setIfInBounds_toArray, List.set_cons_zero, List.set_cons_succ]
      refine AnyH.take (i := 6) (d := some 18) (v := ?_) (by kernel_rfl) rfl rfl HF (fun _ _ _ h => h) (.inl ⟨by rfl, ?_⟩) (by first | assumption | rfl) ?_
      rotate_left
      · intro w hS; try subst hS
        go_simp; try with_reducible rfl
      try simp only [Act.put, List.setIfInBounds_toArray, List.set_cons_zero, List.set_cons_succ]
      refine AnyH.take (i := 7) (d := some 19) (v := ?_) (by kernel_rfl) rfl rfl HF (fun _ _ _ h => h) (.inl ⟨by rfl, ?_⟩) (by first | assumption | rfl) ?_
      rotate_left
      · intro w hS; try subst hS
        go_simp; try with_reducible rfl
      try simp only [Act.put, List.setIfInBounds_toArray, List.set_cons_zero, List.set_cons_succ]
      refine AnyH.take (i := 8) (d := some 20) (v := ?_) (by kernel_rfl) rfl rfl HF (fun _ _ _ h => h) (.inl ⟨by rfl, ?_⟩) (by first | assumption | rfl) ?_
      rotate_left
      · intro w hS; try subst hS
        go_simp; try with_reducible rfl
      try simp only [Act.put, List.setIfInBounds_toArray, List.set_cons_zero, List.set_cons_succ]
      refine AnyH.one (i := 2) (by kernel_rfl) (by kernel_rfl) rfl HF (by rfl) (fun K hK => ?_)
      go_simp
      first | ((with_reducible refine And.intro ?hdep ?_); (case hdep => first | rfl | (intro h; cases h))) | skip
      refine callsIn_wide.2 ((pref_cat (HRR.out.below B0) (by have := HN.out; omega) (by have := HS2.out; omega)).mono ?_)
      rintro e w3 ⟨A, a3, c3, rfl, hr3, hA, hAi, b3⟩
      have B3 : Below w2.heap.size w2 w3 := Below.step B0 b3
      have HG := Lib.hid hr3; have HA := Lib.hid hA; have HAI := Lib.hid hAi
      clear hr3 hA hAi b3
      refine hK _ _ B3 ?_
      clear hK K
      try simp only [Act.put, List.setIfInBounds_toArray, List.set_cons_zero, List.set_cons_succ]
      refine AnyH.take (i := 9) (d := some 5) (v := ?_) (by kernel_rfl) rfl rfl HF (fun _ _ _ h => h) (.inl ⟨by rfl, ?_⟩) (by first | assumption | rfl) ?_
      rotate_left
      · intro w hS; try subst hS
        go_simp; try with_reducible rfl
      try simp only [Act.put, List.setIfInBounds_toArray, List.set_cons_zero, List.set_cons_succ]
      refine AnyH.take (i := 10) (d := some 6) (v := ?_) (by kernel_rfl) rfl rfl HF (fun _ _ _ h => h) (.inl ⟨by rfl, ?_⟩) (by first | assumption | rfl) ?_
      rotate_left
      · intro w hS; try subst hS
        go_simp; try with_reducible rfl
      try simp only [Act.put, List.setIfInBounds_toArray, List.set_cons_zero, List.set_cons_succ]
      refine AnyH.done (by kernel_rfl) ?_
      clear hw1 ht hw2 hw3 hw0 hwb
      have HB3 := Lib.hid (Below.step HB2.out B3); have HR3 := Lib.hid (HRR.out.below B3)
      have hAn : A.length = n + 1 := by rw [HA.out, HN.out]
      have HAN := Lib.hid hAn
      have hq1 : ((A.length : Int) != (n : Int) + 1) = false := by rw [hAn]; simp
      clear B0 B3 HRR hAn
      go_wp2_with fail
      clear hq1
      go_loopw [29] (fun c wr => ∃ j : Nat, j ≤ A.length ∧ c = .int .i64 j ∧ Below w3.heap.size w3 wr) (fun c _ => A.length - (intOf c).toNat)
      case atStart => exact ⟨0, by omega, rfl, Below.refl _ _⟩
      case round =>
        obtain ⟨j, hj, rfl, hB⟩ := hrel
        have HBr := Lib.hid hB; clear hB
        have hAn := HAN.out
        by_cases hlt : j < A.length
        · have hl3 : (j : Int) < (A.length : Int) := by omega
          have hl4 : (0 : Int) ≤ (j : Int) := by omega
          have hl5 : (j : Int) ≤ (c2 : Int) := by omega
          have hjn : j ≤ n := by omega
          obtain ⟨b3, e3, hb3, m3⟩ := HG.out.at hlt
          simp only [Value.slice.injEq] at hb3
          obtain ⟨rfl, -, rfl⟩ := hb3
          rw [HAI.out j hlt] at m3
          have hsm : lenB (S.take j) ≤ 1000000 := by have := lenB_take S j; have := HS2.out; omega
          have HSM := Lib.hid hsm
          clear hsm hAn
          go_wp2_with fail
          have B0 : Below w3.heap.size w3 wr.drew := HBr.out.drew
          refine wp_region_anyH (Below w3.heap.size w3) (by kernel_rfl) ?_
          refine AnyH.take (i := 0) (d := some 32) (v := ?_) (by kernel_rfl) rfl rfl HF (fun _ _ _ h => h) (.inl ⟨by rfl, ?_⟩) (by first | assumption | rfl) ?_
          rotate_left
          · intro w hS; try subst hS
            go_simp; try with_reducible rfl
          try simp only [Act.put, List.setIfInBounds_toArray, List.set_cons_zero, List.set_cons_succ]
          refine AnyH.take (i := 1) (d := some 33) (v := ?_) (by kernel_rfl) rfl rfl HF (fun _ _ _ h => h) (.inl ⟨by rfl, ?_⟩) (by first | assumption | rfl) ?_
          rotate_left
          · intro w hS; try subst hS
            go_simp; try with_reducible rfl
          try simp only [Act.put, List.setIfInBounds_toArray, List.set_cons_zero, List.set_cons_succ]
          refine AnyH.take (i := 2) (d := some 34) (v := ?_) (by kernel_rfl) rfl rfl HF (fun _ _ _ h => h) (.inl ⟨by rfl, ?_⟩) (by first | assumption | rfl) ?_
          rotate_left
          · intro w hS; try subst hS
            go_simp; try with_reducible rfl
          try simp only [Act.put, List.setIfInBounds_toArray, List.set_cons_zero, List.set_cons_succ]
          refine AnyH.take (i := 3) (d := some 35) (v := ?_) (by kernel_rfl) rfl rfl HF (fun _ _ _ h => h) (.inl ⟨by rfl, ?_⟩) (by first | assumption | rfl) ?_
          rotate_left
          · intro w hS; try subst hS
            go_simp; try with_reducible rfl
          try simp only [Act.put, List.setIfInBounds_toArray, List.set_cons_zero, List.set_cons_succ]
          refine AnyH.take (i := 4) (d := some 36) (v := ?_) (by kernel_rfl) rfl rfl HF (fun _ _ _ h => h) (.inl ⟨by rfl, ?_⟩) (by first | assumption | rfl) ?_
          rotate_left
          · intro w hS; try subst hS
            go_simp; try with_reducible rfl
          try simp only [Act.put, List.setIfInBounds_toArray, List.set_cons_zero, List.set_cons_succ]
          refine AnyH.take (i := 5) (d := some 37) (v := ?_) (by kernel_rfl) rfl rfl HF (fun _ _ _ h => h) (.inl ⟨by rfl, ?_⟩) (by first | assumption | rfl) ?_
          rotate_left
          · intro w hS; try subst hS
            go_simp; try with_reducible rfl
          try simp only [Act.put, List.setIfInBounds_toArray, List.set_cons_zero, List.set_cons_succ]
          refine AnyH.take (i := 6) (d := some 38) (v := ?_) (by kernel_rfl) rfl rfl HF (fun _ _ _ h => h) (.inl ⟨by rfl, ?_⟩) (by first | assumption | rfl) ?_
          rotate_left
          · intro w hS; try subst hS
            go_simp; try with_reducible rfl
          try simp only [Act.put, List.setIfInBounds_toArray, List.set_cons_zero, List.set_cons_succ]
          refine AnyH.one (i := 7) (by kernel_rfl) (by kernel_rfl) rfl HF (by rfl) (fun K hK => ?_)
          go_simp
          first | ((with_reducible refine And.intro ?hdep ?_); (case hdep => first | rfl | (intro h; cases h))) | skip
          refine callsIn_wide.2 ((text_any ((HR3.out.below B0).pre hjn) HSM.out).mono ?_)
          rintro e w4 ⟨rfl, b4⟩
          have B4 : Below w3.heap.size w3 w4 := Below.step B0 b4
          refine hK _ _ B4 ?_
          clear hK K
          try simp only [Act.put, List.setIfInBounds_toArray, List.set_cons_zero, List.set_cons_succ]
          refine AnyH.take (i := 8) (d := some 40) (v := ?_) (by kernel_rfl) rfl rfl HF (fun _ _ _ h => h) (.inl ⟨by rfl, ?_⟩) (by first | assumption | rfl) ?_
          rotate_left
          · intro w hS; try subst hS
            go_simp; try with_reducible rfl
          try simp only [Act.put, List.setIfInBounds_toArray, List.set_cons_zero, List.set_cons_succ]
          refine AnyH.done (by kernel_rfl) ?_
          go_wp2_with fail
          go_roundw
          case rel => exact ⟨j + 1, by omega, by go_num, B4⟩
          case measure => simp [intOf]; omega
        · obtain rfl : j = A.length := by omega
          have hl1 : (kk : Int) ≤ (c2 : Int) := by omega
          have hl2 : (0 : Int) ≤ (kk : Int) := by omega
          have hl3 : (kk : Int) ≤ (n : Int) := by omega
          have HSM := Lib.hid (show lenB S ≤ 1000000 by have := HS2.out; omega)
          have HSP := Lib.hid (show lenB (S.take kk) ≤ 1000000 by have := lenB_take S kk; have := HS2.out; omega)
          have HSQ := Lib.hid (show lenB (S.drop kk) ≤ 1000000 by have h := lenB_drop S kk S.length; rw [List.take_of_length_le (by rw [List.length_drop]; omega)] at h; have := HS2.out; omega)
          have HSR := Lib.hid (show lenB [catB (S.take kk), catB (S.drop kk)] ≤ 1000000 by
            have h1 := HSP.out; have h2 := HSQ.out
            have h3 := catB_size (S.take kk); have h4 := catB_size (S.drop kk)
            have e1 := lenB_take S kk
            have e2 : lenB (S.drop kk) ≤ lenB S := by have h := lenB_drop S kk S.length; rwa [List.take_of_length_le (by rw [List.length_drop]; omega)] at h
            have e3 := HS2.out
            simp only [lenB, List.map_cons, List.map_nil, List.sum_cons, List.sum_nil] at *
            omega)
          have HCC : Hid (catB [catB (S.take kk), catB (S.drop kk)] = catB S) := Lib.hid (by rw [catB_append, List.take_append_drop])
          obtain ⟨wo, rfl⟩ : ∃ wo : World, wo = wr := ⟨_, rfl⟩
          clear hAn
          go_wp2_with fail
          have B0 : Below w3.heap.size w3 wo.drew := HBr.out.drew
          refine wp_region_anyH (Below w3.heap.size w3) (by kernel_rfl) ?_
          refine AnyH.take (i := 0) (d := some 42) (v := ?_) (by kernel_rfl) rfl rfl HF (fun _ _ _ h => h) (.inl ⟨by rfl, ?_⟩) (by first | assumption | rfl) ?_
          rotate_left
          · intro w hS; try subst hS
            go_simp; try with_reducible rfl
          try simp only [Act.put, List.setIfInBounds_toArray, List.set_cons_zero, List.set_cons_succ]
          refine AnyH.take (i := 1) (d := some 43) (v := ?_) (by kernel_rfl) rfl rfl HF (fun _ _ _ h => h) (.inl ⟨by rfl, ?_⟩) (by first | assumption | rfl) ?_
          rotate_left
          · intro w hS; try subst hS
            go_simp; try with_reducible rfl
          try simp only [Act.put, List.setIfInBounds_toArray, List.set_cons_zero, List.set_cons_succ]
          refine AnyH.take (i := 3) (d := some 45) (v := ?_) (by kernel_rfl) rfl rfl HF (fun _ _ _ h => h) (.inl ⟨by rfl, ?_⟩) (by first | assumption | rfl) ?_
          rotate_left
          · intro w hS; try subst hS
            go_simp; try with_reducible rfl
          try simp only [Act.put, List.setIfInBounds_toArray, List.set_cons_zero, List.set_cons_succ]
          refine AnyH.one (i := 2) (by kernel_rfl) (by kernel_rfl) rfl HF (by rfl) (fun K hK => ?_)
          go_simp
          first | ((with_reducible refine And.intro ?hdep ?_); (case hdep => first | rfl | (intro h; cases h))) | skip
          refine callsIn_wide.2 ((fold_cat (HR3.out.below B0) HSM.out).mono ?_)
          rintro e w4 ⟨rfl, b4⟩
          have B4 : Below w3.heap.size w3 w4 := Below.step B0 b4
          refine hK _ _ B4 ?_
          clear hK K
          try simp only [Act.put, List.setIfInBounds_toArray, List.set_cons_zero, List.set_cons_succ]
          refine AnyH.one (i := 4) (by kernel_rfl) (by kernel_rfl) rfl HF (by rfl) (fun K hK => ?_)
          go_simp
          first | ((with_reducible refine And.intro ?hdep ?_); (case hdep => first | rfl | (intro h; cases h))) | skip
          refine callsIn_wide.2 ((text_any (HR3.out.below B4) HSM.out).mono ?_)
          rintro e w5 ⟨rfl, b5⟩
          have B5 : Below w3.heap.size w3 w5 := Below.step B4 b5
          refine hK _ _ B5 ?_
          clear hK K
          try simp only [Act.put, List.setIfInBounds_toArray, List.set_cons_zero, List.set_cons_succ]
          refine AnyH.take (i := 5) (d := some 47) (v := ?_) (by kernel_rfl) rfl rfl HF (fun _ _ _ h => h) (.inl ⟨by rfl, ?_⟩) (by first | assumption | rfl) ?_
          rotate_left
          · intro w hS; try subst hS
            go_simp; try with_reducible rfl
          try simp only [Act.put, List.setIfInBounds_toArray, List.set_cons_zero, List.set_cons_succ]
          refine AnyH.take (i := 6) (d := some 48) (v := ?_) (by kernel_rfl) rfl rfl HF (fun _ _ _ h => h) (.inl ⟨by rfl, ?_⟩) (by first | assumption | rfl) ?_
          rotate_left
          · intro w hS; try subst hS
            go_simp; try with_reducible rfl
          try simp only [Act.put, List.setIfInBounds_toArray, List.set_cons_zero, List.set_cons_succ]
          refine AnyH.take (i := 7) (d := some 49) (v := ?_) (by kernel_rfl) rfl rfl HF (fun _ _ _ h => h) (.inl ⟨by rfl, ?_⟩) (by first | assumption | rfl) ?_
          rotate_left
          · intro w hS; try subst hS
            go_simp; try with_reducible rfl
          try simp only [Act.put, List.setIfInBounds_toArray, List.set_cons_zero, List.set_cons_succ]
          refine AnyH.take (i := 8) (d := some 50) (v := ?_) (by kernel_rfl) rfl rfl HF (fun _ _ _ h => h) (.inl ⟨by rfl, ?_⟩) (by first | assumption | rfl) ?_
          rotate_left
          · intro w hS; try subst hS
            go_simp; try with_reducible rfl
          try simp only [Act.put, List.setIfInBounds_toArray, List.set_cons_zero, List.set_cons_succ]
          refine AnyH.take (i := 9) (d := some 51) (v := ?_) (by kernel_rfl) rfl rfl HF (fun _ _ _ h => h) (.inl ⟨by rfl, ?_⟩) (by first | assumption | rfl) ?_
          rotate_left
          · intro w hS; try subst hS
            go_simp; try with_reducible rfl
          try simp only [Act.put, List.setIfInBounds_toArray, List.set_cons_zero, List.set_cons_succ]
          refine AnyH.take (i := 10) (d := some 52) (v := ?_) (by kernel_rfl) rfl rfl HF (fun _ _ _ h => h) (.inl ⟨by rfl, ?_⟩) (by first | assumption | rfl) ?_
          rotate_left
          · intro w hS; try subst hS
            go_simp; try with_reducible rfl
          try simp only [Act.put, List.setIfInBounds_toArray, List.set_cons_zero, List.set_cons_succ]
          refine AnyH.take (i := 11) (d := some 53) (v := ?_) (by kernel_rfl) rfl rfl HF (fun _ _ _ h => h) (.inl ⟨by rfl, ?_⟩) (by first | assumption | rfl) ?_
          rotate_left
          · intro w hS; try subst hS
            go_simp; try with_reducible rfl
          try simp only [Act.put, List.setIfInBounds_toArray, List.set_cons_zero, List.set_cons_succ]
          refine AnyH.take (i := 13) (d := some 55) (v := ?_) (by kernel_rfl) rfl rfl HF (fun _ _ _ h => h) (.inl ⟨by rfl, ?_⟩) (by first | assumption | rfl) ?_
          rotate_left
          · intro w hS; try subst hS
            go_simp; try with_reducible rfl
          try simp only [Act.put, List.setIfInBounds_toArray, List.set_cons_zero, List.set_cons_succ]
          refine AnyH.take (i := 14) (d := some 56) (v := ?_) (by kernel_rfl) rfl rfl HF (fun _ _ _ h => h) (.inl ⟨by rfl, ?_⟩) (by first | assumption | rfl) ?_
          rotate_left
          · intro w hS; try subst hS
            go_simp; try with_reducible rfl
          try simp only [Act.put, List.setIfInBounds_toArray, List.set_cons_zero, List.set_cons_succ]
          refine AnyH.take (i := 15) (d := some 57) (v := ?_) (by kernel_rfl) rfl rfl HF (fun _ _ _ h => h) (.inl ⟨by rfl, ?_⟩) (by first | assumption | rfl) ?_
          rotate_left
          · intro w hS; try subst hS
            go_simp; try with_reducible rfl
          try simp only [Act.put, List.setIfInBounds_toArray, List.set_cons_zero, List.set_cons_succ]
          refine AnyH.take (i := 16) (d := some 58) (v := ?_) (by kernel_rfl) rfl rfl HF (fun _ _ _ h => h) (.inl ⟨by rfl, ?_⟩) (by first | assumption | rfl) ?_
          rotate_left
          · intro w hS; try subst hS
            go_simp; try with_reducible rfl
          try simp only [Act.put, List.setIfInBounds_toArray, List.set_cons_zero, List.set_cons_succ]
          refine AnyH.take (i := 20) (d := some 62) (v := ?_) (by kernel_rfl) rfl rfl HF (fun _ _ _ h => h) (.inl ⟨by rfl, ?_⟩) (by first | assumption | rfl) ?_
          rotate_left
          · intro w hS; try subst hS
            go_simp; try with_reducible rfl
          try simp only [Act.put, List.setIfInBounds_toArray, List.set_cons_zero, List.set_cons_succ]
          refine AnyH.one (i := 12) (by kernel_rfl) (by kernel_rfl) rfl HF (by rfl) (fun K hK => ?_)
          go_simp
          first | ((with_reducible refine And.intro ?hdep ?_); (case hdep => first | rfl | (intro h; cases h))) | skip
          refine callsIn_wide.2 ((fold_cat ((HR3.out.below B5).pre hkn) HSP.out).mono ?_)
          rintro e w6 ⟨rfl, b6⟩
          have B6 : Below w3.heap.size w3 w6 := Below.step B5 b6
          refine hK _ _ B6 ?_
          clear hK K
          try simp only [Act.put, List.setIfInBounds_toArray, List.set_cons_zero, List.set_cons_succ]
          refine AnyH.one (i := 17) (by kernel_rfl) (by kernel_rfl) rfl HF (by rfl) (fun K hK => ?_)
          go_simp
          first | ((with_reducible refine And.intro ?hdep ?_); (case hdep => first | rfl | (intro h; cases h))) | skip
          refine callsIn_wide.2 ((fold_cat (L := S.drop kk) ((HR3.out.below B6).suf hkn) HSQ.out).mono ?_)
          rintro e w7 ⟨rfl, b7⟩
          have B7 : Below w3.heap.size w3 w7 := Below.step B6 b7
          refine hK _ _ B7 ?_
          clear hK K
          try simp only [Act.put, List.setIfInBounds_toArray, List.set_cons_zero, List.set_cons_succ]
          refine AnyH.one (i := 18) (by kernel_rfl) (by kernel_rfl) rfl HF (by rfl) (fun K hK => ?_)
          go_simp
          have B8 : Below w3.heap.size w3 (w7.alloc (.cells #[.string (catB (S.take kk)), .string (catB (S.drop kk))] 9)) := B7.alloc B7.size _
          refine hK _ _ B8 ?_
          clear hK K
          try simp only [Act.put, List.setIfInBounds_toArray, List.set_cons_zero, List.set_cons_succ]
          refine AnyH.one (i := 19) (by kernel_rfl) (by kernel_rfl) rfl HF (by rfl) (fun K hK => ?_)
          go_simp
          first | ((with_reducible refine And.intro ?hdep ?_); (case hdep => first | rfl | (intro h; cases h))) | skip
          refine callsIn_wide.2 ((fold_cat (L := [catB (S.take kk), catB (S.drop kk)]) (RowAt.lit (L := [catB (S.take kk), catB (S.drop kk)]) w7 rfl (show 2 ≤ maxLen by decide)) HSR.out).mono ?_)
          rintro e w9 ⟨rfl, b9⟩
          have B9 : Below w3.heap.size w3 w9 := Below.step B8 b9
          rw [HCC.out]
          refine hK _ _ B9 ?_
          clear hK K
          try simp only [Act.put, List.setIfInBounds_toArray, List.set_cons_zero, List.set_cons_succ]
          refine AnyH.one (i := 21) (by kernel_rfl) (by kernel_rfl) rfl HF (by rfl) (fun K hK => ?_)
          go_simp
          first | ((with_reducible refine And.intro ?hdep ?_); (case hdep => first | rfl | (intro h; cases h))) | skip
          refine callsIn_wide.2 ((text_any (HR3.out.below B9) HSM.out).mono ?_)
          rintro e w10 ⟨rfl, b10⟩
          have B10 : Below w3.heap.size w3 w10 := Below.step B9 b10
          refine hK _ _ B10 ?_
          clear hK K
          try simp only [Act.put, List.setIfInBounds_toArray, List.set_cons_zero, List.set_cons_succ]
          refine AnyH.take (i := 22) (d := some 64) (v := ?_) (by kernel_rfl) rfl rfl HF (fun _ _ _ h => h) (.inl ⟨by rfl, ?_⟩) (by first | assumption | rfl) ?_
          rotate_left
          · intro w hS; try subst hS
            go_simp; try with_reducible rfl
          try simp only [Act.put, List.setIfInBounds_toArray, List.set_cons_zero, List.set_cons_succ]
          refine AnyH.take (i := 23) (d := some 65) (v := ?_) (by kernel_rfl) rfl rfl HF (fun _ _ _ h => h) (.inl ⟨by rfl, ?_⟩) (by first | assumption | rfl) ?_
          rotate_left
          · intro w hS; try subst hS
            go_simp; try with_reducible rfl
          try simp only [Act.put, List.setIfInBounds_toArray, List.set_cons_zero, List.set_cons_succ]
          refine AnyH.take (i := 24) (d := some 4) (v := ?_) (by kernel_rfl) rfl rfl HF (fun _ _ _ h => h) (.inl ⟨by rfl, ?_⟩) (by first | assumption | rfl) ?_
          rotate_left
          · intro w hS; try subst hS
            go_simp; try with_reducible rfl
          try simp only [Act.put, List.setIfInBounds_toArray, List.set_cons_zero, List.set_cons_succ]
          refine AnyH.done (by kernel_rfl) ?_
          go_wp2_with fail
          go_ret
          exact ⟨rfl, Below.step HB3.out B10⟩
end W
end Go.Proofs.Ytpgnhnimndagpaa
