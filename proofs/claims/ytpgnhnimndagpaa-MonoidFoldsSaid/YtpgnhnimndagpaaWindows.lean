/- MonoidWindows: the walk. -/
import Derived.Test.YtpgnhnimndagpaaAwakeM
import Derived.Test.YtpgnhnimndagpaaWinW
import Derived.Test.YtpgnhnimndagpaaText
namespace Go.Proofs.Ytpgnhnimndagpaa
open Go.RowKit
namespace W
attribute [local go_sem] Oper.semAt_some

theorem fold1_catB (X : List ByteArray) : fold1 (fun x1 x2 : ByteArray => x1 ++ x2) ⟨#[]⟩ X = catB X := by
  cases X with
  | nil => rfl
  | cons a X => simp only [fold1, catB, List.foldl_cons]; rw [ba_empty]
theorem lenB_drop (L : List ByteArray) (a k : Nat) : lenB ((L.drop a).take k) ≤ lenB L := by
  have h1 := lenB_take (L.drop a) k
  have h2 : lenB (L.drop a) ≤ lenB L := by
    conv => rhs; rw [← List.take_append_drop a L]
    simp [lenB, -List.take_append_drop]
  omega
theorem shortL_len (L : List ByteArray) : (shortL L).length ≤ 60 := by simp [shortL, List.length_take]; omega
theorem lenB_le (X : List ByteArray) (h : ∀ s ∈ X, s.size ≤ 5) : lenB X ≤ X.length * 5 := by
  induction X with
  | nil => simp [lenB]
  | cons a X ih =>
    have h1 := ih (fun s hs => h s (List.mem_cons_of_mem _ hs))
    have h2 := h a (List.mem_cons_self ..)
    simp only [lenB, List.map_cons, List.sum_cons, List.length_cons] at *
    omega
theorem shortL_size (L : List ByteArray) : lenB (shortL L) ≤ 300 := by
  have h := lenB_le (shortL L) (fun s hs => by
    obtain ⟨x, -, rfl⟩ := List.mem_map.1 hs
    unfold shortS
    rw [ByteArray.size_extract]; omega)
  have := shortL_len L
  omega
theorem segs_small (S : List ByteArray) (h : lenB S ≤ 300) (a b c : Nat) (_ : a < b) (_ : b < c) (_ : c ≤ S.length) : (seg (fun x1 x2 : ByteArray => x1 ++ x2) ⟨#[]⟩ S a b).size + (seg (fun x1 x2 : ByteArray => x1 ++ x2) ⟨#[]⟩ S b c).size ≤ 9223372036854775807 := by
  unfold seg
  rw [fold1_catB, fold1_catB, catB_size, catB_size]
  have := lenB_drop S a (b - a); have := lenB_drop S b (c - b)
  omega
theorem _root_.Go.Proofs.Ytpgnhnimndagpaa.RowAt.sub {α : Type} {ev : α → Value} {W : World} {b : Addr} {n cap i m : Nat} {L : List α} (h : RowAt ev W (.slice (some b) n cap) L) (hi : i + m ≤ L.length) : RowAt ev W (.slice (some (b.add i)) m (cap - i)) ((L.drop i).take m) := by
  obtain ⟨a, c, e, h1, h2, h⟩ := h
  simp only [Value.slice.injEq] at e
  obtain ⟨rfl, hn, rfl⟩ := e
  have hl : ((L.drop i).take m).length = m := by rw [List.length_take, List.length_drop]; omega
  refine ⟨_, _, by rw [hl], by rw [hl]; omega, by omega, fun k hk => ⟨_, rfl, ?_⟩⟩
  rw [hl] at hk
  have hi' : i + k < L.length := by omega
  obtain ⟨b', e, x⟩ := h (i + k) hi'
  cases e
  rw [add_add', x]
  simp
theorem win_list {W : World} {v : Value} {L : List ByteArray} (hL : RowAt Value.string W v L) (hs : lenB L ≤ 300) (hn : L.length ≤ 1000000) {n : Nat} (h1 : 1 ≤ n) (h2 : n ≤ L.length) :
    Calls Try.prog 16 #[.agg #[], v, .int .i64 n] W fun e w' => ∃ (A : List ByteArray) (a : Option Addr) (c : Nat), e = .returned (.slice a A.length c) ∧ RowAt Value.string w' (.slice a A.length c) A ∧ A.length = L.length - n + 1 ∧ (∀ (i : Nat) (h : i < A.length), A[i] = catB ((L.drop i).take n)) ∧ Below W.heap.size W w' := by
  refine (win_any hL hn h1 h2 (fun x y z => ByteArray.append_assoc) (segs_small L hs)).mono fun e w ⟨r, he, hr, hb⟩ => ?_
  have hr2 := hr
  obtain ⟨a, c, rfl, -⟩ := hr
  refine ⟨_, a, c, he, hr2, by simp, fun i h => ?_, hb⟩
  simp only [List.getElem_map, List.getElem_range]
  unfold winF seg
  rw [fold1_catB, show i + n - i = n by omega]

set_option maxRecDepth 100000 in
set_option maxHeartbeats 4000000 in
theorem windows_any {W : World} {v : Value} {L : List ByteArray} (hL : RowAt Value.string W v L) (hsz : ∀ s ∈ L, s.size ≤ 9223372036854775807) (n : Int) (hn0 : -9223372036854775808 ≤ n) (hn1 : n ≤ 9223372036854775807) :
    Calls Try.prog 4 #[v, .int .i64 n] W fun e w' => e = .returned (.bool true) ∧ Below W.heap.size W w' := by
  have HF : ∀ f, Fence.wide.fn f := fun _ => trivial
  have H := Lib.hid hL; have HSZ := Lib.hid hsz
  obtain ⟨a, cap, rfl, -, -, -⟩ := hL
  clear hsz
  have HS := Lib.hid (shortL_len L); have HS2 := Lib.hid (shortL_size L)
  go_enter Try.func4, Try.ntmps4
  go_wp2_with fail
  refine (awake_any W).mono ?_; rintro e w1 ⟨rfl, b1⟩
  have HB1 := Lib.hid b1; have H1 := Lib.hid (H.out.below b1); clear b1
  go_wp2_with fail
  refine (short_any H1.out HSZ.out).mono ?_
  rintro e w2 ⟨r, rfl, hr, b2⟩
  have HR := Lib.hid (SlA.row (ev := Value.string) hr); have HB2 := Lib.hid (Below.step HB1.out b2)
  clear hr b2
  generalize shortL L = S at *
  obtain ⟨a2, c2, rfl, hc3, hc4, -⟩ := HR.out
  unfold maxLen at hc4
  go_wp2_with fail
  by_cases hw : n < 1 ∨ (S.length : Int) < n
  · refine (win_none HR.out (by have := HS.out; omega) hw).mono ?_
    rintro e w3 ⟨rfl, b3⟩
    have HB3 := Lib.hid (Below.step HB2.out b3); clear b3
    by_cases h1 : n < 1
    all_goals
      have h2 : ¬ n < 1 → (S.length : Int) < n := by omega
      first | (have h3 : (S.length : Int) < n := h2 h1) | skip
      clear hw h2
      go_wp2_with fail
      go_ret
      exact ⟨rfl, HB3.out⟩
  · obtain ⟨m, rfl⟩ : ∃ m : Nat, n = (m : Int) := ⟨n.toNat, by omega⟩
    have hm1 : 1 ≤ m := by omega
    have hm2 : m ≤ S.length := by omega
    clear hw
    refine (win_list HR.out HS2.out (by have := HS.out; omega) hm1 hm2).mono ?_
    rintro e w3 ⟨A, a3, c3, rfl, hr3, hA, hAi, b3⟩
    have HB3 := Lib.hid (Below.step HB2.out b3); have HR3 := Lib.hid (HR.out.below b3); have HG := Lib.hid hr3; have HAI := Lib.hid hAi; have HA := Lib.hid hA
    have hi1 : ¬ (m : Int) < 1 := by omega
    have hi2 : ¬ (S.length : Int) < (m : Int) := by omega
    have hi5 : decide ((m : Int) < 1) = false := decide_eq_false hi1
    have hi6 : decide (S.length < m) = false := decide_eq_false (by omega)
    have hi3 : decide ((S.length : Int) < (m : Int)) = false := decide_eq_false hi2
    have hi4 : ((A.length : Int) != (S.length : Int) - (m : Int) + 1) = false := by simp; omega
    clear b3 hr3 hA hAi
    go_wp2_with fail
    clear hi1 hi2 hi3 hi4 hi5 hi6
    go_loopw [36] (fun c wr => ∃ j : Nat, j ≤ A.length ∧ c = .int .i64 j ∧ Below w3.heap.size w3 wr) (fun c _ => A.length - (intOf c).toNat)
    case atStart => exact ⟨0, by omega, rfl, Below.refl _ _⟩
    case round =>
      obtain ⟨j, hj, rfl, hB⟩ := hrel
      have HBr := Lib.hid hB; clear hB
      have hAl := HA.out
      have hS60 := HS.out
      by_cases hlt : j < A.length
      · have hl3 : (j : Int) < (A.length : Int) := by omega
        have hl4 : (0 : Int) ≤ (j : Int) := by omega
        have hl5 : (j : Int) ≤ (j : Int) + (m : Int) := by omega
        have hl6 : (j : Int) + (m : Int) ≤ (c2 : Int) := by omega
        have hl7 : ¬ (c2 : Int) = (j : Int) := by omega
        have hl8 : ¬ c2 = j := by omega
        obtain ⟨b3, e3, hb3, m3⟩ := HG.out.at hlt
        simp only [Value.slice.injEq] at hb3
        obtain ⟨rfl, -, rfl⟩ := hb3
        obtain ⟨b2, hb2⟩ : ∃ b2, a2 = some b2 := by
          obtain ⟨b, c, e, -⟩ := HR.out.at (i := 0) (by omega)
          simp only [Value.slice.injEq] at e
          exact ⟨b, e.1⟩
        subst hb2
        have HSUB := Lib.hid (HR3.out.sub (i := j) (m := m) (by omega))
        have hsm : lenB ((S.drop j).take m) ≤ 1000000 := by have := lenB_drop S j m; have := HS2.out; omega
        have HSM := Lib.hid hsm
        have hv := HAI.out j hlt
        rw [hv] at m3
        have HW1 := Lib.hid (wrap_in (x := (j : Int) + (m : Int)) (by omega) (by omega))
        clear hv hsm hAl hS60
        go_wp2_with fail
        have B0 : Below w3.heap.size w3 wr.drew := HBr.out.drew
        have hw1 := HW1.out
        refine wp_region_anyH (Below w3.heap.size w3) (by kernel_rfl) ?_
        refine AnyH.take (i := 0) (d := some 39) (v := ?_) (by kernel_rfl) rfl rfl HF (fun _ _ _ h => h) (.inl ⟨by rfl, ?_⟩) (by first | assumption | rfl) ?_
        rotate_left
        · intro w hS; try subst hS
          go_simp; try with_reducible rfl
        try simp only [Act.put, List.setIfInBounds_toArray, List.set_cons_zero, List.set_cons_succ]
        refine AnyH.take (i := 1) (d := some 40) (v := ?_) (by kernel_rfl) rfl rfl HF (fun _ _ _ h => h) (.inl ⟨by rfl, ?_⟩) (by first | assumption | rfl) ?_
        rotate_left
        · intro w hS; try subst hS
          go_simp; try with_reducible rfl
        try simp only [Act.put, List.setIfInBounds_toArray, List.set_cons_zero, List.set_cons_succ]
        refine AnyH.take (i := 2) (d := some 41) (v := ?_) (by kernel_rfl) rfl rfl HF (fun _ _ _ h => h) (.inl ⟨by rfl, ?_⟩) (by first | assumption | rfl) ?_
        rotate_left
        · intro w hS; try subst hS
          go_simp; try with_reducible rfl
        try simp only [Act.put, List.setIfInBounds_toArray, List.set_cons_zero, List.set_cons_succ]
        refine AnyH.take (i := 3) (d := some 42) (v := ?_) (by kernel_rfl) rfl rfl HF (fun _ _ _ h => h) (.inl ⟨by rfl, ?_⟩) (by first | assumption | rfl) ?_
        rotate_left
        · intro w hS; try subst hS
          go_simp; try with_reducible rfl
        try simp only [Act.put, List.setIfInBounds_toArray, List.set_cons_zero, List.set_cons_succ]
        refine AnyH.take (i := 4) (d := some 43) (v := ?_) (by kernel_rfl) rfl rfl HF (fun _ _ _ h => h) (.inl ⟨by rfl, ?_⟩) (by first | assumption | rfl) ?_
        rotate_left
        · intro w hS; try subst hS
          go_simp; try with_reducible rfl
        try simp only [Act.put, List.setIfInBounds_toArray, List.set_cons_zero, List.set_cons_succ]
        refine AnyH.take (i := 5) (d := some 44) (v := ?_) (by kernel_rfl) rfl rfl HF (fun _ _ _ h => h) (.inl ⟨by rfl, ?_⟩) (by first | assumption | rfl) ?_
        rotate_left
        · intro w hS; try subst hS
          go_simp; try with_reducible rfl
        try simp only [Act.put, List.setIfInBounds_toArray, List.set_cons_zero, List.set_cons_succ]
        refine AnyH.take (i := 6) (d := some 45) (v := ?_) (by kernel_rfl) rfl rfl HF (fun _ _ _ h => h) (.inl ⟨by rfl, ?_⟩) (by first | assumption | rfl) ?_
        rotate_left
        · intro w hS; try subst hS
          go_simp; try with_reducible rfl
        try simp only [Act.put, List.setIfInBounds_toArray, List.set_cons_zero, List.set_cons_succ]
        refine AnyH.take (i := 7) (d := some 46) (v := ?_) (by kernel_rfl) rfl rfl HF (fun _ _ _ h => h) (.inl ⟨by rfl, ?_⟩) (by first | assumption | rfl) ?_
        rotate_left
        · intro w hS; try subst hS
          go_simp; try with_reducible rfl
        try simp only [Act.put, List.setIfInBounds_toArray, List.set_cons_zero, List.set_cons_succ]
        refine AnyH.take (i := 8) (d := some 47) (v := ?_) (by kernel_rfl) rfl rfl HF (fun _ _ _ h => h) (.inl ⟨by rfl, ?_⟩) (by first | assumption | rfl) ?_
        rotate_left
        · intro w hS; try subst hS
          go_simp; try with_reducible rfl
        try simp only [Act.put, List.setIfInBounds_toArray, List.set_cons_zero, List.set_cons_succ]
        refine AnyH.take (i := 9) (d := some 48) (v := ?_) (by kernel_rfl) rfl rfl HF (fun _ _ _ h => h) (.inl ⟨by rfl, ?_⟩) (by first | assumption | rfl) ?_
        rotate_left
        · intro w hS; try subst hS
          go_simp; try with_reducible rfl
        try simp only [Act.put, List.setIfInBounds_toArray, List.set_cons_zero, List.set_cons_succ]
        refine AnyH.one (i := 10) (by kernel_rfl) (by kernel_rfl) rfl HF (by rfl) (fun K hK => ?_)
        go_simp
        first | ((with_reducible refine And.intro ?hdep ?_); (case hdep => first | rfl | (intro h; cases h))) | skip
        have e1 : ((j : Int) + (m : Int)).toNat - j = m := by omega
        rw [e1]
        clear e1
        refine callsIn_wide.2 ((text_any (HSUB.out.below B0) HSM.out).mono ?_)
        rintro e w4 ⟨rfl, b4⟩
        have B4 : Below w3.heap.size w3 w4 := Below.step B0 b4
        refine hK _ _ B4 ?_
        clear hK K
        try simp only [Act.put, List.setIfInBounds_toArray, List.set_cons_zero, List.set_cons_succ]
        refine AnyH.take (i := 11) (d := some 50) (v := ?_) (by kernel_rfl) rfl rfl HF (fun _ _ _ h => h) (.inl ⟨by rfl, ?_⟩) (by first | assumption | rfl) ?_
        rotate_left
        · intro w hS; try subst hS
          go_simp; try with_reducible rfl
        try simp only [Act.put, List.setIfInBounds_toArray, List.set_cons_zero, List.set_cons_succ]
        refine AnyH.done (by kernel_rfl) ?_
        clear hw1
        go_wp2_with fail
        go_roundw
        case rel => exact ⟨j + 1, by omega, by go_num, B4⟩
        case measure => simp [intOf]; omega
      · obtain rfl : j = A.length := by omega
        go_wp2_with fail
        go_ret
        exact ⟨rfl, Below.step HB3.out HBr.out⟩
end W
end Go.Proofs.Ytpgnhnimndagpaa
