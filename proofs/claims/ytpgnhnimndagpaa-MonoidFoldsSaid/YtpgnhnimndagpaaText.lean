/- short and text. -/
import Derived.Test.YtpgnhnimndagpaaSame
import Derived.Test.YtpgnhnimndagpaaLists
import Derived.Test.YtpgnhnimndagpaaMake
import Derived.Test.YtpgnhnimndagpaaTail
import Derived.Test.YtpgnhnimndagpaaOwn
import Derived.Outline
namespace Go.Proofs.Ytpgnhnimndagpaa
open Go.RowKit
attribute [local go_sem] Oper.semAt_some

theorem lenB_snoc (L : List ByteArray) (j : Nat) (hj : j < L.length) : lenB (L.take (j + 1)) = lenB (L.take j) + L[j].size := by
  rw [List.take_succ_eq_append_getElem hj]
  rw [lenB, List.map_append, List.sum_append]
  simp [lenB, -List.map_take]
theorem catB_snoc (L : List ByteArray) (j : Nat) (hj : j < L.length) : catB (L.take (j + 1)) = catB (L.take j) ++ L[j] := take_snoc _ _ L j hj
theorem catB_size (L : List ByteArray) : (catB L).size = lenB L := by
  unfold catB; rw [foldl_size]; exact Nat.zero_add _

set_option maxRecDepth 100000 in
set_option maxHeartbeats 2000000 in
theorem text_any {W : World} {v : Value} {L : List ByteArray} (hL : RowAt Value.string W v L) (hn : lenB L ≤ 1000000) :
    Calls Try.prog 17 #[v] W fun e w' => e = .returned (.string (catB L)) ∧ Below W.heap.size W w' := by
  have H := Lib.hid hL
  obtain ⟨a, cap, rfl, hc1, hc2, -⟩ := hL
  unfold maxLen at hc2
  have HN := Lib.hid hn; clear hn
  go_enter Try.func17, Try.ntmps17
  go_wp2_with fail
  go_loopw [3, 7] (fun s c wr => ∃ j : Nat, j ≤ L.length ∧ c = .int .i64 j ∧ s = .string (catB (L.take j)) ∧ Below W.heap.size W wr) (fun _ c _ => L.length - (intOf c).toNat)
  case atStart => exact ⟨0, by omega, rfl, rfl, Below.refl _ _⟩
  case round =>
    obtain ⟨j, hj, rfl, rfl, hB⟩ := hrel
    have HB := Lib.hid hB; clear hB
    by_cases hlt : j < L.length
    · have hl3 : (j : Int) < (L.length : Int) := by omega
      have hl4 : (0 : Int) ≤ (j : Int) := by omega
      obtain ⟨b, c, hb, m1⟩ := H.out.at hlt
      simp only [Value.slice.injEq] at hb
      obtain ⟨rfl, -, rfl⟩ := hb
      have m1 := m1 wr HB.out
      have hs : ¬ 9223372036854775807 < (catB (L.take j)).size + L[j].size := by
        have := lenB_at L j hlt
        have h2 := HN.out
        rw [catB_size]; omega
      have HS := Lib.hid (catB_snoc L j hlt)
      go_wp2_with fail
      go_roundw
      case rel => exact ⟨j + 1, by omega, by go_num, by rw [HS.out], HB.out⟩
      case measure => simp [intOf]; omega
    · obtain rfl : j = L.length := by omega
      rw [List.take_length]
      go_wp2_with fail
      go_ret
      exact ⟨rfl, HB.out⟩

/-- A string's first letters; a list's first strings. -/
def shortS (s : ByteArray) : ByteArray := s.extract 0 (min s.size 5)
def shortL (L : List ByteArray) : List ByteArray := (L.take 60).map shortS
theorem shortL_snoc (L : List ByteArray) (j : Nat) (hj : j < L.length) (h : j < 60) : (L.take (j + 1)).map shortS = (L.take j).map shortS ++ [shortS L[j]] := by
  rw [List.take_succ_eq_append_getElem hj, List.map_append]; rfl
def encS (s : ByteArray) : List Value := [.string s]
theorem elemS : Elem Try.prog 35 9 1 16 := elem_of (z := .string ⟨#[]⟩) (by kernel_rfl) (by kernel_rfl) rfl (by decide) (by decide)

set_option maxRecDepth 100000 in
set_option maxHeartbeats 2000000 in
theorem short_any {W : World} {v : Value} {L : List ByteArray} (hL : RowAt Value.string W v L) (hsz : ∀ s ∈ L, s.size ≤ 9223372036854775807) :
    Calls Try.prog 15 #[v] W fun e w' => ∃ r, e = .returned r ∧ SlA W.heap.size w' 9 1 encS r (shortL L) ∧ Below W.heap.size W w' := by
  have HF : ∀ f, Fence.wide.fn f := fun _ => trivial
  have H := Lib.hid hL
  obtain ⟨a, cap, rfl, hc1, hc2, -⟩ := hL
  unfold maxLen at hc2
  have HSZ := Lib.hid hsz; clear hsz
  go_enter Try.func15, Try.ntmps15
  go_wp2_with fail
  go_loopw [3, 4] (fun s c wr => ∃ j : Nat, j ≤ L.length ∧ j ≤ 60 ∧ c = .int .i64 j ∧ SlA W.heap.size wr 9 1 encS s ((L.take j).map shortS) ∧ Below W.heap.size W wr) (fun _ c _ => L.length - (intOf c).toNat)
  case atStart => exact ⟨0, by omega, by omega, rfl, SlA.nil _ _ _ _ _, Below.refl _ _⟩
  case round =>
    obtain ⟨j, hj, hj60, rfl, hS, hB⟩ := hrel
    have HB := Lib.hid hB; have HS := Lib.hid hS; clear hB hS
    by_cases hlt : j < L.length ∧ j < 60
    · obtain ⟨hlt, h60⟩ := hlt
      have hl3 : (j : Int) < (L.length : Int) := by omega
      have hl4 : (0 : Int) ≤ (j : Int) := by omega
      have hl5 : (j : Int) < 60 := by omega
      have hl6 : decide ((j : Int) < 60) = true := decide_eq_true hl5
      obtain ⟨b, c, hb, m1⟩ := H.out.at hlt
      simp only [Value.slice.injEq] at hb
      obtain ⟨rfl, -, rfl⟩ := hb
      have m2 : ∀ w, Below wr.heap.size wr w → w.cell? (b.add j) = some (.string L[j]) := fun w h => m1 w (Below.step HB.out h)
      have hs := HSZ.out _ (List.getElem_mem hlt)
      have HSN := Lib.hid (shortL_snoc L j hlt h60)
      obtain ⟨a1, c1, hv⟩ := HS.out.len
      have hlj : ((L.take j).map shortS).length = j := by rw [List.length_map, List.length_take]; omega
      rw [hlj] at hv
      subst hv
      clear m1
      go_wp2_with fail
      have B0 : Below wr.heap.size wr wr.drew := (Below.refl _ _).drew
      by_cases h5 : ¬ (5 : Int) < (L[j].size : Int)
      · have h6 : (L[j].size : Int) ≤ 5 := by omega
        have HV : Hid (shortS L[j] = L[j]) := Lib.hid (by unfold shortS; rw [Nat.min_eq_left (by omega)]; exact ByteArray.extract_zero_size)
        refine wp_region_anyH (Below wr.heap.size wr) (by kernel_rfl) ?_
        refine AnyH.take (i := 0) (d := some 15) (v := ?_) (by kernel_rfl) rfl rfl HF (fun _ _ _ h => h) (.inl ⟨by rfl, ?_⟩) (by first | assumption | rfl) ?_
        rotate_left
        · intro w hS; try subst hS
          go_simp; try with_reducible rfl
        try simp only [Act.put, List.setIfInBounds_toArray, List.set_cons_zero, List.set_cons_succ]
        refine AnyH.take (i := 1) (d := some 16) (v := ?_) (by kernel_rfl) rfl rfl HF (fun _ _ _ h => h) (.inl ⟨by rfl, ?_⟩) (by first | assumption | rfl) ?_
        rotate_left
        · intro w hS; try subst hS
          go_simp; try with_reducible rfl
        try simp only [Act.put, List.setIfInBounds_toArray, List.set_cons_zero, List.set_cons_succ]
        refine AnyH.take (i := 2) (d := some 17) (v := ?_) (by kernel_rfl) rfl rfl HF (fun _ _ _ h => h) (.inl ⟨by rfl, ?_⟩) (by first | assumption | rfl) ?_
        rotate_left
        · intro w hS; try subst hS
          go_simp; try with_reducible rfl
        try simp only [Act.put, List.setIfInBounds_toArray, List.set_cons_zero, List.set_cons_succ]
        refine AnyH.take (i := 3) (d := some 18) (v := ?_) (by kernel_rfl) rfl rfl HF (fun _ _ _ h => h) (.inl ⟨by rfl, ?_⟩) (by first | assumption | rfl) ?_
        rotate_left
        · intro w hS; try subst hS
          go_simp; try with_reducible rfl
        try simp only [Act.put, List.setIfInBounds_toArray, List.set_cons_zero, List.set_cons_succ]
        refine AnyH.take (i := 4) (d := some 19) (v := ?_) (by kernel_rfl) rfl rfl HF (fun _ _ _ h => h) (.inl ⟨by rfl, ?_⟩) (by first | assumption | rfl) ?_
        rotate_left
        · intro w hS; try subst hS
          go_simp; try with_reducible rfl
        try simp only [Act.put, List.setIfInBounds_toArray, List.set_cons_zero, List.set_cons_succ]
        refine AnyH.take (i := 5) (d := some 20) (v := ?_) (by kernel_rfl) rfl rfl HF (fun _ _ _ h => h) (.inl ⟨by rfl, ?_⟩) (by first | assumption | rfl) ?_
        rotate_left
        · intro w hS; try subst hS
          go_simp; try with_reducible rfl
        try simp only [Act.put, List.setIfInBounds_toArray, List.set_cons_zero, List.set_cons_succ]
        refine AnyH.take (i := 6) (d := some 21) (v := ?_) (by kernel_rfl) rfl rfl HF (fun _ _ _ h => h) (.inl ⟨by rfl, ?_⟩) (by first | assumption | rfl) ?_
        rotate_left
        · intro w hS; try subst hS
          go_simp; try with_reducible rfl
        try simp only [Act.put, List.setIfInBounds_toArray, List.set_cons_zero, List.set_cons_succ]
        refine AnyH.take (i := 7) (d := some 22) (v := ?_) (by kernel_rfl) rfl rfl HF (fun _ _ _ h => h) (.inl ⟨by rfl, ?_⟩) (by first | assumption | rfl) ?_
        rotate_left
        · intro w hS; try subst hS
          go_simp; try with_reducible rfl
        try simp only [Act.put, List.setIfInBounds_toArray, List.set_cons_zero, List.set_cons_succ]
        refine AnyH.take (i := 8) (d := some 23) (v := ?_) (by kernel_rfl) rfl rfl HF (fun _ _ _ h => h) (.inl ⟨by rfl, ?_⟩) (by first | assumption | rfl) ?_
        rotate_left
        · intro w hS; try subst hS
          go_simp; try with_reducible rfl
        try simp only [Act.put, List.setIfInBounds_toArray, List.set_cons_zero, List.set_cons_succ]
        refine AnyH.take (i := 9) (d := some 24) (v := ?_) (by kernel_rfl) rfl rfl HF (fun _ _ _ h => h) (.inl ⟨by rfl, ?_⟩) (by first | assumption | rfl) ?_
        rotate_left
        · intro w hS; try subst hS
          go_simp; try with_reducible rfl
        try simp only [Act.put, List.setIfInBounds_toArray, List.set_cons_zero, List.set_cons_succ]
        refine AnyH.take (i := 10) (d := some 25) (v := ?_) (by kernel_rfl) rfl rfl HF (fun _ _ _ h => h) (.inl ⟨by rfl, ?_⟩) (by first | assumption | rfl) ?_
        rotate_left
        · intro w hS; try subst hS
          go_simp; try with_reducible rfl
        try simp only [Act.put, List.setIfInBounds_toArray, List.set_cons_zero, List.set_cons_succ]
        refine AnyH.take (i := 11) (d := some 26) (v := ?_) (by kernel_rfl) rfl rfl HF (fun _ _ _ h => h) (.inl ⟨by rfl, ?_⟩) (by first | assumption | rfl) ?_
        rotate_left
        · intro w hS; try subst hS
          go_simp; try with_reducible rfl
        try simp only [Act.put, List.setIfInBounds_toArray, List.set_cons_zero, List.set_cons_succ]
        refine AnyH.one (i := 12) (by kernel_rfl) (by kernel_rfl) rfl HF (by rfl) (fun K hK => ?_)
        go_simp
        change K _ (wr.drew.alloc (.cells #[.string (L[j])] 9))
        have B1 : Below wr.heap.size wr (wr.drew.alloc (.cells #[.string (L[j])] 9)) := B0.alloc B0.size _
        refine hK _ _ B1 ?_
        clear hK K
        try simp only [Act.put, List.setIfInBounds_toArray, List.set_cons_zero, List.set_cons_succ]
        refine AnyH.tailL 13 (by kernel_rfl) ?_
        simp only [List.drop_succ_cons, List.drop_zero]
        have s0 := HS.out.below B0
        gi_wp2_with (
          gi_at_builtin
          refine wp_app1In (w0 := wr.drew) elemS (fun _ => rfl) rfl _ _ rfl rfl s0 (L[j]) rfl rfl (by simp [encS, Value.oneCell']) (by rw [hlj]; omega) (Below.trans HB.out (B0.mono HB.out.size)).size ?_
          intro v' w3 hS' hg hb'
          have HS3 := Lib.hid hS'; have HB3 := Lib.hid ((HB.out.trans (B0.mono HB.out.size)).trans hb')
          clear hS' hg hb')
        go_wp2_with fail
        go_roundw
        case rel => exact ⟨j + 1, by omega, by omega, by go_num, by rw [HSN.out, HV.out]; exact HS3.out, HB3.out⟩
        case measure => simp [intOf]; omega
      · have h5' : (5 : Int) < (L[j].size : Int) := by omega
        have h6 : (5 : Int) ≤ (L[j].size : Int) := by omega
        clear h5
        have HV : Hid (shortS L[j] = L[j].extract 0 5) := Lib.hid (by unfold shortS; rw [Nat.min_eq_right (by omega)])
        refine wp_region_anyH (Below wr.heap.size wr) (by kernel_rfl) ?_
        refine AnyH.take (i := 0) (d := some 15) (v := ?_) (by kernel_rfl) rfl rfl HF (fun _ _ _ h => h) (.inl ⟨by rfl, ?_⟩) (by first | assumption | rfl) ?_
        rotate_left
        · intro w hS; try subst hS
          go_simp; try with_reducible rfl
        try simp only [Act.put, List.setIfInBounds_toArray, List.set_cons_zero, List.set_cons_succ]
        refine AnyH.take (i := 1) (d := some 16) (v := ?_) (by kernel_rfl) rfl rfl HF (fun _ _ _ h => h) (.inl ⟨by rfl, ?_⟩) (by first | assumption | rfl) ?_
        rotate_left
        · intro w hS; try subst hS
          go_simp; try with_reducible rfl
        try simp only [Act.put, List.setIfInBounds_toArray, List.set_cons_zero, List.set_cons_succ]
        refine AnyH.take (i := 2) (d := some 17) (v := ?_) (by kernel_rfl) rfl rfl HF (fun _ _ _ h => h) (.inl ⟨by rfl, ?_⟩) (by first | assumption | rfl) ?_
        rotate_left
        · intro w hS; try subst hS
          go_simp; try with_reducible rfl
        try simp only [Act.put, List.setIfInBounds_toArray, List.set_cons_zero, List.set_cons_succ]
        refine AnyH.take (i := 3) (d := some 18) (v := ?_) (by kernel_rfl) rfl rfl HF (fun _ _ _ h => h) (.inl ⟨by rfl, ?_⟩) (by first | assumption | rfl) ?_
        rotate_left
        · intro w hS; try subst hS
          go_simp; try with_reducible rfl
        try simp only [Act.put, List.setIfInBounds_toArray, List.set_cons_zero, List.set_cons_succ]
        refine AnyH.take (i := 4) (d := some 19) (v := ?_) (by kernel_rfl) rfl rfl HF (fun _ _ _ h => h) (.inl ⟨by rfl, ?_⟩) (by first | assumption | rfl) ?_
        rotate_left
        · intro w hS; try subst hS
          go_simp; try with_reducible rfl
        try simp only [Act.put, List.setIfInBounds_toArray, List.set_cons_zero, List.set_cons_succ]
        refine AnyH.take (i := 5) (d := some 20) (v := ?_) (by kernel_rfl) rfl rfl HF (fun _ _ _ h => h) (.inl ⟨by rfl, ?_⟩) (by first | assumption | rfl) ?_
        rotate_left
        · intro w hS; try subst hS
          go_simp; try with_reducible rfl
        try simp only [Act.put, List.setIfInBounds_toArray, List.set_cons_zero, List.set_cons_succ]
        refine AnyH.take (i := 6) (d := some 21) (v := ?_) (by kernel_rfl) rfl rfl HF (fun _ _ _ h => h) (.inl ⟨by rfl, ?_⟩) (by first | assumption | rfl) ?_
        rotate_left
        · intro w hS; try subst hS
          go_simp; try with_reducible rfl
        try simp only [Act.put, List.setIfInBounds_toArray, List.set_cons_zero, List.set_cons_succ]
        refine AnyH.take (i := 7) (d := some 22) (v := ?_) (by kernel_rfl) rfl rfl HF (fun _ _ _ h => h) (.inl ⟨by rfl, ?_⟩) (by first | assumption | rfl) ?_
        rotate_left
        · intro w hS; try subst hS
          go_simp; try with_reducible rfl
        try simp only [Act.put, List.setIfInBounds_toArray, List.set_cons_zero, List.set_cons_succ]
        refine AnyH.take (i := 8) (d := some 23) (v := ?_) (by kernel_rfl) rfl rfl HF (fun _ _ _ h => h) (.inl ⟨by rfl, ?_⟩) (by first | assumption | rfl) ?_
        rotate_left
        · intro w hS; try subst hS
          go_simp; try with_reducible rfl
        try simp only [Act.put, List.setIfInBounds_toArray, List.set_cons_zero, List.set_cons_succ]
        refine AnyH.take (i := 9) (d := some 24) (v := ?_) (by kernel_rfl) rfl rfl HF (fun _ _ _ h => h) (.inl ⟨by rfl, ?_⟩) (by first | assumption | rfl) ?_
        rotate_left
        · intro w hS; try subst hS
          go_simp; try with_reducible rfl
        try simp only [Act.put, List.setIfInBounds_toArray, List.set_cons_zero, List.set_cons_succ]
        refine AnyH.take (i := 10) (d := some 25) (v := ?_) (by kernel_rfl) rfl rfl HF (fun _ _ _ h => h) (.inl ⟨by rfl, ?_⟩) (by first | assumption | rfl) ?_
        rotate_left
        · intro w hS; try subst hS
          go_simp; try with_reducible rfl
        try simp only [Act.put, List.setIfInBounds_toArray, List.set_cons_zero, List.set_cons_succ]
        refine AnyH.take (i := 11) (d := some 26) (v := ?_) (by kernel_rfl) rfl rfl HF (fun _ _ _ h => h) (.inl ⟨by rfl, ?_⟩) (by first | assumption | rfl) ?_
        rotate_left
        · intro w hS; try subst hS
          go_simp; try with_reducible rfl
        try simp only [Act.put, List.setIfInBounds_toArray, List.set_cons_zero, List.set_cons_succ]
        refine AnyH.one (i := 12) (by kernel_rfl) (by kernel_rfl) rfl HF (by rfl) (fun K hK => ?_)
        go_simp
        change K _ (wr.drew.alloc (.cells #[.string (L[j].extract 0 5)] 9))
        have B1 : Below wr.heap.size wr (wr.drew.alloc (.cells #[.string (L[j].extract 0 5)] 9)) := B0.alloc B0.size _
        refine hK _ _ B1 ?_
        clear hK K
        try simp only [Act.put, List.setIfInBounds_toArray, List.set_cons_zero, List.set_cons_succ]
        refine AnyH.tailL 13 (by kernel_rfl) ?_
        simp only [List.drop_succ_cons, List.drop_zero]
        have s0 := HS.out.below B0
        gi_wp2_with (
          gi_at_builtin
          refine wp_app1In (w0 := wr.drew) elemS (fun _ => rfl) rfl _ _ rfl rfl s0 (L[j].extract 0 5) rfl rfl (by simp [encS, Value.oneCell']) (by rw [hlj]; omega) (Below.trans HB.out (B0.mono HB.out.size)).size ?_
          intro v' w3 hS' hg hb'
          have HS3 := Lib.hid hS'; have HB3 := Lib.hid ((HB.out.trans (B0.mono HB.out.size)).trans hb')
          clear hS' hg hb')
        go_wp2_with fail
        go_roundw
        case rel => exact ⟨j + 1, by omega, by omega, by go_num, by rw [HSN.out, HV.out]; exact HS3.out, HB3.out⟩
        case measure => simp [intOf]; omega
    · have HR := Lib.hid HS.out
      by_cases h1 : j < L.length
      · have h60 : j = 60 := by omega
        have h2 : (j : Int) < (L.length : Int) := by omega
        have h3 : ¬ (j : Int) < 60 := by omega
        have h4 : decide ((j : Int) < 60) = false := decide_eq_false h3
        have HE : Hid ((L.take j).map shortS = shortL L) := Lib.hid (by rw [h60]; rfl)
        clear h60
        go_wp2_with fail
        go_ret
        exact ⟨_, rfl, by rw [← HE.out]; exact HS.out, HB.out⟩
      · have h2 : ¬ (j : Int) < (L.length : Int) := by omega
        have HE : Hid ((L.take j).map shortS = shortL L) := Lib.hid (by unfold shortL; rw [List.take_of_length_le (by omega), List.take_of_length_le (by omega)])
        go_wp2_with fail
        go_ret
        exact ⟨_, rfl, by rw [← HE.out]; exact HS.out, HB.out⟩
end Go.Proofs.Ytpgnhnimndagpaa
