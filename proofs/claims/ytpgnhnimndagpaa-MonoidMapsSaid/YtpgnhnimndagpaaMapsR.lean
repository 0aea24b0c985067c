/- The reference's maps: Valid, Apply, Compose. -/
import Derived.Test.YtpgnhnimndagpaaMaps0
import Derived.Test.YtpgnhnimndagpaaSlices
import Derived.Test.YtpgnhnimndagpaaMake
namespace Go.Proofs.Ytpgnhnimndagpaa
open Go.RowKit

def applyL (m : Nat) (f : List Int) (x : Int) : Int := if validL m f then f.getD x.toNat 0 else x
def compL (m : Nat) (Ls : List (List Int)) : List Int := (List.range m).map fun i : Nat => Ls.foldl (fun x f => applyL m f x) (i : Int)
theorem applyL_in {m : Nat} (f : List Int) {x : Int} (h : 0 ≤ x ∧ x < (m : Int)) : 0 ≤ applyL m f x ∧ applyL m f x < (m : Int) := by
  unfold applyL
  split
  · rename_i hv
    have : x.toNat < f.length := by rw [hv.1]; omega
    rw [List.getD_eq_getElem?_getD, List.getElem?_eq_getElem this]
    exact hv.2 _ (List.getElem_mem this)
  · exact h
theorem foldA_in {m : Nat} : ∀ (Ls : List (List Int)) {x : Int}, (0 ≤ x ∧ x < (m : Int)) → 0 ≤ Ls.foldl (fun x f => applyL m f x) x ∧ Ls.foldl (fun x f => applyL m f x) x < (m : Int)
  | [], _, h => h
  | f :: Ls, _, h => foldA_in Ls (applyL_in f h)
theorem join_valid {m : Nat} {r f : List Int} (hr : validL m r) : joinL m r f = r.map (applyL m f) ∧ validL m (joinL m r f) := by
  unfold joinL
  rw [if_pos hr]
  refine ⟨?_, thenL_valid hr⟩
  unfold thenL applyL
  by_cases h : validL m f
  · simp [h]
  · simp [h]
theorem fold_join {m : Nat} : ∀ (Ls : List (List Int)) {r : List Int}, validL m r → Ls.foldl (joinL m) r = r.map (fun x => Ls.foldl (fun x f => applyL m f x) x)
  | [], r, _ => by simp
  | f :: Ls, r, h => by
    obtain ⟨h1, h2⟩ := join_valid (f := f) h
    rw [List.foldl_cons, fold_join Ls h2, h1, List.map_map]
    rfl
theorem fold_comp (m : Nat) (Ls : List (List Int)) : Ls.foldl (joinL m) (idL m) = compL m Ls := by
  rw [fold_join Ls (idL_valid m)]
  simp [compL, idL]
theorem id_join {m : Nat} {f : List Int} (h : validL m f) : joinL m (idL m) f = f := by
  rw [(join_valid (idL_valid m)).1]
  apply List.ext_getElem
  · simp [idL_len, h.1]
  · intro i h1 h2
    simp only [idL, List.getElem_map, List.getElem_range, applyL, if_pos h, Int.toNat_natCast]
    rw [List.getD_eq_getElem?_getD, List.getElem?_eq_getElem h2]; rfl
theorem fold1_comp {m : Nat} {Ls : List (List Int)} (h : ∀ f ∈ Ls, validL m f) : fold1 (joinL m) (idL m) Ls = compL m Ls := by
  cases Ls with
  | nil => rw [← fold_comp]; rfl
  | cons f Ls =>
    rw [← fold_comp, List.foldl_cons, id_join (h f (List.mem_cons_self ..))]
    rfl

set_option maxRecDepth 100000 in
set_option maxHeartbeats 2000000 in
theorem ref_valid {W : World} {v : Value} {f : List Int} (hL : RowAt (Value.int .i64) W v f) {n : Int} {m : Nat} (hm : (n = m ∧ 0 < m) ∨ (n ≤ 0 ∧ m = 0)) (hn0 : -9223372036854775808 ≤ n) (hm2 : m ≤ 1000000) :
    Calls Try.prog 30 #[v, .int .i64 n] W fun e w' => e = .returned (.bool (decide (validL m f))) ∧ Below W.heap.size W w' := by
  have H := Lib.hid hL
  obtain ⟨a, cap, rfl, hc1, hc2, -⟩ := hL
  unfold maxLen at hc2
  have hcase : (0 < n ∧ n = m) ∨ (¬ 0 < n ∧ n < 0 ∧ m = 0) ∨ (n = 0 ∧ m = 0) := by omega
  clear hm
  by_cases hlen : f.length = m
  · rcases hcase with ⟨h0, rfl⟩ | ⟨h0, h1, rfl⟩ | ⟨rfl, rfl⟩
    · have hl0 : ((f.length : Int) != (m : Int)) = false := by rw [hlen]; simp
      have HLEN := Lib.hid hlen
      have hml : (m : Int) ≤ (f.length : Int) := by omega
      have hml2 : (f.length : Int) ≤ (m : Int) := by omega
      clear hlen
      go_enter Try.func30, Try.ntmps30
      go_wp2_with fail
      go_loopw [13] (fun c wr => ∃ j : Nat, j ≤ f.length ∧ c = .int .i64 j ∧ (∀ (i : Nat) (h : i < f.length), i < j → 0 ≤ f[i] ∧ f[i] < (m : Int)) ∧ Below W.heap.size W wr) (fun c _ => f.length - (intOf c).toNat)
      case atStart => exact ⟨0, by omega, rfl, fun i h h2 => by omega, Below.refl _ _⟩
      case round =>
        obtain ⟨j, hj, rfl, hall, hB⟩ := hrel
        have HB := Lib.hid hB; have HALL := Lib.hid hall
        clear hB hall
        by_cases hlt : j < f.length
        · have hl3 : (j : Int) < (f.length : Int) := by omega
          have hl4 : (0 : Int) ≤ (j : Int) := by omega
          obtain ⟨b, c, hb, m1⟩ := H.out.at hlt
          simp only [Value.slice.injEq] at hb
          obtain ⟨rfl, -, rfl⟩ := hb
          have m1 := m1 wr HB.out
          obtain ⟨x, hx⟩ : ∃ x, f[j] = x := ⟨_, rfl⟩
          rw [hx] at m1
          have HX := Lib.hid hx
          clear hx
          by_cases hx0 : x < 0
          · go_wp2_with fail
            go_ret
            have hv : decide (validL m f) = false := decide_eq_false fun hv => by
              have := (hv.2 _ (List.getElem_mem hlt)).1
              rw [HX.out] at this; omega
            exact ⟨by rw [hv]; rfl, HB.out⟩
          · by_cases hx1 : (m : Int) ≤ x
            · go_wp2_with fail
              go_ret
              have hv : decide (validL m f) = false := decide_eq_false fun hv => by
                have := (hv.2 _ (List.getElem_mem hlt)).2
                rw [HX.out] at this; omega
              exact ⟨by rw [hv]; rfl, HB.out⟩
            · go_wp2_with fail
              go_roundw
              case rel =>
                refine ⟨j + 1, by omega, by go_num, fun i hi h2 => ?_, HB.out⟩
                by_cases e : i = j
                · subst e; rw [HX.out]; omega
                · exact HALL.out i hi (by omega)
              case measure => simp [intOf]; omega
        · obtain rfl : j = f.length := by omega
          go_wp2_with fail
          go_ret
          have hv : decide (validL m f) = true := decide_eq_true ⟨HLEN.out, fun x hx => by
            obtain ⟨i, hi, rfl⟩ := List.mem_iff_getElem.1 hx
            exact HALL.out i hi hi⟩
          exact ⟨by rw [hv]; rfl, HB.out⟩
    all_goals
      obtain rfl : f = [] := List.eq_nil_of_length_eq_zero hlen
      have hv : decide (validL 0 ([] : List Int)) = true := by rw [decide_eq_true]; exact ⟨rfl, fun x hx => by cases hx⟩
      have HV := Lib.hid hv
      clear hv
      simp only [List.length_nil] at *
      go_enter Try.func30, Try.ntmps30
      go_wp2_with fail
      refine wp_loop_rounds 1 ?_
      rw [rounds_succ]
      go_wp2_with fail
      go_ret
      exact ⟨by rw [HV.out]; rfl, Below.refl _ _⟩
  · have hv : decide (validL m f) = false := by rw [decide_eq_false]; exact fun h => hlen h.1
    have HV := Lib.hid hv
    clear hv
    rcases hcase with ⟨h0, rfl⟩ | ⟨h0, h1, rfl⟩ | ⟨rfl, rfl⟩
    · have hl0 : ((f.length : Int) != (m : Int)) = true := by simp; omega
      go_enter Try.func30, Try.ntmps30
      go_wp2_with fail
      go_ret
      exact ⟨by rw [HV.out]; rfl, Below.refl _ _⟩
    all_goals
      have hl0 : ((f.length : Int) != 0) = true := by simp; intro e; exact hlen (by rw [e]; rfl)
      go_enter Try.func30, Try.ntmps30
      go_wp2_with fail
      go_ret
      exact ⟨by rw [HV.out]; rfl, Below.refl _ _⟩

set_option maxRecDepth 100000 in
theorem ref_apply {W : World} {v : Value} {f : List Int} (hL : RowAt (Value.int .i64) W v f) {n : Int} {m : Nat} (hm : (n = m ∧ 0 < m) ∨ (n ≤ 0 ∧ m = 0)) (hn0 : -9223372036854775808 ≤ n) (hm2 : m ≤ 1000000) {x : Int} (hx : 0 ≤ x ∧ x < (m : Int)) :
    Calls Try.prog 50 #[v, .int .i64 n, .int .i64 x] W fun e w' => e = .returned (.int .i64 (applyL m f x)) ∧ Below W.heap.size W w' := by
  have H := Lib.hid hL; have HM := Lib.hid hm; have HX := Lib.hid hx
  obtain ⟨a, cap, rfl, hc1, hc2, -⟩ := hL
  clear hm hx
  go_enter Try.func50, Try.ntmps50
  go_wp2_with fail
  refine (ref_valid H.out HM.out hn0 hm2).mono ?_
  rintro e w1 ⟨rfl, b1⟩
  have HB1 := Lib.hid b1
  clear b1
  by_cases hv : validL m f
  · have hd : decide (validL m f) = true := decide_eq_true hv
    obtain ⟨k, rfl⟩ : ∃ k : Nat, x = (k : Int) := ⟨x.toNat, by have := HX.out; omega⟩
    have hk : k < f.length := by rw [hv.1]; have := HX.out; omega
    have HE : Hid (applyL m f (k : Int) = f[k]) := Lib.hid (by
      unfold applyL; rw [if_pos hv, Int.toNat_natCast, List.getD_eq_getElem?_getD, List.getElem?_eq_getElem hk]; rfl)
    rw [hd]
    obtain ⟨b, c, hb, m1⟩ := H.out.at hk
    simp only [Value.slice.injEq] at hb
    obtain ⟨rfl, -, rfl⟩ := hb
    have m1 := m1 w1 HB1.out
    have hk3 : (k : Int) < (f.length : Int) := by omega
    have hk4 : (0 : Int) ≤ (k : Int) := by omega
    clear hd hv
    go_wp2_with fail
    go_ret
    exact ⟨by rw [HE.out]; rfl, HB1.out⟩
  · have hd : decide (validL m f) = false := decide_eq_false hv
    have HE : Hid (applyL m f x = x) := Lib.hid (by unfold applyL; rw [if_neg hv])
    rw [hd]
    clear hd hv
    go_wp2_with fail
    go_ret
    exact ⟨by rw [HE.out]; rfl, HB1.out⟩
end Go.Proofs.Ytpgnhnimndagpaa
