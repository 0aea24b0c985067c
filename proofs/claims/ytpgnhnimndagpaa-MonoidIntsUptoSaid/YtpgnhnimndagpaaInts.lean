/- MonoidInts: the walk. -/
import Derived.Test.YtpgnhnimndagpaaAwakeM
import Derived.Test.YtpgnhnimndagpaaFoldA
import Derived.Test.YtpgnhnimndagpaaFoldX
import Derived.Test.YtpgnhnimndagpaaFold2B
namespace Go.Proofs.Ytpgnhnimndagpaa
open Go.RowKit
attribute [local go_sem] Oper.semAt_some

set_option maxRecDepth 100000 in
set_option maxHeartbeats 2000000 in
theorem sum_any {W : World} {v : Value} {L : List Int} (hL : RowAt (Value.int .i64) W v L) :
    Calls Try.prog 21 #[v] W fun e w' => e = .returned (.int .i64 (L.foldl addI 0)) ∧ Below W.heap.size W w' := by
  have H := Lib.hid hL
  obtain ⟨a, cap, rfl, hc1, hc2, -⟩ := hL
  unfold maxLen at hc2
  go_enter Try.func21, Try.ntmps21
  go_wp2_with fail
  go_loopw [3, 7] (fun s c wr => ∃ j : Nat, j ≤ L.length ∧ c = .int .i64 j ∧ s = .int .i64 ((L.take j).foldl addI 0) ∧ Below W.heap.size W wr) (fun _ c _ => L.length - (intOf c).toNat)
  case atStart => exact ⟨0, by omega, rfl, rfl, Below.refl _ _⟩
  case round =>
    obtain ⟨j, hj, rfl, rfl, hB⟩ := hrel
    have HB := Lib.hid hB; clear hB
    by_cases hlt : j < L.length
    · have hl3 : (j : Int) < (L.length : Int) := by omega
      have hl4 : (0 : Int) ≤ (j : Int) := by omega
      obtain ⟨b, c, hb, m1⟩ := H.out.at hlt
      simp only [Value.slice.injEq] at hb
      obtain ⟨rfl, -, rfl⟩ := hb
      have m1 := m1 wr HB.out
      have HS := Lib.hid (take_snoc addI 0 L j hlt)
      go_wp2_with fail
      go_roundw
      case rel => exact ⟨j + 1, by omega, by go_num, by rw [HS.out]; rfl, HB.out⟩
      case measure => simp [intOf]; omega
    · obtain rfl : j = L.length := by omega
      rw [List.take_length]
      go_wp2_with fail
      go_ret
      exact ⟨rfl, HB.out⟩
set_option maxRecDepth 100000 in
set_option maxHeartbeats 2000000 in
theorem greatest_any {W : World} {v : Value} {L : List Int} (hL : RowAt (Value.int .i64) W v L) :
    Calls Try.prog 22 #[v] W fun e w' => e = .returned (.int .i64 (L.foldl maxI (-9223372036854775808))) ∧ Below W.heap.size W w' := by
  have H := Lib.hid hL
  obtain ⟨a, cap, rfl, hc1, hc2, -⟩ := hL
  unfold maxLen at hc2
  go_enter Try.func22, Try.ntmps22
  go_wp2_with fail
  go_loopw [3, 7] (fun s c wr => ∃ j : Nat, j ≤ L.length ∧ c = .int .i64 j ∧ s = .int .i64 ((L.take j).foldl maxI (-9223372036854775808)) ∧ Below W.heap.size W wr) (fun _ c _ => L.length - (intOf c).toNat)
  case atStart => exact ⟨0, by omega, rfl, rfl, Below.refl _ _⟩
  case round =>
    obtain ⟨j, hj, rfl, rfl, hB⟩ := hrel
    have HB := Lib.hid hB; clear hB
    by_cases hlt : j < L.length
    · have hl3 : (j : Int) < (L.length : Int) := by omega
      have hl4 : (0 : Int) ≤ (j : Int) := by omega
      obtain ⟨b, c, hb, m1⟩ := H.out.at hlt
      simp only [Value.slice.injEq] at hb
      obtain ⟨rfl, -, rfl⟩ := hb
      have m1 := m1 wr HB.out
      have HS := Lib.hid (take_snoc maxI (-9223372036854775808) L j hlt)
      generalize hx : L[j] = x at *
      generalize hy : (L.take j).foldl maxI (-9223372036854775808) = y at *
      by_cases hxy : y < x
      · have HV : Hid (maxI y x = x) := Lib.hid (by unfold maxI; omega)
        clear hx hy
        go_wp2_with fail
        go_roundw
        case rel => exact ⟨j + 1, by omega, by go_num, by rw [HS.out, HV.out], HB.out⟩
        case measure => simp [intOf]; omega
      · have HV : Hid (maxI y x = y) := Lib.hid (by unfold maxI; omega)
        clear hx hy
        go_wp2_with fail
        go_roundw
        case rel => exact ⟨j + 1, by omega, by go_num, by rw [HS.out, HV.out], HB.out⟩
        case measure => simp [intOf]; omega
    · obtain rfl : j = L.length := by omega
      rw [List.take_length]
      go_wp2_with fail
      go_ret
      exact ⟨rfl, HB.out⟩

def inI (x : Int) : Prop := -9223372036854775808 ≤ x ∧ x ≤ 9223372036854775807
theorem foldA_eq {L : List Int} (h : ∀ x ∈ L, inI x) : fold1 addI 0 L = L.foldl addI 0 := by
  cases L with
  | nil => rfl
  | cons a L =>
    have ha := h a (List.mem_cons_self ..)
    simp only [fold1, List.foldl_cons]
    congr 1
    unfold inI at ha; unfold addI wrap64; omega
theorem foldX_eq {L : List Int} (h : ∀ x ∈ L, inI x) : fold1 maxI (-9223372036854775808) L = L.foldl maxI (-9223372036854775808) := by
  cases L with
  | nil => rfl
  | cons a L =>
    have ha := h a (List.mem_cons_self ..)
    simp only [fold1, List.foldl_cons]
    congr 1
    unfold inI at ha; unfold maxI; omega
theorem foldB_eq (L : List Int) : fold1 joinB (0, -9223372036854775808) (L.map fun x => (x, x)) = (fold1 addI 0 L, fold1 maxI (-9223372036854775808) L) := by
  have h : ∀ (L : List Int) (p : Int × Int), (L.map fun x => (x, x)).foldl joinB p = (L.foldl addI p.1, L.foldl maxI p.2) := by
    intro L
    induction L with
    | nil => intro p; rfl
    | cons a L ih => intro p; simp only [List.map_cons, List.foldl_cons]; rw [ih]; rfl
  cases L with
  | nil => rfl
  | cons a L => simp only [List.map_cons, fold1]; rw [h]
def encB (x : Int) : List Value := [.int .i64 x, .int .i64 x]
theorem elemB : Elem Try.prog 49 51 2 16 := elem_of (z := .agg #[.int .i64 0, .int .i64 0]) (by kernel_rfl) (by kernel_rfl) rfl (by decide) (by decide)
theorem SlA.row2 {B₀ : Nat} {W : World} {v : Value} {l : List Int} (h : SlA B₀ W 51 2 encB v l) : RowAt2 .i64 W v (l.map fun x => (x, x)) := by
  rcases h.shape with ⟨rfl, rfl⟩ | ⟨g, cap, rfl, h1, h2⟩
  · exact ⟨none, 0, rfl, by simp, by unfold maxLen; omega, fun i hi => by simp at hi⟩
  · refine ⟨_, cap, by rw [List.length_map], by rw [List.length_map]; exact h1, h2, fun i hi => ⟨_, rfl, ?_⟩⟩
    have hi' : i < l.length := by simpa using hi
    have e0 := SlA.cell (size := 2) (enc := encB) (fun _ => rfl) h hi' (j := 0) (by omega)
    have e1 := SlA.cell (size := 2) (enc := encB) (fun _ => rfl) h hi' (j := 1) (by omega)
    have e2 : (⟨g, 0, none⟩ : Addr).add (i * 2) = ⟨g, i * 2, none⟩ := by unfold Addr.add; split <;> simp_all
    rw [e2]
    simp only [List.getElem_map]
    exact ⟨by simpa [encB] using e0, by simpa [encB] using e1⟩

set_option maxRecDepth 100000 in
set_option maxHeartbeats 4000000 in
theorem ints_any {W : World} {v : Value} {L : List Int} (hL : RowAt (Value.int .i64) W v L) (hok : ∀ x ∈ L, inI x) (hn : L.length ≤ 1048576) :
    Calls Try.prog 6 #[v] W fun e w' => e = .returned (.bool true) ∧ Below W.heap.size W w' := by
  have HF : ∀ f, Fence.wide.fn f := fun _ => trivial
  have H := Lib.hid hL; have HOK := Lib.hid hok
  obtain ⟨a, cap, rfl, hc1, hc2, -⟩ := hL
  unfold maxLen at hc2
  have HLN := Lib.hid hn
  clear hok hn
  go_enter Try.func6, Try.ntmps6
  go_wp2_with fail
  refine (awake_any _).mono ?_; rintro e w1 ⟨rfl, b1⟩
  have HB1 := Lib.hid b1; have H1 := Lib.hid (H.out.below b1); clear b1
  go_wp2_with fail
  refine (A.fold_any H1.out (fun _ _ _ _ _ => True.intro)).mono ?_; rintro e w2 ⟨rfl, b2⟩
  have HB2 := Lib.hid (Below.step HB1.out b2); have H2 := Lib.hid (H1.out.below b2); clear b2
  rw [foldA_eq HOK.out]
  go_wp2_with fail
  refine (X.fold_any H2.out (fun _ _ _ _ _ => True.intro)).mono ?_; rintro e w3 ⟨rfl, b3⟩
  have HB3 := Lib.hid (Below.step HB2.out b3); have H3 := Lib.hid (H2.out.below b3); clear b3
  rw [foldX_eq HOK.out]
  obtain ⟨w4, hw4⟩ : ∃ w4, w3.alloc (.cells #[] 48) = w4 := ⟨_, rfl⟩
  have hb4 : Below w3.heap.size w3 w4 := by rw [← hw4]; exact (Below.refl _ _).alloc (Nat.le_refl _) _
  have HB4 := Lib.hid (Below.step HB3.out hb4); have H4 := Lib.hid (H3.out.below hb4)
  clear hb4
  go_wp2_with fail
  clear hw4
  go_loopw [6, 20] (fun s c wr => ∃ j : Nat, j ≤ L.length ∧ c = .int .i64 j ∧ SlA w4.heap.size wr 51 2 encB s (L.take j) ∧ Below w4.heap.size w4 wr) (fun _ c _ => L.length - (intOf c).toNat)
  case atStart => exact ⟨0, by omega, rfl, SlA.nil _ _ _ _ _, Below.refl _ _⟩
  case round =>
    obtain ⟨j, hj, rfl, hS, hB⟩ := hrel
    have HS := Lib.hid hS; have HB := Lib.hid hB; clear hS hB
    by_cases hlt : j < L.length
    · have hl3 : (j : Int) < (L.length : Int) := by omega
      have hl4 : (0 : Int) ≤ (j : Int) := by omega
      obtain ⟨b, c, hb, m1⟩ := H4.out.at hlt
      simp only [Value.slice.injEq] at hb
      obtain ⟨rfl, -, rfl⟩ := hb
      have m1 := m1 wr HB.out
      have HSN : Hid (L.take (j + 1) = L.take j ++ [L[j]]) := Lib.hid (List.take_succ_eq_append_getElem hlt)
      have hlj : (L.take j).length = j := by rw [List.length_take]; omega
      obtain ⟨a1, c1, hv⟩ := HS.out.len
      rw [hlj] at hv
      subst hv
      generalize L[j] = x at *
      go_wp2_with (
        at_builtin
        refine wp_app1G (w0 := wr) elemB (fun _ => rfl) rfl _ _ rfl rfl HS.out x rfl rfl (by simp [encB, Value.oneCell']) (by have := HLN.out; rw [hlj]; omega) HB.out.size ?_
        intro v' w5 hS' hg hb'
        have HS5 := Lib.hid hS'; have HB5 := Lib.hid (HB.out.trans hb')
        clear hS' hg hb')
      go_roundw
      case rel => exact ⟨j + 1, by omega, by go_num, by rw [HSN.out]; exact HS5.out, HB5.out⟩
      case measure => simp [intOf]; omega
    · obtain rfl : j = L.length := by omega
      rw [List.take_length] at HS
      obtain ⟨a1, c1, hv⟩ := HS.out.len
      subst hv
      have HR := Lib.hid (SlA.row2 HS.out); have H5 := Lib.hid (H4.out.below HB.out); have HB5 := Lib.hid (Below.step HB4.out HB.out)
      clear HS HB
      go_wp2_with fail
      refine (sum_any H5.out).mono ?_; rintro e w6 ⟨rfl, b6⟩
      have HB6 := Lib.hid (Below.step HB5.out b6); have H6 := Lib.hid (H5.out.below b6); have HR6 := Lib.hid (HR.out.below b6); clear b6
      go_wp2_with fail
      refine (greatest_any H6.out).mono ?_; rintro e w7 ⟨rfl, b7⟩
      have HB7 := Lib.hid (Below.step HB6.out b7); have HR7 := Lib.hid (HR6.out.below b7); clear b7
      go_wp2_with fail
      refine (B.fold_any HR7.out).mono ?_; rintro e w8 ⟨rfl, b8⟩
      have HB8 := Lib.hid (Below.step HB7.out b8); clear b8
      rw [foldB_eq, foldA_eq HOK.out, foldX_eq HOK.out]
      go_wp2_with fail
      go_ret
      exact ⟨rfl, HB8.out⟩
end Go.Proofs.Ytpgnhnimndagpaa
