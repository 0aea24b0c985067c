/- The reference's Map, for anchors of both gravities. -/
import Derived.Test.YtplccefjljdjnaaRefM
set_option linter.unusedVariables false
set_option linter.unusedSimpArgs false
namespace Go.Proofs.Ytplccefjljdjnaa
open Go.RowKit Go.Lib
namespace M
attribute [local go_sem] Oper.semAt_some
set_option maxRecDepth 100000 in
set_option maxHeartbeats 2000000 in
theorem refMapE_any {b0 : Nat} {W : World} {E : List En} {v : Value} {L : List Chg} (hR : Rcs b0 W v (L.map (rcOf E))) (h0 : ∀ c ∈ L, (c.id = 0 ↔ txt E c.id = [])) (hLb : L.length ≤ 1000) (htb : ∀ c ∈ L, (txt E c.id).length ≤ 1000000) {len : Int} (hok : (lngF E len L).2 = 0) :
    Calls Try.prog 22 #[.int .i64 len, v, .int .i64 len, .bool true] W fun e w' => e = .returned (.tuple #[.int .i64 (lngF E len L).1, .bool true]) ∧ Below W.heap.size W w' := by
  obtain ⟨o1, o2, o3, -, -⟩ := lngF_ok hok
  have HLN := Lib.hid (refLength_any hR h0 hLb htb len)
  obtain ⟨va, vc, rfl⟩ := hR.len
  rw [List.length_map] at HLN ⊢
  obtain ⟨nl, hnl⟩ : ∃ n, lngF E len L = n := ⟨_, rfl⟩
  rw [hnl] at HLN ⊢
  have hyn : ¬ len < 0 := by omega
  clear hok o3 hnl hR h0 htb
  go_enter Try.func22, Try.ntmps22
  go_wp2_with fail
  refine HLN.out.mono ?_
  rintro e w1 ⟨rfl, b1⟩
  have B1 := Lib.hid b1
  clear b1
  go_wp2_with fail
  go_ret2
  exact ⟨rfl, B1.out⟩
set_option maxRecDepth 100000 in
set_option maxHeartbeats 2000000 in
theorem refMapZ_any {W : World} {a : Option Addr} {n cap : Nat} (len : Int) :
    Calls Try.prog 22 #[.int .i64 len, .slice a n cap, .int .i64 0, .bool false] W fun e w' => e = .returned (.tuple #[.int .i64 0, .bool true]) ∧ w' = W := by
  have hw : IntKind.i64.wrap (0 - 1) = -1 := by rw [IntKind.wrap_i64]; omega
  go_enter Try.func22, Try.ntmps22
  go_wp2_with fail
  go_ret2
  exact ⟨rfl, rfl⟩
/-- The reference's Map answers where an anchor goes. -/
theorem refMap_any {b0 : Nat} {W : World} {E : List En} {v : Value} {L : List Chg} (hR : Rcs b0 W v (L.map (rcOf E))) (h0 : ∀ c ∈ L, (c.id = 0 ↔ txt E c.id = [])) (hLb : L.length ≤ 1000) (htb : ∀ c ∈ L, (txt E c.id).length ≤ 1000000) {len x : Int} (hx : 0 ≤ x ∧ x ≤ len) (hok : (lngF E len L).2 = 0) (r : Bool) :
    Calls Try.prog 22 #[.int .i64 len, v, .int .i64 x, .bool r] W fun e w' => e = .returned (.tuple #[.int .i64 (ancF (mvsF E 0 L) (lngF E len L).1 len x r).1, .bool (ancF (mvsF E 0 L) (lngF E len L).1 len x r).2]) ∧ Below W.heap.size W w' := by
  obtain ⟨o1, o2, o3, -, -⟩ := lngF_ok hok
  cases r with
  | true =>
    rw [anc_R o3]
    by_cases h : x = len
    · rw [if_pos h, h]; exact refMapE_any hR h0 hLb htb hok
    · rw [if_neg h]
      exact refMapR_any (x := x + 1) hR hLb ⟨hx.1, by omega⟩ (by omega) hok
  | false =>
    rw [anc_L o3]
    by_cases h : x = 0
    · rw [if_pos h, h]
      obtain ⟨a, c, rfl⟩ := hR.len
      refine (refMapZ_any len).mono ?_
      rintro e w ⟨rfl, rfl⟩
      exact ⟨rfl, Below.refl _ _⟩
    · rw [if_neg h]
      exact refMapL_any (x := x) hR hLb ⟨by omega, by omega⟩ rfl hok
end M
end Go.Proofs.Ytplccefjljdjnaa
