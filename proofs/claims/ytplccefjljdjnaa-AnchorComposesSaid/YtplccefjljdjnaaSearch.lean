/- sort.Search, for any function that steps over once. -/
import Derived.Test.YtplccefjljdjnaaDep
import Derived.Test.YtplccefjljdjnaaCom
set_option linter.unusedVariables false
set_option linter.unusedSimpArgs false
namespace Go.Proofs.Ytplccefjljdjnaa
open Go.RowKit Go.Lib
namespace M
attribute [local go_sem] Oper.semAt_some
set_option maxRecDepth 100000 in
set_option maxHeartbeats 4000000 in
theorem search_any (F : FuncId) (hcf : ∀ (args : Array Value) (w : World), (callFunc F args).run Try.prog w = .ok (.enter F args) w) (c1 c2 : Value) (I : World → Prop) {W : World} {n : Nat} (hn : n ≤ 1000000) (pr : Nat → Bool) (hmono : ∀ i j, i ≤ j → pr i = true → pr j = true)
    (hI : ∀ w w', I w → Below w.heap.size w w' → I w') (hV : ∀ w i, I w → i < n → Calls Try.prog F #[.int .i64 (i : Nat), c1, c2] w fun e w' => e = .returned (.bool (pr i)) ∧ Below w.heap.size w w') (h0 : I W) :
    Calls Try.prog 48 #[.int .i64 n, .func (.func F) #[] #[c1, c2]] W fun e w' => ∃ k : Nat, e = .returned (.int .i64 k) ∧ k ≤ n ∧ (∀ i, i < k → pr i = false) ∧ (∀ i, k ≤ i → i < n → pr i = true) ∧ Below W.heap.size W w' := by
  have HM := Lib.hid hmono; have HI := Lib.hid hI; have HV := Lib.hid hV; have H0 := Lib.hid h0
  clear hmono hI hV h0
  go_enter Try.func48, Try.ntmps48
  go_wp2_with fail
  go_loopw [5, 6] (fun iv jv wr => ∃ i j : Nat, iv = .int .i64 i ∧ jv = .int .i64 j ∧ i ≤ j ∧ j ≤ n ∧ (∀ x, x < i → pr x = false) ∧ (∀ x, j ≤ x → x < n → pr x = true) ∧ I wr ∧ Below W.heap.size W wr) (fun iv jv _ => (intOf jv).toNat - (intOf iv).toNat)
  case atStart => exact ⟨0, n, rfl, rfl, Nat.zero_le _, Nat.le_refl _, fun x hx => by omega, fun x h1 h2 => by omega, H0.out, Below.refl _ _⟩
  case round =>
    clear H0
    obtain ⟨i, j, rfl, rfl, hij, hjn, hlo, hhi, hIw, hB⟩ := hrel
    have HLO := Lib.hid hlo; have HHI := Lib.hid hhi; have HIW := Lib.hid hIw; have HB := Lib.hid hB
    clear hlo hhi hIw hB
    by_cases hlt : i < j
    · have hlt2 : (i : Int) < (j : Int) := by omega
      obtain ⟨h, hh⟩ : ∃ h, (i + j) / 2 = h := ⟨_, rfl⟩
      have hb : i ≤ h ∧ h < j := by omega
      have w1 : IntKind.i64.wrap ((i : Int) + (j : Int)) = ((i + j : Nat) : Int) := by rw [IntKind.wrap_i64]; omega
      obtain ⟨s, hs⟩ : ∃ s, i + j = s := ⟨_, rfl⟩
      rw [hs] at w1 hh
      have w2 : IntKind.u64.wrap (s : Int) = (s : Int) := by simp [IntKind.wrap, IntKind.bits, IntKind.signed]; omega
      have w3 : IntKind.i64.wrap (h : Int) = (h : Int) := by rw [IntKind.wrap_i64]; omega
      have w4 : IntKind.u64.wrap (h : Int) = (h : Int) := by simp [IntKind.wrap, IntKind.bits, IntKind.signed]; omega
      have hsh : (s : Int) / 2 = (h : Int) := by omega
      have HC := Lib.hid (HV.out wr h HIW.out (by omega))
      obtain ⟨b, hbb⟩ : ∃ b, pr h = b := ⟨_, rfl⟩
      rw [hbb] at HC
      have HBB := Lib.hid hbb
      clear hbb hs hh
      cases b with
      | true =>
        go_wp2_with fail
        refine HC.out.mono ?_; rintro e w2 ⟨rfl, b2⟩
        have HB2 := Lib.hid (HB.out.trans (b2.mono HB.out.size)); have HI2 := Lib.hid (HI.out _ _ HIW.out b2)
        clear b2 HC
        go_wp2_with fail
        go_roundw
        case rel => exact ⟨i, h, rfl, rfl, hb.1, by omega, HLO.out, fun x h1 h2 => HM.out h x h1 HBB.out, HI2.out, HB2.out⟩
        case measure => first | (simp [intOf]; omega) | simp [intOf]
      | false =>
        have HL2 : Hid (∀ x, x < h + 1 → pr x = false) := Lib.hid (by
          intro x hx
          cases hp : pr x with
          | false => rfl
          | true =>
            have h1 := HM.out x h (by omega) hp
            rw [HBB.out] at h1
            cases h1)
        go_wp2_with fail
        refine HC.out.mono ?_; rintro e w2 ⟨rfl, b2⟩
        have HB2 := Lib.hid (HB.out.trans (b2.mono HB.out.size)); have HI2 := Lib.hid (HI.out _ _ HIW.out b2)
        clear b2 HC
        go_wp2_with fail
        go_roundw
        case rel => exact ⟨h + 1, j, by go_num, rfl, by omega, hjn, HL2.out, HHI.out, HI2.out, HB2.out⟩
        case measure => first | (simp [intOf]; omega) | simp [intOf]
    · have hlt2 : ¬ (i : Int) < (j : Int) := by omega
      obtain rfl : i = j := by omega
      clear hlt
      go_wp2_with fail
      go_ret
      exact ⟨i, rfl, hjn, HLO.out, HHI.out, HB.out⟩
end M
end Go.Proofs.Ytplccefjljdjnaa
