/- Numbers as keys, whatever the value holds. -/
import Derived.Test.YtdgclambplipnaaKeyOrd
namespace Go.Proofs.Ytdgclambplipnaa
open Go.RowKit
set_option maxRecDepth 100000 in
set_option maxHeartbeats 1600000 in
theorem word_all (n : Int) (W : World) : Calls Try.prog 25 #[.int .u64 n] W fun e w' => e = .returned (.string (wordB n)) ∧ Below W.heap.size W w' := by
  go_enter Try.func25, Try.ntmps25
  go_wp2_with fail
  go_loopw [3, 4] (fun out c wr => ∃ j : Nat, j ≤ 8 ∧ c = .int .i64 (7 - j) ∧ SlA W.heap.size wr 5 1 enc8 out ((wordL n).take j) ∧ Below W.heap.size W wr) (fun _ c _ => (intOf c + 1).toNat)
  case atStart => exact ⟨0, by omega, rfl, SlA.nil _ _ _ _ _, Below.refl _ _⟩
  case round =>
    obtain ⟨j, hj, rfl, hO, hB⟩ := hrel
    have HO := Lib.hid hO; have HB := Lib.hid hB; clear hO hB
    by_cases hlt : j < 8
    · have hs : (wordL n).take (j + 1) = (wordL n).take j ++ [n / 2 ^ (8 * (7 - j)) % 256] := by
        have : j < (wordL n).length := by simpa [wordL] using hlt
        rw [List.take_succ_eq_append_getElem this]; simp [wordL]
      have HS := Lib.hid hs; clear hs
      have hl : ((wordL n).take j).length ≤ 8 := by rw [List.length_take]; omega
      go_wp2_with (at_builtin; refine wp_app1 elem8 enc8_len rfl _ _ rfl rfl HO.out _ rfl rfl ?c1 ?c2 HB.out.size ?_)
      case c1 => intro u hu; simp only [enc8, List.mem_singleton] at hu; subst hu; rfl
      case c2 => omega
      intro v' w' hO2 hB2
      have HO2 := Lib.hid hO2; have HB2 := Lib.hid (HB.out.trans hB2)
      clear hO2 hB2
      go_wp2_with fail
      go_roundw
      case rel => exact ⟨j + 1, by omega, by go_num, by rw [HS.out]; exact HO2.out, HB2.out⟩
      case measure => simp [intOf]; omega
    · obtain rfl : j = 8 := by omega
      have hO := HO.out
      have hl8 : (wordL n).length = 8 := rfl
      rw [List.take_of_length_le (by rw [hl8]; omega)] at hO
      obtain ⟨g, cap, hv, -⟩ : ∃ g cap, u3 = .slice (some ⟨g, 0, none⟩) 8 cap ∧ True := by
        rcases hO.shape with ⟨-, h⟩ | ⟨g, cap, h, -⟩
        · cases h
        · exact ⟨g, cap, h, trivial⟩
      subst hv
      have hcv := run_convert_bytes_arg (P := Try.prog) (w := wr) 112 5 Try.underlying112 Try.underlying5 g 0 8 cap (wordL n) rfl (fun i hi => by
        have := SlA.cell enc8_len hO (i := i) (by rw [hl8]; exact hi) (j := 0) (by omega)
        simp only [Nat.mul_one, Nat.add_zero] at this
        rw [Nat.zero_add, this]
        simp [enc8, List.getD, hl8, hi]) 9 Try.underlying9
      clear hO HO hl8
      go_wp2_with fail
      go_ret
      exact ⟨rfl, HB.out⟩

theorem int_all (n : Int) (W : World) : Calls Try.prog 17 #[.int .i64 n] W fun e w' => e = .returned (.string (wordB (bits .xor .u64 (IntKind.u64.wrap n) 9223372036854775808))) ∧ Below W.heap.size W w' := by
  have HW := Lib.hid (fun n => word_all n W)
  go_enter Try.func17, Try.ntmps17
  go_wp2_with fail
  refine (HW.out _).mono ?_; rintro e w' ⟨rfl, hB⟩
  go_wp2_with fail
  go_ret
  exact ⟨rfl, hB⟩
end Go.Proofs.Ytdgclambplipnaa
