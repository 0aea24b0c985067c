/- walk.unseen: the first reference of a rule that is not in a set of bits. -/
import Derived.Test.YtpjcfepngjpfbaaOrdP
import Derived.Test.YtpjcfepngjpfbaaAcc
import Derived.Test.YtpjcfepngjpfbaaCom
set_option linter.unusedVariables false
set_option linter.unusedSimpArgs false
namespace Go.Proofs.Ytpjcfepngjpfbaa
open Go.RowKit Go.Lib
namespace M
attribute [local go_sem] Oper.semAt_some
/-- Words of bits: the set S. -/
abbrev SnW (W : World) (g m : Nat) (S : List Nat) : Prop := Arr (fun n : Nat => Value.int .u64 n) 84 W g m (fun _ => True) (wdS S)
theorem SnW.keep {A C : World} {g m : Nat} {S : List Nat} (h : SnW A g m S) (hk : ∀ (cs : Array Value) (t : TypeId) (fz : Nat × Nat), A.heap[g]? = some (.cells cs t fz) → C.heap[g]? = some (.cells cs t fz)) : SnW C g m S := by
  obtain ⟨cs, h1, h2, h3⟩ := h
  exact ⟨cs, hk _ _ _ h1, h2, h3⟩
theorem SnW.keepT {A C : World} {g m : Nat} {S : List Nat} (h : SnW A g m S) (hk : ∀ (b : Nat) (cs : Array Value) (fz : Nat × Nat), A.heap[b]? = some (.cells cs 84 fz) → C.heap[b]? = some (.cells cs 84 fz)) : SnW C g m S := by
  obtain ⟨cs, h1, h2, h3⟩ := h
  exact ⟨cs, hk _ _ _ h1, h2, h3⟩
theorem SnW.add {W : World} {g m : Nat} {S : List Nat} (h : SnW W g m S) (x : Nat) : SnW (W.setCell ⟨g, x / 64, none⟩ (.int .u64 ((wdS S (x / 64) ||| 2 ^ (x % 64) : Nat) : Int))) g m (S ++ [x]) := by
  obtain ⟨cs, h1, h2, h3⟩ := h
  refine ⟨_, heap_set _ h1, by simp [h2], fun k hk hd => ?_⟩
  rw [wdS_snoc]
  by_cases e : x / 64 = k
  · subst e; rw [Array.getElem?_setIfInBounds_self_of_lt (by omega), if_pos rfl]
  · rw [Array.getElem?_setIfInBounds_ne e, if_neg e]; exact h3 k hk hd
theorem fdiv_shr (a : Nat) {s : Nat} (hs : s < 64) : ((a : Int)).fdiv (2 ^ (min (s : Int).toNat IntKind.u64.bits)) = ((a >>> s : Nat) : Int) := by
  have h1 : min (s : Int).toNat IntKind.u64.bits = s := by
    show min s 64 = s
    omega
  rw [h1, Nat.shiftRight_eq_div_pow]
  rw [Int.fdiv_eq_ediv_of_nonneg _ (by exact_mod_cast Nat.zero_le (2 ^ s))]
  exact_mod_cast (Int.natCast_ediv a (2 ^ s)).symm
theorem div_shr (a s : Nat) : (a : Int) / 2 ^ s = ((a >>> s : Nat) : Int) := by
  rw [Nat.shiftRight_eq_div_pow]
  exact_mod_cast (Int.natCast_ediv a (2 ^ s)).symm
theorem shr_run (P : Program) (w : World) (a : Nat) {s : Nat} (hs : s < 64) : (Op.shift .shr .u64 (a : Int) .i64 (s : Int)).run P w = .ok (.int .u64 ((a >>> s : Nat) : Int)) w := by
  have h : Op.shift .shr .u64 (a : Int) .i64 (s : Int) = pure (.int .u64 ((a : Int).fdiv (2 ^ (min (s : Int).toNat IntKind.u64.bits)))) := by
    unfold Op.shift
    rw [if_neg (by omega)]
  rw [h, fdiv_shr a hs]
  rfl
theorem and_one {a : Nat} (ha : a < 2 ^ 64) : bits .and .u64 (a : Int) 1 = ((a &&& 1 : Nat) : Int) := by
  have e : bits .and .u64 (a : Int) 1 = IntKind.u64.wrap ((BitVec.ofInt 64 (a : Int) &&& BitVec.ofInt 64 1).toNat : Int) := rfl
  rw [e, BitVec.toNat_and]
  have h1 : (BitVec.ofInt 64 (a : Int)).toNat = a := by rw [BitVec.ofInt_natCast, BitVec.toNat_ofNat, Nat.mod_eq_of_lt ha]
  rw [h1]
  have h2 : (BitVec.ofInt 64 1).toNat = 1 := rfl
  rw [h2]
  have h3 := Nat.and_lt_two_pow (n := 1) a (show 1 < 2 ^ 1 by decide)
  rw [IntKind.wrap_u64]; omega
theorem or_u64 {a b : Nat} (ha : a < 2 ^ 64) (hb : b < 2 ^ 64) : bits .or .u64 (a : Int) (b : Int) = ((a ||| b : Nat) : Int) := by
  have e : bits .or .u64 (a : Int) (b : Int) = IntKind.u64.wrap ((BitVec.ofInt 64 (a : Int) ||| BitVec.ofInt 64 (b : Int)).toNat : Int) := rfl
  rw [e, BitVec.toNat_or, BitVec.ofInt_natCast, BitVec.ofInt_natCast, BitVec.toNat_ofNat, BitVec.toNat_ofNat, Nat.mod_eq_of_lt ha, Nat.mod_eq_of_lt hb]
  have h3 := Nat.or_lt_two_pow ha hb
  rw [IntKind.wrap_u64]; omega
theorem shl_one {s : Nat} (hs : s < 64) : IntKind.u64.wrap (1 * 2 ^ (min (s : Int).toNat IntKind.u64.bits)) = ((2 ^ s : Nat) : Int) := by
  have h1 : min (s : Int).toNat IntKind.u64.bits = s := by
    have h : IntKind.u64.bits = 64 := rfl
    rw [h, Int.toNat_natCast]; omega
  have h2 : (2 : Nat) ^ s < 18446744073709551616 := Nat.lt_of_lt_of_eq (Nat.pow_lt_pow_right (a := 2) (m := s) (n := 64) (by decide) hs) (by decide)
  have h3 : (1 * 2 ^ s : Int) = ((2 ^ s : Nat) : Int) := by rw [Int.one_mul]; exact_mod_cast rfl
  rw [h1, h3, IntKind.wrap_u64]
  generalize 2 ^ s = p at h2 ⊢
  omega
theorem shl_two {s : Nat} (hs : s < 64) : IntKind.u64.wrap (2 ^ s : Int) = ((2 ^ s : Nat) : Int) := by
  have h2 : (2 : Nat) ^ s < 18446744073709551616 := Nat.lt_of_lt_of_eq (Nat.pow_lt_pow_right (a := 2) (m := s) (n := 64) (by decide) hs) (by decide)
  have h3 : (2 ^ s : Int) = ((2 ^ s : Nat) : Int) := by exact_mod_cast rfl
  rw [h3, IntKind.wrap_u64]
  generalize 2 ^ s = p at h2 ⊢
  omega
set_option maxRecDepth 100000 in
set_option maxHeartbeats 4000000 in
theorem unseen_any {n0 B most : Nat} {W : World} {E : List En} (hs : StAt n0 W B most E) (hwf : Wf E) (hE : E.length ≤ 1048576) {x ga m : Nat} (h0 : 0 < x) (hx : x ≤ E.length) {S : List Nat} (hA : SnW W ga m S) (hm : x / 64 < m) :
    Calls Try.prog 56 #[.pointer (some ⟨B, 0, none⟩), .int .i64 x, .slice (some ⟨ga, 0, none⟩) m m] W fun e w' => e = .returned (.int .i64 (nxR E x S)) ∧ Below W.heap.size W w' := by
  have HF : ∀ f, Fence.wide.fn f := fun _ => trivial
  have HRU := Lib.hid (rule_any hs h0 hx hE)
  obtain ⟨hl, hr⟩ := refs_lt hwf h0 hx
  obtain ⟨r, hre⟩ : ∃ r, (entAt E x).ru = r := ⟨_, rfl⟩
  rw [hre] at HRU hl hr
  unfold ruV at HRU
  have HNX : Hid (nxR E x S = if r.left ≠ 0 ∧ r.left ∉ S then r.left else if r.right ≠ 0 ∧ r.right ∉ S then r.right else 0) := Lib.hid (by unfold nxR; rw [hre])
  generalize nxR E x S = res at HNX ⊢
  have HA := Lib.hid hA
  have hix : ∀ (a b : Value) (w : World), (Instr.index 151 (.agg #[a, b]) (.int .i64 0)).run Try.prog w = .ok a w := fun _ _ _ => by kernel_rfl
  have hiy : ∀ (a b : Value) (w : World), (Instr.index 151 (.agg #[a, b]) (.int .i64 1)).run Try.prog w = .ok b w := fun _ _ _ => by kernel_rfl
  have HIX := Lib.hid (And.intro hix hiy)
  have HB : Hid (r.left ≤ 1048576 ∧ r.right ≤ 1048576 ∧ r.left / 64 < m ∧ r.right / 64 < m) := Lib.hid (by omega)
  clear hs hwf hE h0 hx hA hm hre hl hr hix hiy
  go_enter Try.func56, Try.ntmps56
  go_wp2_with fail
  refine HRU.out.mono ?_; rintro e w1 ⟨rfl, b1⟩
  obtain ⟨wz, w2, hz, hs2, kr, br, ⟨r0, r1, r2, r3, r4⟩, e0, e1, e2, e3, e4⟩ := newRu w1 r
  obtain ⟨gr, hgr⟩ : ∃ y, w1.heap.size = y := ⟨_, rfl⟩
  rw [hgr] at hs2 kr r0 r1 r2 r3 r4 e0 e1 e2 e3 e4
  obtain ⟨q0, q1, q2, q3, q4⟩ := kr.cells
  have HB2 := Lib.hid (Below.after b1 br)
  have HA2 := Lib.hid (HA.out.below HB2.out)
  clear b1 kr br HRU HA
  go_wp2_with fail
  clear hz hs2 r0 r1 r2 r3 r4 e0 e1 e2 e3 e4 q0 q1 q2 q3 q4 hgr
  go_loopw [22] (fun kv wr => ∃ k : Nat, kv = .int .i64 k ∧ k ≤ 2 ∧ (1 ≤ k → r.left = 0 ∨ r.left ∈ S) ∧ (2 ≤ k → r.right = 0 ∨ r.right ∈ S) ∧ wr = w2) (fun kv _ => 2 - (intOf kv).toNat)
  case atStart => exact ⟨0, rfl, by omega, by omega, by omega, rfl⟩
  case round =>
    obtain ⟨k, rfl, hk, h1, h2, hw⟩ := hrel
    rw [hw]
    clear hw wr
    rcases (show k = 0 ∨ k = 1 ∨ k = 2 by omega) with rfl | rfl | rfl
    · have HP := Lib.hid (And.intro h1 h2)
      clear h1 h2
      obtain ⟨hix, hiy⟩ := HIX.out
      by_cases hy : r.left = 0
      · have hb : ((r.left : Int) != 0) = false := by simp [hy]
        go_wp2_with fail
        go_roundw
        case rel => exact ⟨0 + 1, rfl, by omega, fun _ => by first | exact .inl hy | exact HP.out.1 (by omega), fun h => by first | omega | exact .inl hy, trivial⟩
        case measure => simp [intOf]
      · have hb : ((r.left : Int) != 0) = true := by simp; omega
        have HC : Hid (w2.cell? ⟨ga, r.left / 64, none⟩ = some (.int .u64 (wdS S (r.left / 64) : Nat))) := Lib.hid (HA2.out.cell (by have := HB.out; omega) trivial)
        have HT := Lib.hid (wdS_test S r.left)
        have HW := Lib.hid (wdS_lt S (r.left / 64))
        obtain ⟨wv, hwv⟩ : ∃ y, wdS S (r.left / 64) = y := ⟨_, rfl⟩
        rw [hwv] at HC HT HW
        have hq : Int.tdiv (r.left : Int) 64 = ((r.left / 64 : Nat) : Int) := rfl
        have hs : Int.tmod (r.left : Int) 64 = ((r.left % 64 : Nat) : Int) := rfl
        have hqm : r.left / 64 < m := by have := HB.out; omega
        have hs64 : r.left % 64 < 64 := Nat.mod_lt _ (by omega)
        have hqw : IntKind.i64.wrap ((r.left / 64 : Nat) : Int) = ((r.left / 64 : Nat) : Int) := by rw [IntKind.wrap_i64]; have := HB.out; omega
        have hsw : IntKind.i64.wrap ((r.left % 64 : Nat) : Int) = ((r.left % 64 : Nat) : Int) := by rw [IntKind.wrap_i64]; omega
        generalize r.left / 64 = q at *
        generalize r.left % 64 = s at *
        have hsh := div_shr wv s
        obtain ⟨v, hv⟩ : ∃ y, wv >>> s = y := ⟨_, rfl⟩
        rw [hv] at HT hsh
        have hvl : v < 2 ^ 64 := by rw [← hv]; exact Nat.lt_of_le_of_lt (Nat.shiftRight_le _ _) HW.out
        have han := and_one hvl
        have c0 := HC.out
        clear hv hwv hvl
        by_cases hm : r.left ∈ S
        · have h1 : v &&& 1 = 1 := by rw [HT.out, if_pos hm]
          rw [h1] at han
          simp only [Int.ofNat_one, Int.natCast_one, Int.natCast_zero, Int.cast_ofNat_Int] at han
          go_wp2_with fail
          go_roundw
          case rel => exact ⟨0 + 1, rfl, by omega, fun _ => by first | exact .inr hm | exact HP.out.1 (by omega), fun h => by first | omega | exact .inr hm, trivial⟩
          case measure => simp [intOf]
        · have h1 : v &&& 1 = 0 := by rw [HT.out, if_neg hm]
          rw [h1] at han
          simp only [Int.ofNat_one, Int.natCast_one, Int.natCast_zero, Int.cast_ofNat_Int] at han
          have HRS : Hid (res = r.left) := Lib.hid (by
            rw [HNX.out]
            rw [if_pos ⟨hy, hm⟩])
          go_wp2_with fail
          go_ret
          rw [HRS.out]
          exact ⟨rfl, HB2.out⟩
    · have HP := Lib.hid (And.intro h1 h2)
      clear h1 h2
      obtain ⟨hix, hiy⟩ := HIX.out
      by_cases hy : r.right = 0
      · have hb : ((r.right : Int) != 0) = false := by simp [hy]
        go_wp2_with fail
        go_roundw
        case rel => exact ⟨1 + 1, rfl, by omega, fun _ => by first | exact .inl hy | exact HP.out.1 (by omega), fun h => by first | omega | exact .inl hy, trivial⟩
        case measure => simp [intOf]
      · have hb : ((r.right : Int) != 0) = true := by simp; omega
        have HC : Hid (w2.cell? ⟨ga, r.right / 64, none⟩ = some (.int .u64 (wdS S (r.right / 64) : Nat))) := Lib.hid (HA2.out.cell (by have := HB.out; omega) trivial)
        have HT := Lib.hid (wdS_test S r.right)
        have HW := Lib.hid (wdS_lt S (r.right / 64))
        obtain ⟨wv, hwv⟩ : ∃ y, wdS S (r.right / 64) = y := ⟨_, rfl⟩
        rw [hwv] at HC HT HW
        have hq : Int.tdiv (r.right : Int) 64 = ((r.right / 64 : Nat) : Int) := rfl
        have hs : Int.tmod (r.right : Int) 64 = ((r.right % 64 : Nat) : Int) := rfl
        have hqm : r.right / 64 < m := by have := HB.out; omega
        have hs64 : r.right % 64 < 64 := Nat.mod_lt _ (by omega)
        have hqw : IntKind.i64.wrap ((r.right / 64 : Nat) : Int) = ((r.right / 64 : Nat) : Int) := by rw [IntKind.wrap_i64]; have := HB.out; omega
        have hsw : IntKind.i64.wrap ((r.right % 64 : Nat) : Int) = ((r.right % 64 : Nat) : Int) := by rw [IntKind.wrap_i64]; omega
        generalize r.right / 64 = q at *
        generalize r.right % 64 = s at *
        have hsh := div_shr wv s
        obtain ⟨v, hv⟩ : ∃ y, wv >>> s = y := ⟨_, rfl⟩
        rw [hv] at HT hsh
        have hvl : v < 2 ^ 64 := by rw [← hv]; exact Nat.lt_of_le_of_lt (Nat.shiftRight_le _ _) HW.out
        have han := and_one hvl
        have c0 := HC.out
        clear hv hwv hvl
        by_cases hm : r.right ∈ S
        · have h1 : v &&& 1 = 1 := by rw [HT.out, if_pos hm]
          rw [h1] at han
          simp only [Int.ofNat_one, Int.natCast_one, Int.natCast_zero, Int.cast_ofNat_Int] at han
          go_wp2_with fail
          go_roundw
          case rel => exact ⟨1 + 1, rfl, by omega, fun _ => by first | exact .inr hm | exact HP.out.1 (by omega), fun h => by first | omega | exact .inr hm, trivial⟩
          case measure => simp [intOf]
        · have h1 : v &&& 1 = 0 := by rw [HT.out, if_neg hm]
          rw [h1] at han
          simp only [Int.ofNat_one, Int.natCast_one, Int.natCast_zero, Int.cast_ofNat_Int] at han
          have HRS : Hid (res = r.right) := Lib.hid (by
            rw [HNX.out]
            (have h3 := HP.out.1 (by omega); rw [if_neg (fun q => h3.elim q.1 q.2), if_pos ⟨hy, hm⟩]))
          go_wp2_with fail
          go_ret
          rw [HRS.out]
          exact ⟨rfl, HB2.out⟩
    · have h3 := h1 (by omega)
      have h4 := h2 (by omega)
      have HRS : Hid (res = 0) := Lib.hid (by
        rw [HNX.out, if_neg (by rintro ⟨a, b⟩; rcases h3 with h3 | h3; exact a h3; exact b h3), if_neg (by rintro ⟨a, b⟩; rcases h4 with h4 | h4; exact a h4; exact b h4)])
      clear h1 h2 h3 h4
      go_wp2_with fail
      go_ret
      rw [HRS.out]
      exact ⟨rfl, HB2.out⟩
end M
end Go.Proofs.Ytpjcfepngjpfbaa
