/- PmapLarge: the walk. -/
import Derived.Test.YtdgclambplipnaaAwake
import Derived.Test.YtdgclambplipnaaMethii
import Derived.Test.YtdgclambplipnaaList
namespace Go.Proofs.Ytdgclambplipnaa
open Go.RowKit

theorem entry_top {T : Tr Int Int} {k v : Int} (h : T.top? = some (k, v)) : ii.entryV T = .tuple #[.int .i64 k, .int .i64 v, .bool true] := by
  cases T with
  | nil => simp [Tr.top?] at h
  | node l a b r => simp only [Tr.top?, Option.some.injEq, Prod.mk.injEq] at h; obtain ⟨rfl, rfl⟩ := h; rfl
theorem step_up {gap : Int} (hg : 1 ≤ gap) {j : Nat} {T : Tr Int Int} (h : T.toList = seqL gap 0 j) : (putF ii.lt (gap * (j : Int)) (j : Int) T).toList = seqL gap 0 (j + 1) := by
  have e := putF_toList strict_int (gap * (j : Int)) (j : Int) T (by rw [h]; exact seqL_sorted hg _ _)
  have e2 := seqL_end hg 0 j
  rw [Nat.zero_add] at e2
  exact e.trans (by rw [h]; exact e2)
theorem step_down {gap : Int} (hg : 1 ≤ gap) {many j a : Nat} (hj : j < many) (ha : a + j = many) {T : Tr Int Int} (h : T.toList = seqL gap a j) :
    (putF ii.lt (gap * ((many : Int) - 1 - (j : Int))) ((many : Int) - 1 - (j : Int)) T).toList = seqL gap (a - 1) (j + 1) := by
  obtain ⟨c, rfl⟩ : ∃ c, a = c + 1 := ⟨a - 1, by omega⟩
  have ek : (many : Int) - 1 - (j : Int) = (c : Int) := by omega
  rw [ek]
  have e := putF_toList strict_int (gap * (c : Int)) (c : Int) T (by rw [h]; exact seqL_sorted hg _ _)
  exact e.trans (by rw [h]; exact seqL_front hg c j)
theorem floor_at {gap : Int} (hg : 1 ≤ gap) {i n : Nat} (hi : i < n) {T : Tr Int Int} (h : T.toList = seqL gap 0 n) : ii.entryV (floorF ii.lt (gap * (i : Int) + gap - 1) .nil T) = .tuple #[.int .i64 (gap * (i : Int)), .int .i64 (i : Int), .bool true] := by
  refine entry_top ?_
  have e := floorF_top strict_int (gap * (i : Int) + gap - 1) T .nil (by rw [h]; exact seqL_sorted hg _ _)
  exact e.trans (by rw [h, seqL_floor hg hi]; rfl)
theorem ceil_at {gap : Int} (hg : 1 ≤ gap) {i n : Nat} (hi : i < n) {T : Tr Int Int} (h : T.toList = seqL gap 0 n) : ii.entryV (ceilF ii.lt (gap * (i : Int) - gap + 1) .nil T) = .tuple #[.int .i64 (gap * (i : Int)), .int .i64 (i : Int), .bool true] := by
  refine entry_top ?_
  have e := ceilF_top strict_int (gap * (i : Int) - gap + 1) T .nil (by rw [h]; exact seqL_sorted hg _ _)
  exact e.trans (by rw [h, seqL_ceil hg hi]; rfl)
theorem sz_at {gap : Int} {a n : Nat} {T : Tr Int Int} (h : T.toList = seqL gap a n) : T.sz = n := by rw [Tr.sz_eq, h]; simp [seqL]

/-- The map m: its box, its tree. -/
def MapAt (W : World) (B : Nat) (T : Tr Int Int) : Prop := ∃ q, W.heap[B]? = some (.cells #[.pointer q] 26 (0, 0)) ∧ ii.Is W q T
theorem MapAt.below {W W' : World} {B : Nat} {T : Tr Int Int} (h : MapAt W B T) (hb : Below W.heap.size W W') : MapAt W' B T := by
  obtain ⟨q, h1, h2⟩ := h; exact ⟨q, box_below hb h1, h2.below hb⟩
theorem MapAt.set {W : World} {B : Nat} {T T' : Tr Int Int} (h : MapAt W B T) {q : Option Addr} (hq : ii.Is W q T') : MapAt (W.setCell ⟨B, 0, none⟩ (.pointer q)) B T' := by
  obtain ⟨q0, h1, _⟩ := h
  exact ⟨q, box_set _ h1, hq.keep (KeepT.setCell (a := ⟨B, 0, none⟩) h1 (by decide))⟩

set_option maxRecDepth 100000 in
set_option maxHeartbeats 4000000 in
theorem large_any (W : World) (n s : Int) (down : Bool) (hn : 0 ≤ n) (hn2 : n < 65536) (hs : 0 ≤ s) (hs2 : s < 256) :
    Calls Try.prog 3 #[.int .u16 n, .bool down, .int .u8 s] W fun e w' => e = .returned (.bool true) ∧ Below W.heap.size W w' := by
  obtain ⟨many, hm⟩ : ∃ many : Nat, n % 3000 + 1 = (many : Int) := ⟨(n % 3000 + 1).toNat, by omega⟩
  have hm1 : (1 : Int) ≤ many := by omega
  have hm2 : (many : Int) ≤ 3000 := by omega
  obtain ⟨gap, hgp⟩ : ∃ gap : Int, s % 5 + 1 = gap := ⟨_, rfl⟩
  have hg1 : 1 ≤ gap := by omega
  have hg2 : gap ≤ 5 := by omega
  go_enter Try.func3, Try.ntmps3
  go_wp2_with fail
  refine (awake_any W).mono ?_; rintro e w1 ⟨rfl, B1⟩
  have HB1 := Lib.hid B1; clear B1
  go_wp2_with fail
  clear hm hgp
  have hN : MapAt (w1.alloc (.cells #[.pointer none] 26)) w1.heap.size .nil := ⟨none, heap_new _ _, rfl⟩
  have HN := Lib.hid hN; clear hN
  have HB2 : Hid (Below W.heap.size W (w1.alloc (.cells #[.pointer none] 26))) := Lib.hid (Below.alloc HB1.out HB1.out.size _)
  have HLE := Lib.hid HB1.out.size
  clear HB1
  cases down with
  | false =>
    go_loopw [30] (fun c wr => ∃ (j a : Nat) (T : Tr Int Int), a + j = many ∧ c = .int .i64 j ∧ MapAt wr w1.heap.size T ∧ T.toList = seqL gap 0 j ∧ Below W.heap.size W wr) (fun c _ => many - (intOf c).toNat)
    case atStart => exact ⟨0, many, .nil, by omega, rfl, HN.out, rfl, HB2.out⟩
    case round =>
      obtain ⟨j, a, T, ha, rfl, hM, hT, hB⟩ := hrel
      have HM := Lib.hid hM; have HT := Lib.hid hT; have HB3 := Lib.hid hB; have HA := Lib.hid ha; have ha2 : j ≤ many := by omega
      clear hM hT hB
      by_cases hlt : j < many
      · obtain ⟨q, hq1, hq2⟩ := HM.out
        have c1 := box_cell hq1
        have HQ := Lib.hid hq2
        have hsz : T.sz ≤ 900000 := by rw [sz_at HT.out]; omega
        have HS := Lib.hid hsz
        have g1 : 0 ≤ gap * (j : Int) := Int.mul_nonneg (by omega) (by omega)
        have g2 : gap * (j : Int) ≤ 5 * 3000 := Int.mul_le_mul hg2 (by omega) (by omega) (by omega)
        have H2 := Lib.hid (step_up hg1 HT.out)
        clear hq1 hq2 hsz ha
        go_wp2_with fail
        refine (ii.Put_any _ _ HQ.out HS.out).mono ?_; rintro e w2 ⟨q2, rfl, h2, B2⟩
        have hM2 := HM.out.below B2
        have hM2' := hM2
        obtain ⟨q0, hq1, -⟩ := hM2
        have c2 := box_cell hq1; have f2 := box_frozen hq1
        have HM3 := Lib.hid (MapAt.set hM2' h2)
        clear hM2'
        have HB4 : Hid (Below W.heap.size W (w2.setCell ⟨w1.heap.size, 0, none⟩ (.pointer q2))) := Lib.hid ((Below.step HB3.out B2).setCell HLE.out _)
        clear hq1 h2 B2 c1
        go_wp2_with fail
        go_roundw
        case rel => exact ⟨j + 1, a - 1, _, by have := HA.out; omega, by go_num, HM3.out, H2.out, HB4.out⟩
        case measure => simp [intOf]; omega
      · obtain rfl : j = many := by omega
        obtain rfl : a = 0 := by omega
        go_wp2_with fail
        clear ha HA ha2 hlt hm1
        go_loopw [12] (fun c wr => ∃ i : Nat, c = .int .i64 i ∧ MapAt wr w1.heap.size T ∧ Below W.heap.size W wr ∧ (i : Int) ≤ 6000) (fun c _ => j - (intOf c).toNat)
        case atStart => exact ⟨0, rfl, HM.out, HB3.out, by omega⟩
        case round =>
          obtain ⟨i, rfl, hM, hB, hi6⟩ := hrel
          have HM4 := Lib.hid hM; have HB4 := Lib.hid hB
          clear hM hB HM HB3
          obtain ⟨q, hq1, hq2⟩ := HM4.out
          have c1 := box_cell hq1
          have HQ := Lib.hid hq2
          clear hq1 hq2
          by_cases hlt : i < j
          · have g1 : 0 ≤ gap * (i : Int) := Int.mul_nonneg (by omega) (by omega)
            have g2 : gap * (i : Int) ≤ 5 * 3000 := Int.mul_le_mul hg2 (by omega) (by omega) (by omega)
            have e1 := floor_at hg1 hlt HT.out
            have e2 := ceil_at hg1 hlt HT.out
            have E1 := Lib.hid e1; have E2 := Lib.hid e2
            clear e1 e2
            go_wp2_with fail
            refine (ii.Floor_any _ HQ.out).mono ?_; rintro e w2 ⟨rfl, B2⟩
            rw [E1.out]
            have HM5 := Lib.hid (HM4.out.below B2); have HB5 := Lib.hid (Below.step HB4.out B2)
            obtain ⟨q', hq1', hq2'⟩ := HM5.out
            have c2 := box_cell hq1'
            have HQ2 := Lib.hid hq2'
            clear hq1' hq2' B2 c1 HQ HM4 HB4
            go_wp2_with fail
            refine (ii.Ceil_any _ HQ2.out).mono ?_; rintro e w3 ⟨rfl, B3⟩
            rw [E2.out]
            have HM6 := Lib.hid (HM5.out.below B3); have HB6 := Lib.hid (Below.step HB5.out B3)
            clear B3 c2 HQ2 HM5 HB5
            go_wp2_with fail
            go_roundw
            case rel => exact ⟨i + (1 + j / 50), by go_num, HM6.out, HB6.out, by omega⟩
            case measure => simp [intOf]; omega
          · go_wp2_with fail
            refine (ii.Len_any HQ.out).mono ?_; rintro e w2 ⟨rfl, B2⟩
            rw [sz_at HT.out]
            have HB5 := Lib.hid (Below.step HB4.out B2)
            clear B2
            go_wp2_with fail
            go_ret
            exact ⟨rfl, HB5.out⟩
  | true =>
    go_loopw [30] (fun c wr => ∃ (j a : Nat) (T : Tr Int Int), a + j = many ∧ c = .int .i64 j ∧ MapAt wr w1.heap.size T ∧ T.toList = seqL gap a j ∧ Below W.heap.size W wr) (fun c _ => many - (intOf c).toNat)
    case atStart => exact ⟨0, many, .nil, by omega, rfl, HN.out, rfl, HB2.out⟩
    case round =>
      obtain ⟨j, a, T, ha, rfl, hM, hT, hB⟩ := hrel
      have HM := Lib.hid hM; have HT := Lib.hid hT; have HB3 := Lib.hid hB; have HA := Lib.hid ha; have ha2 : j ≤ many := by omega
      clear hM hT hB
      by_cases hlt : j < many
      · obtain ⟨q, hq1, hq2⟩ := HM.out
        have c1 := box_cell hq1
        have HQ := Lib.hid hq2
        have hsz : T.sz ≤ 900000 := by rw [sz_at HT.out]; omega
        have HS := Lib.hid hsz
        have g1 : 0 ≤ gap * ((many : Int) - 1 - (j : Int)) := Int.mul_nonneg (by omega) (by omega)
        have g2 : gap * ((many : Int) - 1 - (j : Int)) ≤ 5 * 3000 := Int.mul_le_mul hg2 (by omega) (by omega) (by omega)
        have H2 := Lib.hid (step_down hg1 hlt ha HT.out)
        clear hq1 hq2 hsz ha
        go_wp2_with fail
        refine (ii.Put_any _ _ HQ.out HS.out).mono ?_; rintro e w2 ⟨q2, rfl, h2, B2⟩
        have hM2 := HM.out.below B2
        have hM2' := hM2
        obtain ⟨q0, hq1, -⟩ := hM2
        have c2 := box_cell hq1; have f2 := box_frozen hq1
        have HM3 := Lib.hid (MapAt.set hM2' h2)
        clear hM2'
        have HB4 : Hid (Below W.heap.size W (w2.setCell ⟨w1.heap.size, 0, none⟩ (.pointer q2))) := Lib.hid ((Below.step HB3.out B2).setCell HLE.out _)
        clear hq1 h2 B2 c1
        go_wp2_with fail
        go_roundw
        case rel => exact ⟨j + 1, a - 1, _, by have := HA.out; omega, by go_num, HM3.out, H2.out, HB4.out⟩
        case measure => simp [intOf]; omega
      · obtain rfl : j = many := by omega
        obtain rfl : a = 0 := by omega
        go_wp2_with fail
        clear ha HA ha2 hlt hm1
        go_loopw [12] (fun c wr => ∃ i : Nat, c = .int .i64 i ∧ MapAt wr w1.heap.size T ∧ Below W.heap.size W wr ∧ (i : Int) ≤ 6000) (fun c _ => j - (intOf c).toNat)
        case atStart => exact ⟨0, rfl, HM.out, HB3.out, by omega⟩
        case round =>
          obtain ⟨i, rfl, hM, hB, hi6⟩ := hrel
          have HM4 := Lib.hid hM; have HB4 := Lib.hid hB
          clear hM hB HM HB3
          obtain ⟨q, hq1, hq2⟩ := HM4.out
          have c1 := box_cell hq1
          have HQ := Lib.hid hq2
          clear hq1 hq2
          by_cases hlt : i < j
          · have g1 : 0 ≤ gap * (i : Int) := Int.mul_nonneg (by omega) (by omega)
            have g2 : gap * (i : Int) ≤ 5 * 3000 := Int.mul_le_mul hg2 (by omega) (by omega) (by omega)
            have e1 := floor_at hg1 hlt HT.out
            have e2 := ceil_at hg1 hlt HT.out
            have E1 := Lib.hid e1; have E2 := Lib.hid e2
            clear e1 e2
            go_wp2_with fail
            refine (ii.Floor_any _ HQ.out).mono ?_; rintro e w2 ⟨rfl, B2⟩
            rw [E1.out]
            have HM5 := Lib.hid (HM4.out.below B2); have HB5 := Lib.hid (Below.step HB4.out B2)
            obtain ⟨q', hq1', hq2'⟩ := HM5.out
            have c2 := box_cell hq1'
            have HQ2 := Lib.hid hq2'
            clear hq1' hq2' B2 c1 HQ HM4 HB4
            go_wp2_with fail
            refine (ii.Ceil_any _ HQ2.out).mono ?_; rintro e w3 ⟨rfl, B3⟩
            rw [E2.out]
            have HM6 := Lib.hid (HM5.out.below B3); have HB6 := Lib.hid (Below.step HB5.out B3)
            clear B3 c2 HQ2 HM5 HB5
            go_wp2_with fail
            go_roundw
            case rel => exact ⟨i + (1 + j / 50), by go_num, HM6.out, HB6.out, by omega⟩
            case measure => simp [intOf]; omega
          · go_wp2_with fail
            refine (ii.Len_any HQ.out).mono ?_; rintro e w2 ⟨rfl, B2⟩
            rw [sz_at HT.out]
            have HB5 := Lib.hid (Below.step HB4.out B2)
            clear B2
            go_wp2_with fail
            go_ret
            exact ⟨rfl, HB5.out⟩
end Go.Proofs.Ytdgclambplipnaa
