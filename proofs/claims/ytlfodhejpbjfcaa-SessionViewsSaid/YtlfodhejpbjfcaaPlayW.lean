/- Whatever the player does; the walk of SessionPlays. -/
import Derived.Test.YtlfodhejpbjfcaaTx
import Derived.Test.YtlfodhejpbjfcaaErr
import Derived.Test.YtlfodhejpbjfcaaDoBegin
import Derived.Test.YtlfodhejpbjfcaaDoPut
import Derived.Test.YtlfodhejpbjfcaaDoDrop
import Derived.Test.YtlfodhejpbjfcaaDoCommit
namespace Go.Proofs.Ytlfodhejpbjfcaa
open Go.RowKit
namespace S
attribute [local go_sem] Oper.semAt_some
abbrev sa : ByteArray := ⟨#[97]⟩
abbrev sb : ByteArray := ⟨#[98]⟩
theorem RowNm.one (W : World) (s : ByteArray) (x : Int) (hs : s.size ≤ maxLen) : RowNm (W.alloc (.cells #[.string s, .int .i64 x] 49)) (.slice (some ⟨W.heap.size, 0, none⟩) 1 1) [(s, x)] := by
  refine ⟨_, 1, rfl, Nat.le_refl _, by unfold maxLen; omega, by simpa using hs, fun i hi => ⟨_, rfl, ?_⟩⟩
  obtain rfl : i = 0 := by simpa using hi
  have h := heap_new W (.cells #[.string s, .int .i64 x] 49)
  generalize W.alloc (.cells #[.string s, .int .i64 x] 49) = W1 at *
  simp [World.cell?, Addr.add, h]
theorem new_a : newF [(sa, 1)] .nil = (0, putF sd.lt sa 1 .nil) := by kernel_rfl
theorem left_fresh {W W0 w' : World} {X X' : Bx} {x x' : Tx} (h : Left W w' X X' x x') (hb : Below W0.heap.size W0 W) (h1 : W0.heap.size ≤ x.t) (h2 : W0.heap.size ≤ x.r) (h3 : W0.heap.size ≤ x.c) (h4 : W0.heap.size ≤ X.b) (h5 : W0.heap.size ≤ X.m) : Below W0.heap.size W0 w' :=
  hb.trans (h.2.2.2.below (by simp [h1, h2, h3, h4, h5]) hb.size)
set_option maxRecDepth 100000 in
set_option maxHeartbeats 4000000 in
theorem awake_any (W : World) : Calls Try.prog 10 #[] W fun e w' => e = .returned (.bool true) ∧ Below W.heap.size W w' := by
  obtain ⟨T1, hT1⟩ : ∃ T, putF sd.lt sa (1 : Int) .nil = T := ⟨_, rfl⟩
  have HT1 := Lib.hid hT1
  have HTS : Hid (T1.sz = 1) := Lib.hid (by rw [← hT1]; kernel_rfl)
  have b1 : Below W.heap.size W (W.alloc (.cells #[.string sa, .int .i64 1] 49)) := (Below.refl _ _).alloc (Nat.le_refl _) _
  have hN := New_any (RowNm.one W sa 1 (by unfold maxLen; decide)) (by decide)
  rw [new_a, hT1] at hN
  have HN := Lib.hid hN; have B1 := Lib.hid b1
  clear hN b1 hT1
  go_enter Try.func10, Try.ntmps10
  go_wp2_with fail
  refine HN.out.mono ?_
  rintro e w1 hp
  rcases hp with ⟨-, b, m, q, rfl, g1, g2, hB, hI, hM, hb⟩ | ⟨h, -⟩
  case inr => exact absurd rfl h
  have HX1 : Hid (BxAt w1 ⟨b, m, 0, q, T1, []⟩) := Lib.hid ⟨hB, hI, hM⟩
  have B2 := Lib.hid (Below.step B1.out hb)
  have hz := B1.out.size
  have hbm : W.heap.size ≤ b ∧ W.heap.size ≤ m ∧ m < w1.heap.size := ⟨by omega, by omega, hM.lt⟩
  have HBM := Lib.hid hbm
  clear hB hI hM hb g1 g2 hz hbm
  go_wp2_with fail
  refine (tx_begin HX1.out).mono ?_
  rintro e w2 ⟨t, r, c, rfl, f1, f2, f3, hx, hX, -, hb⟩
  have HZ2 := Lib.hid hb.size
  have HX2 := Lib.hid hX; have HT2 := Lib.hid hx; have B3 := Lib.hid (Below.step B2.out hb)
  have hz := B2.out.size
  have ht1 : W.heap.size ≤ t ∧ W.heap.size ≤ r ∧ W.heap.size ≤ c ∧ t < w2.heap.size ∧ r < w2.heap.size ∧ c < w2.heap.size := ⟨by omega, by omega, by omega, (Array.getElem?_eq_some_iff.1 hx.1).1, hx.2.2.1.lt, hx.2.2.2.1.lt⟩
  have HA1 : Hid (Bx.apart ⟨b, m, 0, q, T1, []⟩ ⟨t, r, c, 0, q, T1, false, [], []⟩) := Lib.hid (by have := HBM.out; constructor <;> dsimp only <;> omega)
  have HL1 := Lib.hid ht1
  clear hX hx hb f1 f2 f3 hz ht1
  go_wp2_with fail
  refine (tx_begin HX2.out).mono ?_
  rintro e w3 ⟨t', r', c', rfl, f1, f2, f3, hx, hX, ho, hb⟩
  have HX3 := Lib.hid hX; have HU3 := Lib.hid hx; have HT3 := Lib.hid (ho _ HT2.out); have B4 := Lib.hid (Below.step B3.out hb)
  have hl := HL1.out; have hm := HBM.out; have hz := B3.out.size; have hz2 := HZ2.out
  have HA2 : Hid (Bx.apart ⟨b, m, 0, q, T1, []⟩ ⟨t', r', c', 0, q, T1, false, [], []⟩) := Lib.hid (by constructor <;> dsimp only <;> omega)
  have HA3 : Hid (Tx.apart ⟨t, r, c, 0, q, T1, false, [], []⟩ ⟨t', r', c', 0, q, T1, false, [], []⟩) := Lib.hid (by refine ⟨?_, ?_, ?_, ?_, ?_⟩ <;> dsimp only <;> omega)
  have HL2 : Hid (W.heap.size ≤ t' ∧ W.heap.size ≤ r' ∧ W.heap.size ≤ c') := Lib.hid ⟨by omega, by omega, by omega⟩
  clear hX hx hb f1 f2 f3 ho hl hm hz hz2
  go_wp2_with fail
  refine (tx_get HX3.out HT3.out HA1.out sa (by decide) (by simp)).mono ?_
  rintro e w4 ⟨rfl, hL⟩
  have e1 : getR false [] T1 sa = (1, 0) := by rw [← HT1.out]; kernel_rfl
  have e2 : readG false [] [] sa = [(sa, true)] := by kernel_rfl
  have hE : errV 0 = .nilIface := rfl
  simp only [e1, hE]
  simp only [e2] at hL
  have HL4 := Lib.hid hL
  have B5 := Lib.hid (left_fresh hL B4.out HL1.out.1 HL1.out.2.1 HL1.out.2.2.1 HBM.out.1 HBM.out.2.1)
  have HU4 := Lib.hid (hL.2.2.1 _ HU3.out HA3.out HA2.out)
  clear hL e1 e2 hE
  go_wp2_with fail
  refine (tx_put HL4.out.2.1 HL4.out.1 HA1.out sb 2 (by decide) (by simp)).mono ?_
  rintro e w5 ⟨rfl, hL⟩
  have e1 : chk false sb = 0 := by kernel_rfl
  have e2 : putN false [] sb 2 = [(sb, (2, false))] := by kernel_rfl
  have hE : errV 0 = .nilIface := rfl
  simp only [e1, hE]
  simp only [e2] at hL
  have HL5 := Lib.hid hL
  have B6 := Lib.hid (left_fresh hL B5.out HL1.out.1 HL1.out.2.1 HL1.out.2.2.1 HBM.out.1 HBM.out.2.1)
  have HU5 := Lib.hid (hL.2.2.1 _ HU4.out HA3.out HA2.out)
  clear hL e1 e2 hE
  go_wp2_with fail
  refine (tx_commit HL5.out.2.1 HL5.out.1 HA1.out (by simp) (by simp) (by simp) (by simp) (by have := HTS.out; simp; omega) (by simp)).mono ?_
  rintro e w6 ⟨n, k, X', rfl, hC, hb, hm, hL⟩
  rcases hC with ⟨h, -⟩ | ⟨-, h, -⟩ | ⟨-, -, h, -⟩ | ⟨-, -, -, rfl, rfl, q', L, hP, rfl⟩
  · cases h
  · cases h
  · cases h
  obtain rfl : L = [(sb, (2, false))] := List.perm_singleton.1 hP
  dsimp only at hL
  have e3 : lastN [] (0 + 1) [(sb, (2, false))] = [(sb, 1)] := by kernel_rfl
  have e4 : ((0 : Int) + 1) = 1 := rfl
  have hE : errV 0 = .nilIface := rfl
  simp only [e3, e4] at hL
  simp only [e4, hE]
  have HL6 := Lib.hid hL
  have B7 := Lib.hid (left_fresh hL B6.out HL1.out.1 HL1.out.2.1 HL1.out.2.2.1 HBM.out.1 HBM.out.2.1)
  have HU6 := Lib.hid (hL.2.2.1 _ HU5.out HA3.out HA2.out)
  clear hL hP hb hm e3 e4 hE
  go_wp2_with fail
  refine (tx_get HL6.out.2.1 HU6.out HA2.out sb (by decide) (by simp)).mono ?_
  rintro e w7 ⟨rfl, hL⟩
  have e1 : getR false [] T1 sb = (0, 5) := by rw [← HT1.out]; kernel_rfl
  have e2 : readG false [] [] sb = [(sb, true)] := by kernel_rfl
  have hE : errV 5 = err 5 := rfl
  simp only [e1, hE]
  simp only [e2] at hL
  have HL7 := Lib.hid hL
  have B8 := Lib.hid (left_fresh hL B7.out HL2.out.1 HL2.out.2.1 HL2.out.2.2 HBM.out.1 HBM.out.2.1)
  clear hL e1 e2 hE
  go_wp2_with fail
  refine (tx_put HL7.out.2.1 HL7.out.1 HA2.out sa 3 (by decide) (by simp)).mono ?_
  rintro e w8 ⟨rfl, hL⟩
  have e1 : chk false sa = 0 := by kernel_rfl
  have e2 : putN false [] sa 3 = [(sa, (3, false))] := by kernel_rfl
  have hE : errV 0 = .nilIface := rfl
  simp only [e1, hE]
  simp only [e2] at hL
  have HL8 := Lib.hid hL
  have B9 := Lib.hid (left_fresh hL B8.out HL2.out.1 HL2.out.2.1 HL2.out.2.2 HBM.out.1 HBM.out.2.1)
  clear hL e1 e2 hE
  go_wp2_with fail
  refine (tx_commit HL8.out.2.1 HL8.out.1 HA2.out (by simp) (by simp) (by simp) (by simp) (by have h1 := HTS.out; have h2 := appN_sz [(sb, ((2 : Int), false))] T1; simp at h2 ⊢; omega) (by show 1 + 1 ≤ 800000; decide)).mono ?_
  rintro e w9 ⟨n, k, X', rfl, hC, hb, hm, hL⟩
  rcases hC with ⟨h, -⟩ | ⟨-, h, -⟩ | ⟨-, -, -, rfl, rfl, rfl⟩ | ⟨-, -, h, -⟩
  · cases h
  · cases h
  rotate_left
  · have h1 : (conf [(sb, (1 : Int))] 0 [(sb, true)] || conf [(sb, (1 : Int))] 0 [(sa, ((3 : Int), false))]) = true := by kernel_rfl
    exact absurd (h1.symm.trans h) (by decide)
  have hE : errV 11 = err 11 := rfl
  simp only [hE]
  have HL9 := Lib.hid hL
  have B10 := Lib.hid (left_fresh hL B9.out HL2.out.1 HL2.out.2.1 HL2.out.2.2 HBM.out.1 HBM.out.2.1)
  clear hL hb hm hE
  go_wp2_with fail
  refine (is_err w9 5 5 (by decide)).mono ?_
  rintro e w10 ⟨rfl, h10⟩
  rw [h10]; clear h10 w10
  have hd : decide ((5 : Int) = 5) = true := rfl
  simp only [hd]; clear hd
  go_wp2_with fail
  refine (is_err w9 11 11 (by decide)).mono ?_
  rintro e w10 ⟨rfl, h10⟩
  rw [h10]; clear h10 w10
  have hd : decide ((11 : Int) = 11) = true := rfl
  simp only [hd]; clear hd
  go_wp2_with fail
  refine (Version_any HL9.out.2.1.1).mono ?_
  rintro e w10 ⟨rfl, hb⟩
  have B11 := Lib.hid (Below.step B10.out hb)
  clear hb
  go_wp2_with fail
  go_ret
  exact ⟨rfl, B11.out⟩
end S
end Go.Proofs.Ytlfodhejpbjfcaa
namespace Go.Proofs.Ytlfodhejpbjfcaa
open Go.RowKit
abbrev ActL := Nat × Nat × ByteArray × Int
/-- A slice of acts, wherever it lies. -/
def RowAct (W : World) (v : Value) (L : List ActL) : Prop :=
  ∃ a cap, v = .slice a L.length cap ∧ L.length ≤ cap ∧ cap ≤ maxLen ∧ (∀ x ∈ L, x.1 < 256 ∧ x.2.1 < 256 ∧ x.2.2.1.size ≤ maxLen) ∧ ∀ (i : Nat) (h : i < L.length), ∃ b, a = some b ∧
    W.cell? (b.add (i * 4)) = some (.int .u8 (L[i].1 : Int)) ∧ W.cell? ⟨(b.add (i * 4)).block, (b.add (i * 4)).off + 1, none⟩ = some (.int .u8 (L[i].2.1 : Int)) ∧
    W.cell? ⟨(b.add (i * 4)).block, (b.add (i * 4)).off + 2, none⟩ = some (.string L[i].2.2.1) ∧ W.cell? ⟨(b.add (i * 4)).block, (b.add (i * 4)).off + 3, none⟩ = some (.int .i64 L[i].2.2.2)
theorem RowAct.below {A C : World} {v : Value} {L : List ActL} (h : RowAct A v L) (hb : Below A.heap.size A C) : RowAct C v L := by
  obtain ⟨a, cap, rfl, h1, h2, h3, h⟩ := h
  exact ⟨a, cap, rfl, h1, h2, h3, fun i hi => (h i hi).imp fun b hh => ⟨hh.1, cell_on hh.2.1 hb, cell_on hh.2.2.1 hb, cell_on hh.2.2.2.1 hb, cell_on hh.2.2.2.2 hb⟩⟩
namespace S
attribute [local go_sem] Oper.semAt_some
theorem do_any {K p : Nat} {n0 : Lo} {W : World} {X : Bx} {Vs : List Ver} {m : Sl} {rs : Nat → R5} {f : Slots} (hP : PlAt K n0 W p X Vs m rs f) (hK : K ≤ 60) {kd tx : Nat} (hkd : kd < 256) (htx : tx < 256) (s : ByteArray) (hs : s.size ≤ maxLen) (id : Int) :
    Calls Try.prog 12 #[.pointer (some ⟨p, 0, none⟩), actV kd tx s id] W (DoPost K n0 W p) := by
  have hs' : s.size ≤ 9223372036854775807 := by unfold maxLen at hs; exact hs
  obtain ⟨k, hk⟩ : ∃ k, tx % 4 = k := ⟨_, rfl⟩
  have hk4 : k < 4 := by omega
  have hkk : (tx : Int) % 4 = (k : Int) := by omega
  cases hf : f k with
  | none => exact do_begin hP hK hkd htx hkk hk4 (.inl hf) s id
  | some y =>
    obtain ⟨x, t⟩ := y
    have h6 : (kd : Int) % 6 = 0 ∨ (kd : Int) % 6 = 1 ∨ ((kd : Int) % 6 = 2 ∨ (kd : Int) % 6 = 3) ∨ (kd : Int) % 6 = 4 ∨ (kd : Int) % 6 = 5 := by omega
    rcases h6 with h | h | h | h | h
    · exact do_begin hP hK hkd htx hkk hk4 (.inr ⟨h, _, hf⟩) s id
    · exact do_get hP hK hkd htx hkk hk4 hf h s hs' id
    · exact do_put hP hK hkd htx hkk hk4 hf h s hs' id
    · exact do_drop hP hK hkd htx hkk hk4 hf h s hs' id
    · exact do_commit hP hK hkd htx hkk hk4 hf h s hs' id
/-- Ahead of each act. -/
def Playing (n0 : Lo) (W : World) (p : Nat) (i : Nat) (wr : World) : Prop := ∃ X Vs m rs f, PlAt i n0 wr p X Vs m rs f ∧ Fr n0 W wr
theorem play_start {W w2 w' : World} {L : List (ByteArray × Int)} {p b m : Nat} {q : Option Addr} {s : Sl} (hl : L.length ≤ 20) (hb2 : Below W.heap.size W w2) (g1 : w2.heap.size ≤ p) (g2 : w2.heap.size ≤ b) (g3 : w2.heap.size ≤ m)
    (hp : PlC w' p b s (fun _ => none) (fun _ => (0, sl0, sl0, sl0, false))) (hx : BxAt w' ⟨b, m, 0, q, (newF L .nil).2, []⟩) (hv : VersAt w' (slV s) [((newR L []).2, [])]) (hb : Below w2.heap.size w2 w') :
    Playing ⟨W.heap.size, [], b⟩ w' p 0 w' := by
  have h1 := newF_sz L .nil
  have h2 := newR_len L []
  simp only [Tr.sz, List.length_nil] at h1 h2
  refine ⟨_, _, s, _, fun _ => none, ⟨hp, hv, hx, (inv_new L b m q).2, ⟨by dsimp only; omega, by simp, by simp, ?_⟩, ⟨⟨Nat.le_trans hb2.size g1, by simp⟩, ⟨Nat.le_trans hb2.size g2, by simp⟩, ⟨Nat.le_trans hb2.size g3, by simp⟩, ⟨Nat.le_trans hb2.size hb.size, by simp⟩, rfl⟩, ?_, ?_⟩, Fr.of (Below.refl _ _)⟩
  · intro V hV
    simp only [List.mem_singleton] at hV
    subst hV
    exact ⟨by dsimp only; omega, by simp⟩
  · intro k _ y hy; cases hy
  · intro j k _ _ _ y z hy; cases hy
set_option maxRecDepth 100000 in
set_option maxHeartbeats 4000000 in
theorem plays_any {W : World} {v u : Value} {L : List (ByteArray × Int)} {A : List ActL} (hL : RowNm W v L) (hA : RowAct W u A) : Calls Try.prog 3 #[v, u] W fun e w' => e = .returned (.bool true) ∧ Below W.heap.size W w' := by
  have HF : ∀ f, Fence.wide.fn f := fun _ => trivial
  have HL := Lib.hid hL; have HA := Lib.hid hA
  obtain ⟨a, ac, rfl, ha1, ha2, -, -⟩ := hL
  obtain ⟨b, bc, rfl, hb1, hb2, -, -⟩ := hA
  unfold maxLen at ha2 hb2
  go_enter Try.func3, Try.ntmps3
  go_wp2_with fail
  refine (awake_any W).mono ?_; rintro e w1 ⟨rfl, b1⟩
  have B1 := Lib.hid b1; clear b1
  by_cases hn : L.length ≤ 20
  · by_cases hk : A.length ≤ 60
    · have t1 : ¬ ((L.length : Int) > 20) := by omega
      have t2 : ¬ ((A.length : Int) > 60) := by omega
      have HNL := Lib.hid hn; have HKL := Lib.hid hk
      go_wp2_with fail
      refine (begin11_any (HL.out.below B1.out) (by have := HNL.out; omega)).mono ?_
      rintro e w2 hp
      rcases hp with ⟨h0, p, bb, m, q, sl, rfl, g1, g2, g3, hpc, hx, hv, hb⟩ | ⟨h0, po, rfl, hb⟩
      · have HPL := Lib.hid (play_start (W := W) HNL.out B1.out g1 g2 g3 hpc hx hv hb)
        have HAT := Lib.hid (show (⟨W.heap.size, [], bb⟩ : Lo).at w2 from ⟨Nat.le_trans B1.out.size hb.size, by simp⟩)
        have B2 := Lib.hid (Below.step B1.out hb)
        obtain ⟨n0, hn0⟩ : ∃ n, (⟨W.heap.size, [], bb⟩ : Lo) = n := ⟨_, rfl⟩
        have HLO := Lib.hid (show n0.lo = W.heap.size by rw [← hn0])
        rw [hn0] at HPL HAT
        have HA2 := Lib.hid (HA.out.below B2.out)
        clear h0 g1 g2 g3 hpc hx hv hb hn0
        go_wp2_with fail
        go_loopw [38] (fun c wr => ∃ i : Nat, i ≤ A.length ∧ c = .int .i64 i ∧ Playing n0 w2 p i wr ∧ Below W.heap.size W wr) (fun c _ => A.length - (intOf c).toNat)
        case atStart => exact ⟨0, Nat.zero_le _, rfl, HPL.out, B2.out⟩
        case round =>
          obtain ⟨i, hi, rfl, hPl, hbw⟩ := hrel
          have HPW := Lib.hid hPl; have HBW := Lib.hid hbw
          clear hPl hbw
          by_cases hlt : i < A.length
          · have hi3 : (i : Int) < (A.length : Int) := by omega
            have hi4 : (0 : Int) ≤ (i : Int) := by omega
            obtain ⟨a', cap', he, -, -, hss, hc⟩ := (HA.out.below HBW.out)
            simp only [Value.slice.injEq] at he
            obtain ⟨rfl, -, rfl⟩ := he
            obtain ⟨b', rfl, m0, m1, m2, m3⟩ := hc i hlt
            obtain ⟨q0, q1, q2⟩ := hss _ (List.getElem_mem hlt)
            generalize A[i] = y at *
            obtain ⟨kd, tx, s, id⟩ := y
            dsimp only at m0 m1 m2 m3 q0 q1 q2
            obtain ⟨wy, hwy⟩ : ∃ w, wr.alloc (.cells #[.int .u8 0, .int .u8 0, .string ⟨#[]⟩, .int .i64 0] 29) = w := ⟨_, rfl⟩
            have ny : wy.heap[wr.heap.size]? = some (.cells #[.int .u8 0, .int .u8 0, .string ⟨#[]⟩, .int .i64 0] 29 (0, 0)) := by rw [← hwy]; exact heap_new _ _
            have hby : Below wr.heap.size wr wy := by rw [← hwy]; exact (Below.refl _ _).alloc (Nat.le_refl _) _
            have y0 : wy.cell? ⟨wr.heap.size, 0, none⟩ = some (.int .u8 0) := by simp [World.cell?, ny]
            have y1 : wy.cell? ⟨wr.heap.size, 1, none⟩ = some (.int .u8 0) := by simp [World.cell?, ny]
            have y2 : wy.cell? ⟨wr.heap.size, 2, none⟩ = some (.string ⟨#[]⟩) := by simp [World.cell?, ny]
            have y3 : wy.cell? ⟨wr.heap.size, 3, none⟩ = some (.int .i64 0) := by simp [World.cell?, ny]
            have f0 : wy.frozen? ⟨wr.heap.size, 0, none⟩ = false := by simp [World.frozen?, ny]
            have f1 : wy.frozen? ⟨wr.heap.size, 1, none⟩ = false := by simp [World.frozen?, ny]
            have f2 : wy.frozen? ⟨wr.heap.size, 2, none⟩ = false := by simp [World.frozen?, ny]
            have f3 : wy.frozen? ⟨wr.heap.size, 3, none⟩ = false := by simp [World.frozen?, ny]
            obtain ⟨w3, hw3⟩ : ∃ w, (((wy.setCell ⟨wr.heap.size, 0, none⟩ (.int .u8 (kd : Int))).setCell ⟨wr.heap.size, 1, none⟩ (.int .u8 (tx : Int))).setCell ⟨wr.heap.size, 2, none⟩ (.string s)).setCell ⟨wr.heap.size, 3, none⟩ (.int .i64 id) = w := ⟨_, rfl⟩
            have hb3 : Below wr.heap.size wr w3 := by rw [← hw3]; exact (((hby.setCell (p := ⟨wr.heap.size, 0, none⟩) (Nat.le_refl _) _).setCell (p := ⟨wr.heap.size, 1, none⟩) (Nat.le_refl _) _).setCell (p := ⟨wr.heap.size, 2, none⟩) (Nat.le_refl _) _).setCell (p := ⟨wr.heap.size, 3, none⟩) (Nat.le_refl _) _
            have n3 : ActC w3 wr.heap.size kd tx s id := by
              unfold ActC
              rw [← hw3]; exact heap_set0 (.int .i64 id) (heap_set0 (.string s) (heap_set0 (.int .u8 (tx : Int)) (heap_set0 (.int .u8 (kd : Int)) ny)))
            obtain ⟨x0, x1, x2, x3⟩ := n3.cells
            have HB3 := Lib.hid hb3; have HQ := Lib.hid (And.intro q0 (And.intro q1 q2)); have HI := Lib.hid hi
            have HIK := Lib.hid (show i ≤ 60 by have := HKL.out; omega)
            clear ny hby hb3 n3 hss hc q0 q1 q2
            go_wp2_with fail
            obtain ⟨X, Vs, mm, rs, f, hP, hF⟩ := HPW.out
            refine (do_any (hP.below HB3.out) HIK.out HQ.out.1 HQ.out.2.1 s HQ.out.2.2 id).mono ?_
            rintro e w4 ⟨rfl, X', Vs', m', rs', f', hP', hF'⟩
            have HF2 := Lib.hid (hF.trans ((Fr.of HB3.out).trans hF')); have HP2 := Lib.hid hP'
            clear hP hF hP' hF' hw3 hwy
            go_wp2_with fail
            refine (is_any HP2.out.1 HP2.out.2.2.1 HP2.out.2.1 HP2.out.2.2.2.1 (by have h1 := HP2.out.2.2.2.2.1.1; have h2 := Tr.sz_eq X'.T; have := HIK.out; omega) (by have := HP2.out.2.2.2.2.1.2.2.1; have := HIK.out; omega)).mono ?_
            rintro e w5 ⟨rfl, b5⟩
            have HP5 := Lib.hid (show Playing n0 w2 p (i + 1) w5 from ⟨X', Vs', m', rs', f', HP2.out.below b5, HF2.out.trans (Fr.of b5)⟩)
            have HB5 := Lib.hid (show Below W.heap.size W w5 from B2.out.trans (by
              have := (HF2.out.trans (Fr.of b5)).below HAT.out
              rw [HLO.out] at this; exact this))
            clear b5 HP2 HF2 y0 y1 y2 y3 f0 f1 f2 f3 x0 x1 x2 x3 m0 m1 m2 m3
            go_wp2_with fail
            go_roundw
            case rel => exact ⟨i + 1, by omega, by go_num, HP5.out, HB5.out⟩
            case measure => simp [intOf]; omega
          · obtain rfl : i = A.length := by omega
            go_wp2_with fail
            go_ret
            exact ⟨rfl, HBW.out⟩
      · have B2 := Lib.hid (Below.step B1.out hb)
        clear h0 hb
        go_wp2_with fail
        go_ret
        exact ⟨rfl, B2.out⟩
    · have t2 : (A.length : Int) > 60 := by omega
      have t1 : ¬ ((L.length : Int) > 20) := by omega
      go_wp2_with fail
      refine (awake_any w1).mono ?_; rintro e w2 ⟨rfl, b2⟩
      have B2 := Lib.hid (Below.step B1.out b2); clear b2
      go_wp2_with fail
      go_ret
      exact ⟨rfl, B2.out⟩
  · have t1 : (L.length : Int) > 20 := by omega
    go_wp2_with fail
    refine (awake_any w1).mono ?_; rintro e w2 ⟨rfl, b2⟩
    have B2 := Lib.hid (Below.step B1.out b2); clear b2
    go_wp2_with fail
    go_ret
    exact ⟨rfl, B2.out⟩
end S
end Go.Proofs.Ytlfodhejpbjfcaa
