/- A transaction's log as it lies; the law's replay. -/
import Derived.Test.YtlfodhejpbjfcaaSerP
import Derived.Test.YtlfodhejpbjfcaaCom2
import Derived.Test.YtlfodhejpbjfcaaPls
set_option linter.unusedVariables false
set_option linter.unusedSimpArgs false
namespace Go.Proofs.Ytlfodhejpbjfcaa
open Go.RowKit
namespace S
attribute [local go_sem] Oper.semAt_some
def encAc (a : ActS) : List Value := [.int .u8 (a.1 : Int), .int .u8 (a.2.1 : Int), .string a.2.2.1, .int .i64 a.2.2.2]
theorem encAc_len (a : ActS) : (encAc a).length = 4 := rfl
def encIn (z : Int) : List Value := [.int .i64 z]
theorem encIn_len (z : Int) : (encIn z).length = 1 := rfl
theorem encAc_one (a : ActS) : ∀ u ∈ encAc a, u.oneCell' = true := by simp [encAc, Value.oneCell']
theorem encIn_one (z : Int) : ∀ u ∈ encIn z, u.oneCell' = true := by simp [encIn, Value.oneCell']
theorem elemAc : Elem Try.prog 23 29 4 32 := elem_of Try.underlying23 (z := .agg #[.int .u8 0, .int .u8 0, .string ⟨#[]⟩, .int .i64 0]) (by kernel_rfl) rfl (by decide) (by decide)
theorem elemIn : Elem Try.prog 63 3 1 8 := elem_of Try.underlying63 (z := .int .i64 0) (by kernel_rfl) rfl (by decide) (by decide)
abbrev Acs (B : Nat) (W : World) (v : Value) (l : List ActS) : Prop := SlA B W 29 4 encAc v l
abbrev Ins (B : Nat) (W : World) (v : Value) (l : List Int) : Prop := SlA B W 3 1 encIn v l
theorem Acs.at {B : Nat} {W : World} {v : Value} {l : List ActS} (h : Acs B W v l) {i : Nat} (hi : i < l.length) : ∃ g cap, v = .slice (some ⟨g, 0, none⟩) l.length cap ∧
    W.cell? ⟨g, i * 4, none⟩ = some (.int .u8 (l[i].1 : Int)) ∧ W.cell? ⟨g, i * 4 + 1, none⟩ = some (.int .u8 (l[i].2.1 : Int)) ∧ W.cell? ⟨g, i * 4 + 2, none⟩ = some (.string l[i].2.2.1) ∧ W.cell? ⟨g, i * 4 + 3, none⟩ = some (.int .i64 l[i].2.2.2) := by
  rcases h.shape with ⟨-, rfl⟩ | ⟨g, cap, rfl, h1, h2⟩
  · simp at hi
  · have e0 := SlA.cell encAc_len h hi (j := 0) (by omega); have e1 := SlA.cell encAc_len h hi (j := 1) (by omega); have e2 := SlA.cell encAc_len h hi (j := 2) (by omega); have e3 := SlA.cell encAc_len h hi (j := 3) (by omega)
    exact ⟨g, cap, rfl, e0, e1, e2, e3⟩
theorem Ins.at {B : Nat} {W : World} {v : Value} {l : List Int} (h : Ins B W v l) {i : Nat} (hi : i < l.length) : ∃ g cap, v = .slice (some ⟨g, 0, none⟩) l.length cap ∧ W.cell? ⟨g, i, none⟩ = some (.int .i64 l[i]) := by
  rcases h.shape with ⟨-, rfl⟩ | ⟨g, cap, rfl, h1, h2⟩
  · simp at hi
  · have := SlA.cell encIn_len h hi (j := 0) (by omega)
    rw [Nat.mul_one, Nat.add_zero] at this
    exact ⟨g, cap, rfl, this⟩
theorem repC_len (l : Nm) (a : ActS) : (repC l a).2.length ≤ l.length + 1 := by
  unfold repC
  split
  · split
    · split <;> simp
    · split
      · split
        · have := List.length_filter_le (fun p : ByteArray × Int => !(p.1.toList == a.2.2.1.toList)) l
          show (dropR a.2.2.1 l).length ≤ _
          unfold dropR; omega
        · simp
      · exact putR_len _ _ _
  · simp
def ReplayPost (W : World) (l' : Nm) (e : Ending) (w' : World) : Prop := ∃ v', e = .returned (.tuple #[v', .bool true]) ∧ Prs 0 w' v' l' ∧ Below W.heap.size W w'
set_option maxRecDepth 100000 in
set_option maxHeartbeats 8000000 in
theorem replay_any {W : World} {v vd vs : Value} {l l' : Nm} {A : List (ActS × Int)} {B1 B2 : Nat} (h : Prs 0 W v l) (hd : Acs B1 W vd (A.map Prod.fst)) (hs : Ins B2 W vs (A.map Prod.snd)) (hA : ∀ a ∈ A, a.1.1 < 256 ∧ a.1.2.1 < 256 ∧ a.1.2.2.1.size ≤ maxLen)
    (hr : repN l A = some l') (hl : l.length ≤ 10000) (hAl : A.length ≤ 1000) :
    Calls Try.prog 26 #[v, vd, vs] W (ReplayPost W l') := by
  have HF : ∀ f, Fence.wide.fn f := fun _ => trivial
  obtain ⟨a0, c0, rfl⟩ := h.len
  obtain ⟨a1, c1, e1⟩ := hd.len
  obtain ⟨a2, c2, e2⟩ := hs.len
  rw [List.length_map] at e1 e2
  subst e1 e2
  have HP := Lib.hid h; have HD := Lib.hid hd; have HS := Lib.hid hs; have HA := Lib.hid hA; have HR := Lib.hid hr; have HL := Lib.hid hl
  clear h hd hs hA hr hl
  go_enter Try.func26, Try.ntmps26
  go_wp2_with fail
  go_loopw [0, 15] (fun u c wr => ∃ (j : Nat) (lj : Nm), j ≤ A.length ∧ c = .int .i64 j ∧ Prs 0 wr u lj ∧ repN lj (A.drop j) = some l' ∧ lj.length ≤ 10000 + j ∧ Below W.heap.size W wr) (fun _ c _ => A.length - (intOf c).toNat)
  case atStart => exact ⟨0, l, by omega, rfl, HP.out, HR.out, by have := HL.out; omega, Below.refl _ _⟩
  case round =>
    obtain ⟨j, lj, hj, rfl, hP, hR, hlj, hB⟩ := hrel
    obtain ⟨ua, uc, rfl⟩ := hP.len
    have HPj := Lib.hid hP; have HRj := Lib.hid hR; have HLj := Lib.hid hlj; have HB := Lib.hid hB
    clear hP hR hlj hB
    by_cases hlt : j < A.length
    · have hlt2 : (j : Int) < (A.length : Int) := by omega
      obtain ⟨g1, cap1, e1, k0, k1, k2, k3⟩ := Acs.at (HD.out.below HB.out) (i := j) (by rw [List.length_map]; exact hlt)
      obtain ⟨g2, cap2, e2, s0⟩ := Ins.at HS.out (i := j) (by rw [List.length_map]; exact hlt)
      rw [List.length_map] at e1 e2
      simp only [Value.slice.injEq] at e1 e2
      obtain ⟨rfl, -, rfl⟩ := e1
      obtain ⟨rfl, -, rfl⟩ := e2
      simp only [List.getElem_map] at k0 k1 k2 k3 s0
      have HS0 := Lib.hid s0
      have hmem := HA.out _ (List.getElem_mem hlt)
      have hst : (repC lj A[j].1).1 = A[j].2 ∧ repN (repC lj A[j].1).2 (A.drop (j + 1)) = some l' := by
        have := HRj.out
        rw [List.drop_eq_getElem_cons hlt, repN] at this
        split at this
        · exact ⟨‹_›, this⟩
        · cases this
      have hlen' := repC_len lj A[j].1
      clear s0
      generalize A[j] = y at *
      obtain ⟨⟨kd, tx, s, z⟩, sv⟩ := y
      dsimp only at k0 k1 k2 k3 hmem hst hlen'
      obtain ⟨q0, q1, q2⟩ := hmem
      have HST := Lib.hid hst; have HLN := Lib.hid hlen'; have HQ := Lib.hid (And.intro q0 (And.intro q1 q2))
      clear hst hlen'
      obtain ⟨wy, hwy⟩ : ∃ w, wr.alloc (.cells #[.int .u8 0, .int .u8 0, .string ⟨#[]⟩, .int .i64 0] 29) = w := ⟨_, rfl⟩
      have ny : wy.heap[wr.heap.size]? = some (.cells #[.int .u8 0, .int .u8 0, .string ⟨#[]⟩, .int .i64 0] 29 (0, 0)) := by rw [← hwy]; exact heap_new _ _
      have hby : Below wr.heap.size wr wy := by rw [← hwy]; exact (Below.refl _ _).alloc (Nat.le_refl _) _
      have y0 : wy.cell? ⟨wr.heap.size, 0, none⟩ = some (.int .u8 0) := by simp [World.cell?, ny]
      have y1 : wy.cell? ⟨wr.heap.size, 1, none⟩ = some (.int .u8 0) := by simp [World.cell?, ny]
      have y2 : wy.cell? ⟨wr.heap.size, 2, none⟩ = some (.string ⟨#[]⟩) := by simp [World.cell?, ny]
      have y3 : wy.cell? ⟨wr.heap.size, 3, none⟩ = some (.int .i64 0) := by simp [World.cell?, ny]
      have f0 : wy.frozen? ⟨wr.heap.size, 0, none⟩ = false := by simp [World.frozen?, ny]
      have f1 : wy.frozen? ⟨wr.heap.size, 1, none⟩ = false := by simp [World.frozen?, ny]
      have f2 : wy.frozen? ⟨wr.heap.size, 2, none⟩ = false := by simp [World.frozen?, ny]
      have f3 : wy.frozen? ⟨wr.heap.size, 3, none⟩ = false := by simp [World.frozen?, ny]
      obtain ⟨w3, hw3⟩ : ∃ w, (((wy.setCell ⟨wr.heap.size, 0, none⟩ (.int .u8 (kd : Int))).setCell ⟨wr.heap.size, 1, none⟩ (.int .u8 (tx : Int))).setCell ⟨wr.heap.size, 2, none⟩ (.string s)).setCell ⟨wr.heap.size, 3, none⟩ (.int .i64 z) = w := ⟨_, rfl⟩
      have hb3 : Below wr.heap.size wr w3 := by rw [← hw3]; exact (((hby.setCell (p := ⟨wr.heap.size, 0, none⟩) (Nat.le_refl _) _).setCell (p := ⟨wr.heap.size, 1, none⟩) (Nat.le_refl _) _).setCell (p := ⟨wr.heap.size, 2, none⟩) (Nat.le_refl _) _).setCell (p := ⟨wr.heap.size, 3, none⟩) (Nat.le_refl _) _
      have n3 : w3.heap[wr.heap.size]? = some (.cells #[.int .u8 (kd : Int), .int .u8 (tx : Int), .string s, .int .i64 z] 29 (0, 0)) := by
        rw [← hw3]; exact heap_set0 (.int .i64 z) (heap_set0 (.string s) (heap_set0 (.int .u8 (tx : Int)) (heap_set0 (.int .u8 (kd : Int)) ny)))
      have x0 : w3.cell? ⟨wr.heap.size, 0, none⟩ = some (.int .u8 (kd : Int)) := by simp [World.cell?, n3]
      have x2 : w3.cell? ⟨wr.heap.size, 2, none⟩ = some (.string s) := by simp [World.cell?, n3]
      have x3 : w3.cell? ⟨wr.heap.size, 3, none⟩ = some (.int .i64 z) := by simp [World.cell?, n3]
      have HB3 := Lib.hid hb3; have HN3 := Lib.hid n3; have HBW := Lib.hid (Below.step HB.out hb3)
      have HP3 := Lib.hid (HPj.out.below hb3)
      have s3 : w3.cell? ⟨g2, j, none⟩ = some (.int .i64 sv) := cell_on HS0.out HBW.out
      have hkd : kd < 256 := q0
      clear ny hby hb3 n3 q1 q2
      have hs' : s.size ≤ 9223372036854775807 := by have := HQ.out.2.2; unfold maxLen at this; exact this
      have hls : lj.length ≤ 1000000 := by have := HLj.out; omega
      have HFD := Lib.hid (refFind_any s HP3.out hls)
      have HVD := Lib.hid (refValid_any w3 s hs')
      have HPT := Lib.hid (refPut_any s z HP3.out (by have := HLj.out; omega))
      have HDR := Lib.hid (refDrop_any s HP3.out (by have := HLj.out; omega))
      clear hls hs'
      by_cases hk : okName s
      · have hd : decide (1 ≤ s.size ∧ s.size ≤ 32) = true := decide_eq_true hk
        have HRC := Lib.hid (show repC lj (kd, tx, s, z) = if kd % 6 = 1 then (match findR s lj with | some p => (w100 p.2, lj) | none => (5, lj)) else if kd % 6 = 4 then (match findR s lj with | some _ => (0, dropR s lj) | none => (5, lj)) else (0, putR s z lj) by unfold repC; dsimp only; rw [if_pos hk]; rfl)
        cases hf : findR s lj with
        | some p =>
          have hfv : findV (some p) = .tuple #[.int .i64 p.2, .bool true] := rfl
          have HFS := Lib.hid hf; clear hf
          by_cases h1 : kd % 6 = 1
          · have hk1 : (kd : Int) % 6 = 1 := by omega
            have hrc : repC lj (kd, tx, s, z) = (w100 p.2, lj) := by rw [HRC.out, if_pos h1, HFS.out]
            have hst := HST.out
            rw [hrc] at hst
            obtain ⟨hsv, hnx⟩ := hst
            dsimp only at hsv hnx
            have HNX := Lib.hid hnx
            have hx : (wrap64 (p.2 * 100) != sv) = false := by rw [← hsv]; unfold w100; rw [IntWalk.i64_left]; simp
            clear hrc hnx hsv h1
            go_wp2_with fail
            refine HFD.out.mono ?_; rintro e w ⟨rfl, h⟩; rw [h, HFS.out, hfv]; clear h w hfv
            go_wp2_with fail
            refine HVD.out.mono ?_; rintro e w ⟨rfl, h⟩; rw [h, hd]; clear h w hd
            go_wp2_with fail
            go_roundw
            case rel => exact ⟨j + 1, _, by omega, by go_num, HP3.out, HNX.out, by have := HLj.out; omega, HBW.out⟩
            case measure => simp [intOf]; omega
          · by_cases h4 : kd % 6 = 4
            · have hk1 : ¬ (kd : Int) % 6 = 1 := by omega
              have hk4 : (kd : Int) % 6 = 4 := by omega
              have hrc : repC lj (kd, tx, s, z) = (0, dropR s lj) := by rw [HRC.out, if_neg h1, if_pos h4, HFS.out]
              have hst := HST.out
              rw [hrc] at hst
              obtain ⟨hsv, hnx⟩ := hst
              dsimp only at hsv hnx
              have HNX := Lib.hid hnx
              have hx : ((0 : Int) != sv) = false := by rw [← hsv]; rfl
              have HRC1 := Lib.hid hrc
              clear hrc hnx hsv h1 h4
              go_wp2_with fail
              refine HFD.out.mono ?_; rintro e w ⟨rfl, h⟩; rw [h, HFS.out, hfv]; clear h w hfv
              go_wp2_with fail
              refine HVD.out.mono ?_; rintro e w ⟨rfl, h⟩; rw [h, hd]; clear h w hd
              go_wp2_with fail
              refine HDR.out.mono ?_
              rintro e w4 ⟨v4, rfl, hP4, hb4⟩
              obtain ⟨va, vc, rfl⟩ := hP4.len
              have s4 : w4.cell? ⟨g2, j, none⟩ = some (.int .i64 sv) := cell_on s3 hb4
              have HP4 := Lib.hid hP4; have HB4 := Lib.hid (Below.step HBW.out hb4)
              clear hP4 hb4 s3 x0 x2 x3
              go_wp2_with fail
              go_roundw
              case rel => exact ⟨j + 1, _, by omega, by go_num, HP4.out, HNX.out, by have h1 := HLj.out; have h2 := HLN.out; rw [HRC1.out] at h2; dsimp only at h2; omega, HB4.out⟩
              case measure => simp [intOf]; omega
            · have hk1 : ¬ (kd : Int) % 6 = 1 := by omega
              have hk4 : ¬ (kd : Int) % 6 = 4 := by omega
              have hrc : repC lj (kd, tx, s, z) = (0, putR s z lj) := by rw [HRC.out, if_neg h1, if_neg h4]
              have hst := HST.out
              rw [hrc] at hst
              obtain ⟨hsv, hnx⟩ := hst
              dsimp only at hsv hnx
              have HNX := Lib.hid hnx
              have hx : ((0 : Int) != sv) = false := by rw [← hsv]; rfl
              have HRC1 := Lib.hid hrc
              clear hrc hnx hsv h1 h4
              go_wp2_with fail
              refine HFD.out.mono ?_; rintro e w ⟨rfl, h⟩; rw [h, HFS.out, hfv]; clear h w hfv
              go_wp2_with fail
              refine HVD.out.mono ?_; rintro e w ⟨rfl, h⟩; rw [h, hd]; clear h w hd
              go_wp2_with fail
              refine HPT.out.mono ?_
              rintro e w4 ⟨v4, rfl, hP4, hb4⟩
              obtain ⟨va, vc, rfl⟩ := hP4.len
              have s4 : w4.cell? ⟨g2, j, none⟩ = some (.int .i64 sv) := cell_on s3 hb4
              have HP4 := Lib.hid hP4; have HB4 := Lib.hid (Below.step HBW.out hb4)
              clear hP4 hb4 s3 x0 x2 x3
              go_wp2_with fail
              go_roundw
              case rel => exact ⟨j + 1, _, by omega, by go_num, HP4.out, HNX.out, by have h1 := HLj.out; have h2 := HLN.out; rw [HRC1.out] at h2; dsimp only at h2; omega, HB4.out⟩
              case measure => simp [intOf]; omega
        | none =>
          have hfv : findV none = .tuple #[.int .i64 0, .bool false] := rfl
          have HFS := Lib.hid hf; clear hf
          by_cases h1 : kd % 6 = 1
          · have hk1 : (kd : Int) % 6 = 1 := by omega
            have hrc : repC lj (kd, tx, s, z) = (5, lj) := by rw [HRC.out, if_pos h1, HFS.out]
            have hst := HST.out
            rw [hrc] at hst
            obtain ⟨hsv, hnx⟩ := hst
            dsimp only at hsv hnx
            have HNX := Lib.hid hnx
            have hx : ((5 : Int) != sv) = false := by rw [← hsv]; rfl
            clear hrc hnx hsv h1
            go_wp2_with fail
            refine HFD.out.mono ?_; rintro e w ⟨rfl, h⟩; rw [h, HFS.out, hfv]; clear h w hfv
            go_wp2_with fail
            refine HVD.out.mono ?_; rintro e w ⟨rfl, h⟩; rw [h, hd]; clear h w hd
            go_wp2_with fail
            go_roundw
            case rel => exact ⟨j + 1, _, by omega, by go_num, HP3.out, HNX.out, by have := HLj.out; omega, HBW.out⟩
            case measure => simp [intOf]; omega
          · by_cases h4 : kd % 6 = 4
            · have hk1 : ¬ (kd : Int) % 6 = 1 := by omega
              have hk4 : (kd : Int) % 6 = 4 := by omega
              have hrc : repC lj (kd, tx, s, z) = (5, lj) := by rw [HRC.out, if_neg h1, if_pos h4, HFS.out]
              have hst := HST.out
              rw [hrc] at hst
              obtain ⟨hsv, hnx⟩ := hst
              dsimp only at hsv hnx
              have HNX := Lib.hid hnx
              have hx : ((5 : Int) != sv) = false := by rw [← hsv]; rfl
              clear hrc hnx hsv h1 h4
              go_wp2_with fail
              refine HFD.out.mono ?_; rintro e w ⟨rfl, h⟩; rw [h, HFS.out, hfv]; clear h w hfv
              go_wp2_with fail
              refine HVD.out.mono ?_; rintro e w ⟨rfl, h⟩; rw [h, hd]; clear h w hd
              go_wp2_with fail
              go_roundw
              case rel => exact ⟨j + 1, _, by omega, by go_num, HP3.out, HNX.out, by have := HLj.out; omega, HBW.out⟩
              case measure => simp [intOf]; omega
            · have hk1 : ¬ (kd : Int) % 6 = 1 := by omega
              have hk4 : ¬ (kd : Int) % 6 = 4 := by omega
              have hrc : repC lj (kd, tx, s, z) = (0, putR s z lj) := by rw [HRC.out, if_neg h1, if_neg h4]
              have hst := HST.out
              rw [hrc] at hst
              obtain ⟨hsv, hnx⟩ := hst
              dsimp only at hsv hnx
              have HNX := Lib.hid hnx
              have hx : ((0 : Int) != sv) = false := by rw [← hsv]; rfl
              have HRC1 := Lib.hid hrc
              clear hrc hnx hsv h1 h4
              go_wp2_with fail
              refine HFD.out.mono ?_; rintro e w ⟨rfl, h⟩; rw [h, HFS.out, hfv]; clear h w hfv
              go_wp2_with fail
              refine HVD.out.mono ?_; rintro e w ⟨rfl, h⟩; rw [h, hd]; clear h w hd
              go_wp2_with fail
              refine HPT.out.mono ?_
              rintro e w4 ⟨v4, rfl, hP4, hb4⟩
              obtain ⟨va, vc, rfl⟩ := hP4.len
              have s4 : w4.cell? ⟨g2, j, none⟩ = some (.int .i64 sv) := cell_on s3 hb4
              have HP4 := Lib.hid hP4; have HB4 := Lib.hid (Below.step HBW.out hb4)
              clear hP4 hb4 s3 x0 x2 x3
              go_wp2_with fail
              go_roundw
              case rel => exact ⟨j + 1, _, by omega, by go_num, HP4.out, HNX.out, by have h1 := HLj.out; have h2 := HLN.out; rw [HRC1.out] at h2; dsimp only at h2; omega, HB4.out⟩
              case measure => simp [intOf]; omega
      · have hd : decide (1 ≤ s.size ∧ s.size ≤ 32) = false := decide_eq_false hk
        obtain ⟨R, hR⟩ : ∃ R, findR s lj = R := ⟨_, rfl⟩
        have HFS := Lib.hid hR; clear hR
        obtain ⟨b1, b2, hfv⟩ : ∃ b1 b2, findV R = .tuple #[.int .i64 b1, .bool b2] := by cases R <;> exact ⟨_, _, rfl⟩
        skip
        have hrc : repC lj (kd, tx, s, z) = (13, lj) := by unfold repC; dsimp only; rw [if_neg hk]
        have hst := HST.out
        rw [hrc] at hst
        obtain ⟨hsv, hnx⟩ := hst
        dsimp only at hsv hnx
        have HNX := Lib.hid hnx
        have hx : ((13 : Int) != sv) = false := by rw [← hsv]; rfl
        clear hrc hnx hsv
        go_wp2_with fail
        refine HFD.out.mono ?_; rintro e w ⟨rfl, h⟩; rw [h, HFS.out, hfv]; clear h w hfv
        go_wp2_with fail
        refine HVD.out.mono ?_; rintro e w ⟨rfl, h⟩; rw [h, hd]; clear h w hd
        go_wp2_with fail
        go_roundw
        case rel => exact ⟨j + 1, _, by omega, by go_num, HP3.out, HNX.out, by have := HLj.out; omega, HBW.out⟩
        case measure => simp [intOf]; omega
    · have hjl : A.length = j := by omega
      have hlt2 : ¬ (j : Int) < (A.length : Int) := by omega
      have hfin := HRj.out
      rw [← hjl, List.drop_length, repN] at hfin
      simp only [Option.some.injEq] at hfin
      have HPe : Hid (Prs 0 wr (.slice ua lj.length uc) l') := Lib.hid (by rw [← hfin]; exact HPj.out)
      clear hfin
      go_wp2_with fail
      go_ret2
      exact ⟨_, rfl, HPe.out, HB.out⟩
end S
end Go.Proofs.Ytlfodhejpbjfcaa
