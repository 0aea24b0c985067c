/- Which letters of a result are fresh, how many, and the order of the kept ones. No walk. -/
import Derived.Test.YtplccefjljdjnaaPatch3
import Derived.Test.YtplccefjljdjnaaAncP
namespace Go.Proofs.Ytplccefjljdjnaa
open Go.RowKit Go.Lib
namespace M
attribute [local go_sem] Oper.semAt_some
/-- What Size answers. -/
def szF (E : List En) (L : List Chg) : Int × Int × Int :=
  if chkF maxL L ≠ 0 then (0, 0, chkF maxL L) else if (insF E L : Int) ≤ maxL then (delF L, (insF E L : Int), 0) else (0, 0, 2)
set_option maxRecDepth 100000 in
set_option maxHeartbeats 8000000 in
theorem psizeAll_any {n0 B most b0 : Nat} {W : World} {E : List En} (hs : StAt n0 W B most E) (hwf : Wf E) (hE : E.length ≤ 1048576) {v : Value} {L : List Chg} (hC : Chs b0 W v L) (hT : Txs E L) (hLb : L.length ≤ 1000000) :
    Calls Try.prog 30 #[.pointer (some ⟨B, 0, none⟩), v] W fun e w' => e = .returned (.tuple #[.int .i64 (szF E L).1, .int .i64 (szF E L).2.1, errV (szF E L).2.2]) ∧ Below W.heap.size W w' := by
  have HS := Lib.hid hs; have HC := Lib.hid hC; have HT := Lib.hid hT; have HWF := Lib.hid hwf
  have HCK := Lib.hid (check_any hs hE hC hT hLb maxL)
  obtain ⟨va, vc, rfl⟩ := hC.len
  obtain ⟨res, hres⟩ : ∃ r, szF E L = r := ⟨_, rfl⟩
  have HR := Lib.hid hres
  rw [hres]
  clear hs hC hT hres hwf
  rw [show maxL = 1152921504606846976 from rfl] at HCK
  by_cases hck : chkF 1152921504606846976 L = 0
  · rw [hck] at HCK
    have hH : formF 1152921504606846976 (-1) L = true := by
      unfold chkF maxL at hck
      split at hck
      · cases hck
      · split at hck
        · rename_i h2; exact h2
        · cases hck
    have HD : Hid (∀ j, 0 ≤ delF (L.take j) ∧ delF (L.take j) ≤ 1152921504606846976) := Lib.hid (fun j => del_le (by omega) (formF_take hH j))
    have HRR : Hid (res = if (insF E L : Int) ≤ 1152921504606846976 then (delF L, (insF E L : Int), 0) else (0, 0, 2)) := Lib.hid (by
      rw [← HR.out]; unfold szF maxL; rw [if_neg (by rw [hck]; simp)])
    clear hck hH
    unfold errV at HCK
    rw [if_pos rfl] at HCK
    go_enter Try.func30, Try.ntmps30
    go_wp2_with fail
    refine HCK.out.mono ?_; rintro e w0 ⟨rfl, b0'⟩
    have HB0 := Lib.hid b0'
    clear b0' HCK
    go_wp2_with fail
    go_loopw [4, 5, 20] (fun dv nv iv wr => ∃ (j y : Nat) (x : Int), iv = .int .i64 j ∧ dv = .int .i64 x ∧ nv = .int .i64 y ∧ j ≤ L.length ∧ x = delF (L.take j) ∧ y = insF E (L.take j) ∧ y ≤ 1152921504606846976 ∧ Below W.heap.size W wr) (fun _ _ iv _ => L.length - (intOf iv).toNat)
    case atStart => exact ⟨0, 0, 0, rfl, rfl, rfl, Nat.zero_le _, rfl, rfl, by omega, HB0.out⟩
    case round =>
      clear HB0
      obtain ⟨j, y, x, rfl, rfl, rfl, hj, hx, hy, hyb, hB⟩ := hrel
      have HB := Lib.hid hB; have HX := Lib.hid hx; have HY := Lib.hid hy
      clear hB hx hy
      by_cases hlt : j < L.length
      · have hlt2 : (j : Int) < (L.length : Int) := by omega
        have hlt3 : (0 : Int) ≤ (j : Int) := by omega
        obtain ⟨g, cap, hv, -, -, hc⟩ := HC.out.at hlt
        simp only [Value.slice.injEq] at hv
        obtain ⟨rfl, -, rfl⟩ := hv
        obtain ⟨q0, q1, q2⟩ := hc wr HB.out j hlt
        have hnx : x + L[j].n = delF (L.take (j + 1)) := by rw [take_snoc hlt, delF_snoc]; have := HX.out; omega
        have hws : IntKind.i64.wrap (x + L[j].n) = x + L[j].n := by have := HD.out (j + 1); rw [IntKind.wrap_i64]; omega
        have HNY : Hid (y + (txt E L[j].id).length = insF E (L.take (j + 1))) := Lib.hid (by rw [take_snoc hlt, insF_snoc]; have := HY.out; omega)
        have HIT := Lib.hid (insF_take_le E L (j + 1))
        obtain ⟨hid, -⟩ := HT.out L[j] (List.getElem_mem hlt)
        generalize L[j] = c at *
        obtain ⟨wz, w1, hz, hs1, kc, bc, ⟨p0, p1, p2⟩, f0, f1, f2⟩ := newCh wr c
        obtain ⟨gc, hgc⟩ : ∃ x, wr.heap.size = x := ⟨_, rfl⟩
        rw [hgc] at hs1 p0 p1 p2 f0 f1 f2 kc
        obtain ⟨y0, y1, y2⟩ := kc.cells
        obtain ⟨hw, hwl⟩ := HWF.out.len hid
        have HPS := Lib.hid (psize_any ((HS.out.below HB.out).below bc) hid hE)
        obtain ⟨tl, htl⟩ : ∃ n, (txt E c.id).length = n := ⟨_, rfl⟩
        have hwe : (entAt E c.id).w.len = tl := by rw [hw, ← htl]; rfl
        rw [hwe] at HPS
        rw [htl] at HNY hwl
        have HAD := Lib.hid (fun w => add1_any w hyb hwl)
        have HB1 := Lib.hid (Below.after HB.out bc); have HNX := Lib.hid hnx; have KC := Lib.hid kc
        clear hc bc kc hw hwe htl hnx
        by_cases hsum : y + tl ≤ 1152921504606846976
        · simp only [if_pos hsum] at HAD
          go_wp2_with fail
          refine HPS.out.mono ?_; rintro e w2 ⟨rfl, b2⟩
          have HB2 := Lib.hid (Below.after HB1.out b2)
          obtain ⟨z0, z1, z2⟩ := ChC.cells (show ChC w2 gc c from below_block b2 KC.out)
          clear b2
          clear hz hs1 p0 p1 p2 f0 f1 f2 q0 q1 q2 y0 y1 y2 hgc
          go_wp2_with fail
          refine (HAD.out w2).mono ?_; rintro e w ⟨rfl, h⟩; rw [h]; clear h w
          go_wp2_with fail
          clear z0 z1 z2 hws
          go_roundw
          case rel => exact ⟨j + 1, y + tl, x + c.n, by go_num, rfl, rfl, by omega, HNX.out, HNY.out, hsum, HB2.out⟩
          case measure => first | (simp [intOf]; omega) | simp [intOf]
        · simp only [if_neg hsum] at HAD
          unfold err at HAD
          have HE2 : Hid (res = (0, 0, 2)) := Lib.hid (by rw [HRR.out, if_neg (by have := HNY.out; have := HIT.out; omega)])
          clear hsum
          go_wp2_with fail
          refine HPS.out.mono ?_; rintro e w2 ⟨rfl, b2⟩
          have HB2 := Lib.hid (Below.after HB1.out b2)
          clear b2
          clear hz hs1 p0 p1 p2 f0 f1 f2 q0 q1 q2 y0 y1 y2 hgc
          go_wp2_with fail
          refine (HAD.out w2).mono ?_; rintro e w ⟨rfl, h⟩; rw [h]; clear h w
          go_wp2_with fail
          go_ret3
          exact ⟨by rw [HE2.out]; rfl, HB2.out⟩
      · have hlt2 : ¬ (j : Int) < (L.length : Int) := by omega
        have HE2 : Hid (res = (x, (y : Int), 0)) := Lib.hid (by
          have h := HY.out; have h2 := HX.out
          rw [List.take_of_length_le (by omega)] at h h2
          rw [HRR.out, if_pos (by omega), h, h2])
        clear hlt hj hyb
        go_wp2_with fail
        go_ret3
        exact ⟨by rw [HE2.out]; rfl, HB.out⟩
  · obtain ⟨cd, hcd⟩ : ∃ c, chkF 1152921504606846976 L = c := ⟨_, rfl⟩
    have HE2 : Hid (res = (0, 0, cd)) := Lib.hid (by rw [← HR.out]; unfold szF maxL; rw [if_pos hck, hcd])
    have HEV : Hid (errV cd = err cd) := Lib.hid (by unfold errV; rw [if_neg (by rw [← hcd]; exact hck)])
    rw [hcd, HEV.out] at HCK
    unfold err at HCK
    clear hck hcd
    go_enter Try.func30, Try.ntmps30
    go_wp2_with fail
    refine HCK.out.mono ?_; rintro e w0 ⟨rfl, b0'⟩
    have HB0 := Lib.hid b0'
    clear b0' HCK
    go_wp2_with fail
    go_ret3
    exact ⟨by rw [HE2.out]; show _ = Ending.returned (.tuple #[.int .i64 0, .int .i64 0, errV cd]); rw [HEV.out]; rfl, HB0.out⟩
end M
end Go.Proofs.Ytplccefjljdjnaa
namespace Go.Proofs.Ytplccefjljdjnaa
open Go.RowKit
namespace M
/-- How many of so many letters behind an offset are fresh. -/
def frs (f : Int → Bool) (a : Int) : Nat → Nat
  | 0 => 0
  | k + 1 => frs f a k + if f (a + k) then 0 else 1
theorem frs_add (f : Int → Bool) (a : Int) (k : Nat) : ∀ m, frs f a (k + m) = frs f a k + frs f (a + k) m
  | 0 => rfl
  | m + 1 => by
    show frs f a (k + m) + (if f (a + ((k + m : Nat) : Int)) then 0 else 1) = frs f a k + (frs f (a + k) m + (if f (a + k + m) then 0 else 1))
    rw [frs_add f a k m, show a + ((k + m : Nat) : Int) = a + k + m by omega]
    omega
theorem frs_congr {f g : Int → Bool} {a : Int} : ∀ k, (∀ i : Nat, i < k → f (a + i) = g (a + i)) → frs f a k = frs g a k
  | 0, _ => rfl
  | k + 1, h => by
    show frs f a k + _ = frs g a k + _
    rw [frs_congr k (fun i hi => h i (by omega)), h k (by omega)]
theorem frs_true {f : Int → Bool} {a : Int} : ∀ k, (∀ i : Nat, i < k → f (a + i) = true) → frs f a k = 0
  | 0, _ => rfl
  | k + 1, h => by
    show frs f a k + _ = 0
    rw [frs_true k (fun i hi => h i (by omega)), h k (by omega)]; rfl
theorem frs_false {f : Int → Bool} {a : Int} : ∀ k, (∀ i : Nat, i < k → f (a + i) = false) → frs f a k = k
  | 0, _ => rfl
  | k + 1, h => by
    show frs f a k + _ = k + 1
    rw [frs_false k (fun i hi => h i (by omega)), h k (by omega)]; rfl
theorem frs_back {E : List En} {len : Int} : ∀ (L : List Chg) (last s a : Int) (k : Nat), formF len last L = true → a - s ≤ last + 1 → last ≤ len → a + k = len + moreF E s L → frs (fun x => (backR E x s L).2) a k = insF E L
  | [], _, s, a, k, _, _, _, _ => frs_true k (fun i hi => rfl)
  | c :: L, last, s, a, k, h, h1, h2, h3 => by
    obtain ⟨a1, a2, a3, a4, a5, a6⟩ := chg_form h
    obtain ⟨d1, d2⟩ := del_rest a6 a5 (by omega) a3
    rw [moreF_cons] at h3
    have hm := moreF_eq E L (s + ((txt E c.id).length - c.n))
    obtain ⟨k1, hk1⟩ : ∃ k1 : Nat, c.pos + s - a = k1 := ⟨(c.pos + s - a).toNat, by omega⟩
    obtain ⟨tl, htl⟩ : ∃ n, (txt E c.id).length = n := ⟨_, rfl⟩
    rw [htl] at hm h3
    obtain ⟨k3, hk3⟩ : ∃ k3 : Nat, k = k1 + (tl + k3) := ⟨k - k1 - tl, by omega⟩
    rw [hk3, frs_add, frs_add, insF_cons, htl]
    have e1 : frs (fun x => (backR E x s (c :: L)).2) a k1 = 0 := frs_true k1 (fun i hi => by rw [backR_cons, if_pos (by omega)])
    have e2 : frs (fun x => (backR E x s (c :: L)).2) (a + k1) tl = tl := frs_false tl (fun i hi => by rw [backR_cons, if_neg (by omega), if_pos (by omega)])
    have e3 : frs (fun x => (backR E x s (c :: L)).2) (a + k1 + tl) k3 = frs (fun x => (backR E x (s + (tl - c.n)) L).2) (a + k1 + tl) k3 := frs_congr k3 (fun i hi => by rw [backR_cons, if_neg (by omega), if_neg (by omega), htl])
    rw [e1, e2, e3, frs_back L _ _ _ _ a5 (by omega) (by omega) (by omega)]
    omega
theorem backR_lo {E : List En} {len y : Int} : ∀ (L : List Chg) (last s : Int), formF len last L = true → last + s ≤ y → (backR E y s L).2 = true → last ≤ (backR E y s L).1
  | [], last, s, _, h1, _ => by show last ≤ y - s; omega
  | c :: L, last, s, h, h1, hk => by
    obtain ⟨a1, a2, a3, a4, a5, a6⟩ := chg_form h
    rw [backR_cons] at hk ⊢
    by_cases g1 : y < c.pos + s
    · rw [if_pos g1]; dsimp only; omega
    · rw [if_neg g1] at hk ⊢
      by_cases g2 : y < c.pos + s + (txt E c.id).length
      · rw [if_pos g2] at hk; cases hk
      · rw [if_neg g2] at hk ⊢
        have := backR_lo (E := E) (len := len) (y := y) L (c.pos + c.n) _ a5 (by omega) hk
        omega
theorem backR_hi {E : List En} {len y : Int} : ∀ (L : List Chg) (last s : Int), formF len last L = true → y < len + moreF E s L → (backR E y s L).2 = true → (backR E y s L).1 < len
  | [], last, s, _, h1, _ => by
    have h1' : y < len + s := h1
    show y - s < len; omega
  | c :: L, last, s, h, h1, hk => by
    obtain ⟨a1, a2, a3, a4, a5, a6⟩ := chg_form h
    rw [backR_cons] at hk ⊢
    by_cases g1 : y < c.pos + s
    · rw [if_pos g1]; dsimp only; omega
    · rw [if_neg g1] at hk ⊢
      by_cases g2 : y < c.pos + s + (txt E c.id).length
      · rw [if_pos g2] at hk; cases hk
      · rw [if_neg g2] at hk ⊢
        exact backR_hi L _ _ a5 h1 hk
theorem backR_mono {E : List En} {len y z : Int} (hyz : y < z) : ∀ (L : List Chg) (last s : Int), formF len last L = true → (backR E y s L).2 = true → (backR E z s L).2 = true → (backR E y s L).1 < (backR E z s L).1
  | [], last, s, _, _, _ => by show y - s < z - s; omega
  | c :: L, last, s, h, hk, hl => by
    obtain ⟨a1, a2, a3, a4, a5, a6⟩ := chg_form h
    rw [backR_cons] at hk hl ⊢
    rw [backR_cons]
    by_cases g1 : y < c.pos + s
    · rw [if_pos g1]
      by_cases g2 : z < c.pos + s
      · rw [if_pos g2]; dsimp only; omega
      · rw [if_neg g2] at hl ⊢
        by_cases g3 : z < c.pos + s + (txt E c.id).length
        · rw [if_pos g3] at hl; cases hl
        · rw [if_neg g3] at hl ⊢
          have := backR_lo (E := E) (len := len) (y := z) L (c.pos + c.n) _ a5 (by omega) hl
          dsimp only; omega
    · rw [if_neg g1] at hk ⊢
      by_cases g2 : y < c.pos + s + (txt E c.id).length
      · rw [if_pos g2] at hk; cases hk
      · rw [if_neg g2] at hk ⊢
        rw [if_neg (show ¬ z < c.pos + s by omega), if_neg (show ¬ z < c.pos + s + ((txt E c.id).length : Int) by omega)] at hl ⊢
        exact backR_mono hyz L _ _ a5 hk hl
theorem backR_zero {E : List En} {y : Int} : ∀ (L : List Chg) (s : Int), (backR E y s L).2 = false → (backR E y s L).1 = 0
  | [], s, h => by cases h
  | c :: L, s, h => by
    rw [backR_cons] at h ⊢
    by_cases g1 : y < c.pos + s
    · rw [if_pos g1] at h; cases h
    · rw [if_neg g1] at h ⊢
      by_cases g2 : y < c.pos + s + (txt E c.id).length
      · rw [if_pos g2]
      · rw [if_neg g2] at h ⊢
        exact backR_zero L _ h
theorem formF_wide {len len2 : Int} (h : len ≤ len2) (h2 : len2 ≤ maxL) : ∀ (L : List Chg) (last : Int), formF len last L = true → formF len2 last L = true
  | [], _, _ => rfl
  | c :: L, last, hf => by
    simp only [formF, chgOk, Bool.and_eq_true] at hf ⊢
    obtain ⟨⟨⟨h3, h4⟩, h6⟩, h5⟩ := hf
    obtain ⟨g, g0, a, b, e, f⟩ := rngB_iff.1 h3
    exact ⟨⟨⟨rngB_iff.2 ⟨by omega, h2, a, b, by omega, by omega⟩, h4⟩, h6⟩, formF_wide h h2 L _ h5⟩
/-- Size of a patch that fits. -/
theorem szF_ok {E : List En} {len : Int} {L : List Chg} (h : (lngF E len L).2 = 0) : szF E L = (delF L, (insF E L : Int), 0) := by
  obtain ⟨o1, o2, o3, o4, o5⟩ := lngF_ok h
  have hd := del_le o1 o3
  have hc : chkF maxL L = 0 := by
    unfold chkF
    rw [if_neg (by unfold maxL; omega), if_pos (show formF maxL (-1) L = true from formF_wide o2 (Int.le_refl _) L _ o3)]
  unfold szF
  rw [if_neg (by rw [hc]; simp), if_pos (by unfold maxL; omega)]
/-- All fresh letters of a result are those put in. -/
theorem frs_all {E : List En} {len : Int} {L : List Chg} (h : (lngF E len L).2 = 0) {k : Nat} (hk : (lngF E len L).1 = k) : frs (fun x => (backR E x 0 L).2) 0 k = insF E L := by
  obtain ⟨o1, o2, o3, o4, o5⟩ := lngF_ok h
  have hm := moreF_eq E L 0
  exact frs_back L (-1) 0 0 k o3 (by omega) (by omega) (by omega)
theorem ins_small {E : List En} : ∀ (L : List Chg), (∀ c ∈ L, (txt E c.id).length ≤ 40) → insF E L ≤ 40 * L.length
  | [], _ => Nat.zero_le _
  | c :: L, h => by
    have h1 := ins_small L (fun d hd => h d (List.mem_cons_of_mem _ hd))
    have h2 := h c (List.mem_cons_self ..)
    rw [insF_cons, List.length_cons]; omega
end M
end Go.Proofs.Ytplccefjljdjnaa
