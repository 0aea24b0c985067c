/- patch.applied, Apply. -/
import Derived.Test.YtplccefjljdjnaaApplP
import Derived.Test.YtplccefjljdjnaaCat
set_option linter.unusedVariables false
set_option linter.unusedSimpArgs false
namespace Go.Proofs.Ytplccefjljdjnaa
open Go.RowKit Go.Lib
namespace M
attribute [local go_sem] Oper.semAt_some
theorem lit_ch (w : World) (i : Nat) : Chs w.heap.size (w.alloc (.cells #[.int .i64 0, .int .i64 0, .int .i64 (i : Int)] 71)) (.slice (some ⟨w.heap.size, 0, none⟩) 1 1) [⟨0, 0, i⟩] :=
  SlA.lit (l := [(⟨0, 0, i⟩ : Chg)]) encCh_len rfl (by unfold maxLen; simp)
set_option maxRecDepth 100000 in
set_option maxHeartbeats 4000000 in
theorem applied_any {n0 B most b0 : Nat} {W : World} {E : List En} {i : Nat} {t : List Nat} (hs : StAt n0 W B most E) (hwf : WfD E) (hE : E.length ≤ 1048576) (hb : Bal0 E i t) {v : Value} {L : List Chg} (hC : Chs b0 W v L) (hT : Txs E L) (hLb : L.length ≤ 1000000) :
    Calls Try.prog 58 #[.pointer (some ⟨B, 0, none⟩), .int .i64 i, v] W fun e w' => e = .returned (.tuple #[.int .i64 (lngF E t.length L).1, errV (lngF E t.length L).2]) ∧ Below W.heap.size W w' := by
  have HW := Lib.hid (weight_any hs hb.le hE)
  have hwl := (hb.len hwf).2
  obtain ⟨u, hu⟩ : ∃ u, (entAt E i).w = u := ⟨_, rfl⟩
  rw [hu] at HW hwl
  unfold wtV at HW
  have HPB : Hid (∀ w, Below W.heap.size W w → Calls Try.prog 70 #[.pointer (some ⟨B, 0, none⟩), .slice (some ⟨w.heap.size, 0, none⟩) 1 1] (w.alloc (.cells #[.int .i64 0, .int .i64 0, .int .i64 (i : Int)] 71)) fun e w' => e = .returned .nilIface ∧ Below (w.alloc (.cells #[.int .i64 0, .int .i64 0, .int .i64 (i : Int)] 71)).heap.size (w.alloc (.cells #[.int .i64 0, .int .i64 0, .int .i64 (i : Int)] 71)) w') := Lib.hid (fun w hw =>
    pbalanced_any ((hs.below hw).below ((Below.refl _ _).alloc (Nat.le_refl _) _)) hE (lit_ch w i) (fun c hc => by simp at hc; subst hc; exact ⟨hb.le, hb.even⟩) (by simp))
  have HPL := Lib.hid (fun w (hw : Below W.heap.size W w) => plength_any (hs.below hw) hwf.wf hE (hC.below hw) hT hLb (t.length : Int))
  obtain ⟨va, vc, rfl⟩ := hC.len
  obtain ⟨⟨lv, lc⟩, hlv⟩ : ∃ r, lngF E t.length L = r := ⟨_, rfl⟩
  rw [hlv] at HPL ⊢
  dsimp only at HPL ⊢
  have HWL := Lib.hid hwl
  clear hs hwf hb hC hT hlv hu hwl
  go_enter Try.func58, Try.ntmps58
  go_wp2_with fail
  refine HW.out.mono ?_; rintro e w1 ⟨rfl, b1⟩
  obtain ⟨wz, w2, hz, hs1, kw, bw, ⟨p0, p1, p2, p3, p4, p5⟩, q0, q1, q2, q3, q4, q5⟩ := newWt w1 u
  obtain ⟨gc, hgc⟩ : ∃ g, w1.heap.size = g := ⟨_, rfl⟩
  rw [hgc] at hs1 kw p0 p1 p2 p3 p4 p5 q0 q1 q2 q3 q4 q5
  have B2 := Lib.hid (Below.after b1 bw); have KW := Lib.hid kw
  clear b1 kw bw
  go_wp2_with fail
  clear hz hs1 p0 p1 p2 p3 p4 p5 q0 q1 q2 q3 q4 q5 hgc
  refine (HPB.out w2 B2.out).mono ?_; rintro e w3 ⟨rfl, b3⟩
  have b23 : Below w2.heap.size w2 w3 := Below.step ((Below.refl _ _).alloc (Nat.le_refl _) _) b3
  have B3 := Lib.hid (Below.after B2.out b23)
  have KW3 := Lib.hid (show WtC w3 gc u from below_block b23 KW.out)
  obtain ⟨x0, x1, x2, x3, x4, x5⟩ := KW3.out.cells
  rw [HWL.out] at x0
  clear b3 b23
  go_wp2_with fail
  refine (HPL.out w3 B3.out).mono ?_; rintro e w4 ⟨rfl, b4⟩
  have B4 := Lib.hid (Below.after B3.out b4)
  clear b4 x0 x1 x2 x3 x4 x5
  go_wp2_with fail
  go_ret2
  exact ⟨rfl, B4.out⟩
def encIz (z : Int) : List Value := [.int .i64 z]
theorem encIz_len (z : Int) : (encIz z).length = 1 := rfl
theorem encIz_one (z : Int) : ∀ u ∈ encIz z, u.oneCell' = true := by simp [encIz, Value.oneCell']
def ofsZ : List Chg → List Int
  | [] => []
  | c :: L => c.pos :: (c.pos + c.n) :: ofsZ L
theorem ofsZ_snoc : ∀ (L : List Chg) (c : Chg), ofsZ (L ++ [c]) = ofsZ L ++ [c.pos, c.pos + c.n]
  | [], _ => rfl
  | d :: L, c => by show d.pos :: (d.pos + d.n) :: ofsZ (L ++ [c]) = _; rw [ofsZ_snoc L c]; rfl
theorem ofsZ_len : ∀ L : List Chg, (ofsZ L).length = 2 * L.length
  | [] => rfl
  | c :: L => by show (ofsZ L).length + 1 + 1 = _; rw [ofsZ_len L, List.length_cons]; omega
theorem ofsZ_eq : ∀ {L : List Chg}, (∀ c ∈ L, 0 ≤ c.pos ∧ 0 ≤ c.n) → (ofsZ L).flatMap encIz = (ofsF L).flatMap encNt
  | [], _ => rfl
  | c :: L, h => by
    have h1 := h c (by simp)
    have ih := ofsZ_eq (L := L) (fun d hd => h d (by simp [hd]))
    show [Value.int .i64 c.pos] ++ ([Value.int .i64 (c.pos + c.n)] ++ (ofsZ L).flatMap encIz) = [Value.int .i64 (c.pos.toNat : Int)] ++ ([Value.int .i64 ((c.pos + c.n).toNat : Int)] ++ (ofsF L).flatMap encNt)
    rw [ih, show ((c.pos.toNat : Nat) : Int) = c.pos by omega, show (((c.pos + c.n).toNat : Nat) : Int) = c.pos + c.n by omega]
theorem ofsF_ok {len : Nat} : ∀ (L : List Chg) (last : Int) (f : Nat), formF len last L = true → (f : Int) ≤ last + 1 → f ≤ len → ∀ j (h : j < (ofsF L).length), (if j = 0 then f else (ofsF L).getD (j - 1) 0) ≤ (ofsF L)[j] ∧ (ofsF L)[j] ≤ len
  | c :: L, last, f, h, hf, hfl, 0, _ => by
    obtain ⟨g1, g2, g3, g4, g5, g6⟩ := chg_form h
    show f ≤ c.pos.toNat ∧ c.pos.toNat ≤ len
    omega
  | c :: L, last, f, h, hf, hfl, 1, _ => by
    obtain ⟨g1, g2, g3, g4, g5, g6⟩ := chg_form h
    show c.pos.toNat ≤ (c.pos + c.n).toNat ∧ (c.pos + c.n).toNat ≤ len
    omega
  | c :: L, last, f, h, hf, hfl, j + 2, hj => by
    obtain ⟨g1, g2, g3, g4, g5, g6⟩ := chg_form h
    have ih := ofsF_ok L (c.pos + c.n) (c.pos + c.n).toNat g5 (by omega) (by omega) j (by simpa [ofsF] using hj)
    show (if j + 2 = 0 then f else (c.pos.toNat :: (c.pos + c.n).toNat :: ofsF L).getD (j + 2 - 1) 0) ≤ (c.pos.toNat :: (c.pos + c.n).toNat :: ofsF L)[j + 2] ∧ (c.pos.toNat :: (c.pos + c.n).toNat :: ofsF L)[j + 2] ≤ len
    rw [if_neg (by omega)]
    have e : (c.pos.toNat :: (c.pos + c.n).toNat :: ofsF L).getD (j + 2 - 1) 0 = if j = 0 then (c.pos + c.n).toNat else (ofsF L).getD (j - 1) 0 := by
      cases j with
      | zero => simp
      | succ j => simp
    rw [e]
    exact ih
/-- IDs of which every other one has been replaced. -/
def SetTo (L : List Chg) (ids ids' : List Nat) (j : Nat) : Prop := ids'.length = ids.length ∧ ∀ q, ids'[q]? = if q % 2 = 1 ∧ q / 2 < j then (L[q / 2]?).map Chg.id else ids[q]?
theorem SetTo.zero (L : List Chg) (ids : List Nat) : SetTo L ids ids 0 := ⟨rfl, fun q => by rw [if_neg (by omega)]⟩
theorem SetTo.step {L : List Chg} {ids ids' : List Nat} {j : Nat} (h : SetTo L ids ids' j) (hj : j < L.length) (hl : 2 * j + 1 < ids.length) : SetTo L ids (ids'.set (2 * j + 1) L[j].id) (j + 1) := by
  refine ⟨by rw [List.length_set]; exact h.1, fun q => ?_⟩
  rw [List.getElem?_set]
  by_cases hq : 2 * j + 1 = q
  · subst hq
    rw [if_pos rfl, if_pos (by rw [h.1]; exact hl), if_pos (by omega), show (2 * j + 1) / 2 = j by omega, List.getElem?_eq_getElem hj]
    rfl
  · rw [if_neg hq, h.2 q]
    by_cases h2 : q % 2 = 1 ∧ q / 2 < j
    · rw [if_pos h2, if_pos (by omega)]
    · rw [if_neg h2, if_neg (by omega)]
theorem SetTo.bal {E : List En} {L : List Chg} {ids ids' : List Nat} {t : List Nat} (h : SetTo L ids ids' L.length) (hl : ids.length = (ofsF L).length + 1) (hb : ∀ j (h : j < ids.length), Bal0 E ids[j] (partF t (ofsF L) j)) (hT : Txs E L) : BalL E ids' (pcsT E t 0 L) := by
  have hpl := pcsT_len E t L 0
  have hol := ofsF_len L
  refine ⟨by rw [h.1, hl, hpl]; omega, fun j h1 h2 => ?_⟩
  have hj := h.2 j
  rw [List.getElem?_eq_getElem h1] at hj
  by_cases hjj : j % 2 = 1
  · obtain ⟨i, rfl⟩ : ∃ i, j = 2 * i + 1 := ⟨j / 2, by omega⟩
    have hi : i < L.length := by omega
    rw [if_pos (by omega), show (2 * i + 1) / 2 = i by omega, List.getElem?_eq_getElem hi] at hj
    simp only [Option.map_some, Option.some.injEq] at hj
    have hp := pcsT_odd E t L 0 i hi
    rw [List.getElem?_eq_getElem h2] at hp
    rw [hj, Option.some.inj hp]
    have := hT L[i] (List.getElem_mem hi)
    exact ⟨this.1, rfl, this.2⟩
  · obtain ⟨i, rfl⟩ : ∃ i, j = 2 * i := ⟨j / 2, by omega⟩
    rw [if_neg (by omega)] at hj
    have hlt : 2 * i < ids.length := by rw [← h.1]; exact h1
    rw [List.getElem?_eq_getElem hlt] at hj
    have hp := pcsT_even E t L 0 i (by omega)
    rw [List.getElem?_eq_getElem h2, partG_zero] at hp
    rw [Option.some.inj hj, Option.some.inj hp]
    exact hb _ hlt
theorem idsSet {B g n cap : Nat} {W : World} {e : TypeId} {l : List Nat} (h : SlA B W e 1 encNt (.slice (some ⟨g, 0, none⟩) n cap) l) (i x : Nat) : SlA B (W.setCell ⟨g, i, none⟩ (.int .i64 (x : Int))) e 1 encNt (.slice (some ⟨g, 0, none⟩) n cap) (l.set i x) := by
  have hx : ∀ (l : List Nat) (i : Nat), (l.set i x).flatMap encNt = (l.flatMap encNt).set i (.int .i64 (x : Int)) := by
    intro l
    induction l with
    | nil => intro i; rfl
    | cons a l ih =>
      intro i
      cases i with
      | zero => rfl
      | succ i =>
        show encNt a ++ (l.set i x).flatMap encNt = (encNt a ++ l.flatMap encNt).set (i + 1) _
        rw [ih]; rfl
  unfold SlA at h ⊢
  rw [hx, List.length_set]
  refine ⟨by rw [List.length_set]; exact h.1, ?_⟩
  rcases h.2 with ⟨hv, _⟩ | ⟨g', cap', cur, hv, hg, hgb, h1, h2, h3, h4⟩
  · cases hv
  · cases hv
    refine .inr ⟨g, cap, cur.setIfInBounds i (.int .i64 (x : Int)), rfl, hg, heap_set0 _ hgb, h1, h2, by simpa using h3, ?_⟩
    rw [Array.toList_setIfInBounds, List.take_set, h4]
end M
end Go.Proofs.Ytplccefjljdjnaa
