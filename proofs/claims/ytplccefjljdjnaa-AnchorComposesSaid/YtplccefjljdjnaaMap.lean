/- anchor.Map. -/
import Derived.Test.YtplccefjljdjnaaPrep
set_option linter.unusedVariables false
set_option linter.unusedSimpArgs false
namespace Go.Proofs.Ytplccefjljdjnaa
open Go.RowKit Go.Lib
namespace M
attribute [local go_sem] Oper.semAt_some
theorem insF_cons (E : List En) (c : Chg) (L : List Chg) : insF E (c :: L) = (txt E c.id).length + insF E L := rfl
theorem mvsF_in {E : List En} {len : Int} : ∀ (L : List Chg) (last more : Int), formF len last L = true → len ≤ 1152921504606846976 → -1152921504606846976 ≤ more - delF L → more + insF E L ≤ 1152921504606846976 → 0 ≤ delF L →
    ∀ m ∈ mvsF E more L, (-1152921504606846976 ≤ m.to ∧ m.to ≤ 1152921504606846976) ∧ (-2305843009213693952 ≤ m.nt ∧ m.nt ≤ 2305843009213693952) ∧ (-2305843009213693952 ≤ m.nf ∧ m.nf ≤ 2305843009213693952)
  | [], _, _, _, _, _, _, _, m, hm => by cases hm
  | c :: L, last, more, h, hl, h1, h2, h3, m, hm => by
    obtain ⟨a, b, e⟩ := formF_mem (c :: L) last h c (List.mem_cons_self ..)
    have hd : 0 ≤ delF L := by
      clear h1 h2 h3 hm
      simp only [formF, Bool.and_eq_true] at h
      have h5 := h.2
      clear h
      revert h5
      generalize c.pos + c.n = y
      intro h5
      have : ∀ (L : List Chg) (y : Int), formF len y L = true → 0 ≤ delF L := by
        intro L
        induction L with
        | nil => intro y _; exact Int.le_refl _
        | cons q L ih =>
          intro y hq
          have := formF_mem (q :: L) y hq q (List.mem_cons_self ..)
          simp only [formF, Bool.and_eq_true] at hq
          have := ih _ hq.2
          show 0 ≤ q.n + delF L
          omega
      exact this L y h5
    rw [insF_cons] at h2
    have hdc : delF (c :: L) = c.n + delF L := rfl
    rw [hdc] at h1 h3
    rcases List.mem_cons.1 hm with rfl | hm
    · dsimp only
      omega
    · simp only [formF, Bool.and_eq_true] at h
      exact mvsF_in L _ _ h.2 hl (by omega) (by omega) hd m hm
theorem mvs_inB {E : List En} {len : Int} {L : List Chg} (h : (lngF E len L).2 = 0) : InB (mvsF E 0 L) := by
  obtain ⟨o1, o2, o3, o4, -⟩ := lngF_ok h
  have hd := del_le o1 o3
  exact mvsF_in L (-1) 0 o3 o2 (by omega) (by omega) hd.1
theorem prepF_ok {E : List En} {len : Int} {L : List Chg} {A : List (Int × Bool)} (h : prepF E len L A = 0) : (lngF E len L).2 = 0 ∧ ∀ a ∈ A, 0 ≤ a.1 ∧ a.1 ≤ len := by
  unfold prepF at h
  split at h
  · cases h
  · split at h
    · rename_i h2
      refine ⟨h, fun a ha => ?_⟩
      have := List.all_eq_true.1 h2 a ha
      simp only [Bool.and_eq_true, decide_eq_true_eq] at this
      exact this
    · cases h
/-- What Map answers. -/
def MapP (E : List En) (len : Int) (L : List Chg) (x : Int) (r : Bool) (W : World) (e : Ending) (w' : World) : Prop :=
  ((prepF E len L [(x, r)] = 0 ∧ e = .returned (.tuple #[.agg #[.int .i64 (ancF (mvsF E 0 L) (lngF E len L).1 len x r).1, .bool r], .bool (ancF (mvsF E 0 L) (lngF E len L).1 len x r).2, .nilIface])) ∨
  (prepF E len L [(x, r)] ≠ 0 ∧ e = .returned (.tuple #[.agg #[.int .i64 0, .bool false], .bool false, err (prepF E len L [(x, r)])]))) ∧ Below W.heap.size W w'
set_option maxRecDepth 100000 in
set_option maxHeartbeats 4000000 in
theorem map_any {n0 B most b0 : Nat} {W : World} {E : List En} (hs : StAt n0 W B most E) (hwf : Wf E) (hE : E.length ≤ 1048576) {v : Value} {L : List Chg} (hC : Chs b0 W v L) (hT : Txs E L) (hLb : L.length ≤ 1000000) (len x : Int) (r : Bool) :
    Calls Try.prog 17 #[.pointer (some ⟨B, 0, none⟩), .int .i64 len, v, .agg #[.int .i64 x, .bool r]] W (MapP E len L x r W) := by
  obtain ⟨va, vc, rfl⟩ := hC.len
  obtain ⟨W1, hW1⟩ : ∃ w, (W.alloc (.cells #[.int .i64 x, .bool r] 33)).alloc (.cells #[.int .i64 0, .bool false] 33) = w := ⟨_, rfl⟩
  have b1 : Below W.heap.size W W1 := by rw [← hW1]; exact ((Below.refl _ W).alloc (Nat.le_refl _) _).alloc (by simp) _
  have k1 : AnC W1 W.heap.size x r := by rw [← hW1]; exact below_block ((Below.refl _ _).alloc (Nat.le_refl _) _) (heap_new' W _)
  have k2 : AnC W1 (W.heap.size + 1) 0 false := by
    rw [← hW1]
    have := heap_new' (W.alloc (.cells #[.int .i64 x, .bool r] 33)) (.cells #[.int .i64 0, .bool false] 33)
    rw [World.size_alloc] at this
    exact this
  obtain ⟨W2, hW2⟩ : ∃ w, W1.alloc (.cells #[.int .i64 x, .bool r] 33) = w := ⟨_, rfl⟩
  have b2 : Below W1.heap.size W1 W2 := by rw [← hW2]; exact (Below.refl _ _).alloc (Nat.le_refl _) _
  have b12 := Below.after b1 b2
  have hz1 : W1.heap.size = W.heap.size + 2 := by rw [← hW1]; simp
  have hA : RowAn W2 (.slice (some ⟨W1.heap.size, 0, none⟩) 1 1) [(x, r)] := by
    refine ⟨_, 1, rfl, by simp, by unfold maxLen; omega, fun i hi => ⟨_, rfl, ?_⟩⟩
    simp only [List.length_singleton] at hi
    obtain rfl : i = 0 := by omega
    have h := heap_new' W1 (.cells #[.int .i64 x, .bool r] 33)
    rw [hW2] at h
    simp [World.cell?, Addr.add, h]
  rw [hz1] at hA
  have HPR := Lib.hid (prepare_any (hs.below b12) hwf hE (hC.below b12) hT hLb hA (by simp) len)
  obtain ⟨c0, c1, f0, f1⟩ := k1.cells
  have K1 := Lib.hid (show AnC W2 W.heap.size x r from below_block b2 k1); have K2 := Lib.hid (show AnC W2 (W.heap.size + 1) 0 false from below_block b2 k2); have B2' := Lib.hid b12
  have HEND : Hid (∀ (w : World) (y : Int) (q : Bool), AnC w (W.heap.size + 1) 0 false → Below W.heap.size W w → ∃ w2, (w.setCell ⟨W.heap.size + 1, 0, none⟩ (.int .i64 y)).setCell ⟨W.heap.size + 1, 1, none⟩ (.bool q) = w2 ∧ AnC w2 (W.heap.size + 1) y q ∧ Below W.heap.size W w2) := Lib.hid (fun w y q h hb => ⟨_, rfl, h.set y q, (hb.setCell (p := ⟨W.heap.size + 1, 0, none⟩) (by simp) _).setCell (p := ⟨W.heap.size + 1, 1, none⟩) (by simp) _⟩)
  clear hs hwf hC hT k1 k2 b1 b2 b12 hA
  go_enter Try.func17, Try.ntmps17
  go_wp2_with fail
  refine HPR.out.mono ?_
  rintro e w3 (⟨hp, mv, rfl, hM, b3⟩ | ⟨hp, rfl, b3⟩)
  · obtain ⟨hl0, hax⟩ := prepF_ok hp
    obtain ⟨o1, o2, o3, -, -⟩ := lngF_ok hl0
    obtain ⟨a1, a2⟩ := hax (x, r) (by simp)
    dsimp only at a1 a2
    have HIB := Lib.hid (mvs_inB hl0)
    have HSO := Lib.hid (mvsF_sorted (E := E) L (-1) 0 o3)
    have HP := Lib.hid hp
    obtain ⟨nl, hnl⟩ : ∃ n, (lngF E len L).1 = n := ⟨_, rfl⟩
    have HNL := Lib.hid hnl
    rw [hnl]
    obtain ⟨ma, mc, rfl⟩ := hM.len
    have HML : Hid ((mvsF E 0 L).length ≤ 1000000) := Lib.hid (by rw [mvsF_len]; exact hLb)
    obtain ⟨ml, hml⟩ : ∃ n, (mvsF E 0 L).length = n := ⟨_, rfl⟩
    rw [hml] at hM ⊢
    have B3 := Lib.hid (Below.after B2'.out b3)
    have K13 := Lib.hid (show AnC w3 W.heap.size x r from below_block b3 K1.out); have K23 := Lib.hid (show AnC w3 (W.heap.size + 1) 0 false from below_block b3 K2.out)
    obtain ⟨gm, hgm⟩ : ∃ g, w3.heap.size = g := ⟨_, rfl⟩
    obtain ⟨w4, hw4⟩ : ∃ w, w3.alloc (.cells #[.slice ma ml mc, .int .i64 nl] 96) = w := ⟨_, rfl⟩
    have k4 : MsC w4 gm (.slice ma ml mc) nl := by rw [← hw4, ← hgm]; exact heap_new' _ _
    have b4 : Below w3.heap.size w3 w4 := by rw [← hw4]; exact (Below.refl _ _).alloc (Nat.le_refl _) _
    have B4 := Lib.hid (Below.after B3.out b4)
    have K14 := Lib.hid (show AnC w4 W.heap.size x r from below_block b4 K13.out); have K24 := Lib.hid (show AnC w4 (W.heap.size + 1) 0 false from below_block b4 K23.out)
    obtain ⟨d0, d1, -, -⟩ := K14.out.cells
    obtain ⟨e0, e1, -, -⟩ := k4.cells
    have HAN := Lib.hid (anchor_any (nl := nl) (right := r) (hM.below b4) HSO.out HML.out ⟨a1, a2, o2⟩ HIB.out)
    obtain ⟨res, hres⟩ : ∃ q, ancF (mvsF E 0 L) nl len x r = q := ⟨_, rfl⟩
    have HRS := Lib.hid hres
    rw [hres] at HAN
    obtain ⟨ra, rb⟩ := res
    dsimp only at HAN
    clear hp hM b3 k4 b4 hnl hml hres HPR o1 o2 o3 a1 a2 hl0 hax hW1 hW2 c0 c1 f0 f1 hz1
    go_wp2_with fail
    refine HAN.out.mono ?_
    rintro e w5 ⟨rfl, b5⟩
    obtain ⟨wz, w6, hz, hs1, ka, ba, ⟨p0, p1⟩, f0, f1⟩ := newAn w5 ra r
    obtain ⟨ga, hga⟩ : ∃ g, w5.heap.size = g := ⟨_, rfl⟩
    rw [hga] at hs1 p0 p1 f0 f1 ka
    obtain ⟨y0, y1, -, -⟩ := ka.cells
    have b6 := Below.after b5 ba
    have K26 : AnC w6 (W.heap.size + 1) 0 false := below_block b6 K24.out
    obtain ⟨z0, z1, z2, z3⟩ := K26.cells
    obtain ⟨w7, hw7, k7, hb7⟩ := HEND.out w6 ra r K26 (Below.after B4.out b6)
    obtain ⟨h0, h1, -, -⟩ := k7.cells
    have HB7 := Lib.hid hb7
    clear ka ba b5 b6 K26 k7 hb7 HEND HAN hw4 hgm d0 d1 e0 e1
    go_wp2_with fail
    exact bodyPost_ret (v := .tuple #[.agg #[.int .i64 ra, .bool r], .bool rb, .nilIface]) (by simp [results, Try.results17, go_sem, h0, h1]) rfl ⟨.inl ⟨HP.out, by rw [HNL.out, HRS.out]⟩, HB7.out⟩
  · obtain ⟨cd, hcd⟩ : ∃ c, prepF E len L [(x, r)] = c := ⟨_, rfl⟩
    have HCD := Lib.hid hcd
    rw [hcd] at hp ⊢
    have HNZ := Lib.hid hp
    unfold err
    have K23 := Lib.hid (show AnC w3 (W.heap.size + 1) 0 false from below_block b3 K2.out)
    have B3 := Lib.hid (Below.after B2'.out b3)
    obtain ⟨w4, hw4⟩ : ∃ w, w3.alloc (.cells #[.slice none 0 0, .int .i64 0] 96) = w := ⟨_, rfl⟩
    have b4 : Below w3.heap.size w3 w4 := by rw [← hw4]; exact (Below.refl _ _).alloc (Nat.le_refl _) _
    have k4 : MsC w4 w3.heap.size (.slice none 0 0) 0 := by rw [← hw4]; exact heap_new' _ _
    obtain ⟨e0, e1, e2, e3⟩ := k4.cells
    obtain ⟨w5, hw5⟩ : ∃ w, (w4.setCell ⟨w3.heap.size, 0, none⟩ (.slice none 0 0)).setCell ⟨w3.heap.size, 1, none⟩ (.int .i64 0) = w := ⟨_, rfl⟩
    have b5 : Below w3.heap.size w3 w5 := by rw [← hw5]; exact (b4.setCell (p := ⟨w3.heap.size, 0, none⟩) (Nat.le_refl _) _).setCell (p := ⟨w3.heap.size, 1, none⟩) (Nat.le_refl _) _
    have K24 : AnC w5 (W.heap.size + 1) 0 false := below_block b5 K23.out
    obtain ⟨z0, z1, z2, z3⟩ := K24.cells
    obtain ⟨w7, hw7, k7, hb7⟩ := HEND.out w5 0 false K24 (Below.after B3.out b5)
    obtain ⟨h0, h1, -, -⟩ := k7.cells
    have HB7 := Lib.hid hb7
    clear b3 b4 b5 k4 K24 k7 hb7 HEND HPR hcd hp hW1 hW2 c0 c1 f0 f1 hz1
    go_wp2_with fail
    exact bodyPost_ret (v := .tuple #[.agg #[.int .i64 0, .bool false], .bool false, err cd]) (by simp [results, Try.results17, go_sem, h0, h1, err]) rfl ⟨.inr ⟨by rw [HCD.out]; exact HNZ.out, by rw [HCD.out]⟩, HB7.out⟩
end M
end Go.Proofs.Ytplccefjljdjnaa
