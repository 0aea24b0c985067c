/- AnchorLists: the walk. -/
import Derived.Test.YtplccefjljdjnaaMapsC
import Derived.Test.YtplccefjljdjnaaAll
import Derived.Test.YtplccefjljdjnaaKeep
import Derived.Test.YtplccefjljdjnaaApp
import Derived.Test.YtplccefjljdjnaaBase
import Derived.Test.YtplccefjljdjnaaTwo
namespace Go.Proofs.Ytplccefjljdjnaa
open Go.RowKit Go.Lib
namespace M
attribute [local go_sem] Oper.semAt_some
def encAn (a : Int × Bool) : List Value := [.int .i64 a.1, .bool a.2]
theorem encAn_len (a : Int × Bool) : (encAn a).length = 2 := rfl
theorem encAn_one (a : Int × Bool) : ∀ u ∈ encAn a, u.oneCell' = true := by simp [encAn, Value.oneCell']
abbrev Ans (B : Nat) (W : World) (v : Value) (l : List (Int × Bool)) : Prop := SlA B W 33 2 encAn v l
theorem elemAn : Elem Try.prog 50 33 2 16 := elem_of Try.underlying50 (z := .agg #[.int .i64 0, .bool false]) (by kernel_rfl) rfl (by decide) (by decide)
theorem Ans.at {B : Nat} {W : World} {v : Value} {l : List (Int × Bool)} (h : Ans B W v l) {i : Nat} (hi : i < l.length) :
    ∃ g cap, v = .slice (some ⟨g, 0, none⟩) l.length cap ∧ ∀ (W' : World), Below W.heap.size W W' → W'.cell? ⟨g, i * 2, none⟩ = some (.int .i64 l[i].1) ∧ W'.cell? ⟨g, i * 2 + 1, none⟩ = some (.bool l[i].2) := by
  rcases h.shape with ⟨-, rfl⟩ | ⟨g, cap, rfl, h1, h2⟩
  · simp at hi
  · refine ⟨g, cap, rfl, fun W' hb => ?_⟩
    have h' := h.below hb
    have c := fun (j : Nat) (hj : j < 2) => SlA.cell encAn_len h' hi (j := j) hj
    exact ⟨c 0 (by omega), c 1 (by omega)⟩
theorem Ans.row {B : Nat} {W : World} {v : Value} {l : List (Int × Bool)} (h : Ans B W v l) : RowAn W v l := by
  rcases h.shape with ⟨rfl, rfl⟩ | ⟨g, cap, rfl, h1, h2⟩
  · exact RowAn.none W
  · refine ⟨_, cap, rfl, h1, h2, fun i hi => ⟨_, rfl, ?_⟩⟩
    obtain ⟨g', cap', hv, hc⟩ := Ans.at h hi
    cases hv
    obtain ⟨a, b⟩ := hc W (Below.refl _ _)
    rw [addr_at]
    exact ⟨a, b⟩
theorem boxAn {n : Nat} {A w : World} (h : Below n A w) (hn : n ≤ A.heap.size) : ∃ wb, w.alloc (.cells #[.int .i64 0, .bool false] 33) = wb ∧ AnC wb w.heap.size 0 false ∧ Below n A wb ∧ n ≤ w.heap.size :=
  ⟨_, rfl, heap_new' _ _, h.alloc (Nat.le_trans hn h.size) _, Nat.le_trans hn h.size⟩
theorem stAn {w : World} {g : Nat} {x0 : Int} {r0 : Bool} (h : AnC w g x0 r0) (x : Int) (r : Bool) : ∃ z, (w.setCell ⟨g, 0, none⟩ (.int .i64 x)).setCell ⟨g, 1, none⟩ (.bool r) = z ∧ AnC z g x r ∧ (∀ n A, Below n A w → n ≤ g → Below n A z) ∧
    (w.frozen? ⟨g, 0, none⟩ = false ∧ w.frozen? ⟨g, 1, none⟩ = false) ∧ (w.cell? ⟨g, 0, none⟩ = some (.int .i64 x0) ∧ w.cell? ⟨g, 1, none⟩ = some (.bool r0)) :=
  ⟨_, rfl, h.set x r, fun _ _ hb hg => (hb.setCell (p := ⟨g, 0, none⟩) hg _).setCell (p := ⟨g, 1, none⟩) hg _, ⟨h.cells.2.2.1, h.cells.2.2.2⟩, h.cells.1, h.cells.2.1⟩
theorem Mdn.app {n0 B n1 : Nat} {w0 w' : World} {S : List Spc} {E : List En} {L : List Chg} {v1 v2 : Value} {b1 : Nat} (h : Mdn n0 B w0 S E L v1 v2 b1) {α : Type} {e : TypeId} {size : Nat} {enc : α → List Value} {v : Value} {l : List α} {cs : Array Value} (hS : SlA n1 w0 e size enc v l) (hg : (w0.alloc (.cells cs e)).grownBy w' v.ownBlock) (h1 : 91 ≠ e) (h2 : 121 ≠ e) (h3 : 71 ≠ e) (h4 : 93 ≠ e) : Mdn n0 B w' S E L v1 v2 b1 :=
  ⟨StAt.app' h.st hS hg h1 h2, h.wf, h.le, h.mt, SlA.keep h.chs (fun k cs fz hh => app_other hS hg hh h3), SlA.keep h.rcs (fun k cs fz hh => app_other hS hg hh h4), h.len, h.tl⟩
/-- The anchors of a list of offsets. -/
def lstA (r : Bool) (l : List Int) : List (Int × Bool) := l.mapIdx (fun i x => (x, (decide (i % 2 = 0)) == r))
theorem lstA_len (r : Bool) (l : List Int) : (lstA r l).length = l.length := by unfold lstA; simp
theorem lstA_step (r : Bool) {l : List Int} {i : Nat} (h : i < l.length) : lstA r (l.take (i + 1)) = lstA r (l.take i) ++ [(l[i], (decide (i % 2 = 0)) == r)] := by
  unfold lstA
  rw [List.take_add_one, List.getElem?_eq_getElem h]
  simp only [Option.toList_some]
  rw [List.mapIdx_append]
  simp only [List.mapIdx_cons, List.mapIdx_nil, List.length_take, Nat.min_eq_left (Nat.le_of_lt h), Nat.zero_add]
/-- Whether all offsets lie in a text. -/
def insA (len : Int) (l : List Int) : Bool := decide (0 ≤ len ∧ len ≤ 1152921504606846976) && l.all (fun x => decide (0 ≤ x) && decide (x ≤ len))
theorem insA_step (len : Int) {l : List Int} {i : Nat} (h : i < l.length) : insA len (l.take (i + 1)) = (insA len (l.take i) && (decide (0 ≤ l[i]) && decide (l[i] ≤ len))) := by
  unfold insA
  rw [take_snoc h, List.all_append, List.all_cons, List.all_nil, Bool.and_true, Bool.and_assoc]
theorem all_lstA (len : Int) (r : Bool) (l : List Int) : (lstA r l).all (fun a => decide (0 ≤ a.1) && decide (a.1 ≤ len)) = l.all (fun x => decide (0 ≤ x) && decide (x ≤ len)) := by
  rw [Bool.eq_iff_iff]
  simp only [List.all_eq_true]
  unfold lstA
  constructor
  · intro h x hx
    obtain ⟨i, hi, rfl⟩ := List.mem_iff_getElem.1 hx
    have := h (l[i], (decide (i % 2 = 0)) == r) (List.mem_iff_getElem.2 ⟨i, by simpa using hi, by simp⟩)
    exact this
  · intro h a ha
    obtain ⟨i, hi, rfl⟩ := List.mem_iff_getElem.1 ha
    simp only [List.length_mapIdx] at hi
    simp only [List.getElem_mapIdx]
    exact h _ (List.getElem_mem hi)
theorem prep_lst (E : List En) (len : Int) (L : List Chg) (r : Bool) (l : List Int) : prepF E len L (lstA r l) = if insA len l then (lngF E len L).2 else 1 := by
  unfold prepF insA
  rw [all_lstA]
  unfold maxL
  by_cases h : 0 ≤ len ∧ len ≤ 1152921504606846976
  · rw [if_neg (by simpa using h), decide_eq_true h, Bool.true_and]
  · rw [if_pos h, decide_eq_false h, Bool.false_and]; rfl
theorem map_ok {n0 B most b0 : Nat} {W : World} {E : List En} (hs : StAt n0 W B most E) (hwf : Wf E) (hE : E.length ≤ 1048576) {v : Value} {L : List Chg} (hC : Chs b0 W v L) (hT : Txs E L) (hLb : L.length ≤ 1000000) {len x : Int} {r : Bool} (hp : prepF E len L [(x, r)] = 0) {a : Int} {b : Bool} (hr : ancF (mvsF E 0 L) (lngF E len L).1 len x r = (a, b)) :
    Calls Try.prog 17 #[.pointer (some ⟨B, 0, none⟩), .int .i64 len, v, .agg #[.int .i64 x, .bool r]] W fun e w' => e = .returned (.tuple #[.agg #[.int .i64 a, .bool r], .bool b, .nilIface]) ∧ Below W.heap.size W w' :=
  (map_any hs hwf hE hC hT hLb len x r).mono fun e w' ⟨h, hb⟩ => ⟨by
    rcases h with ⟨-, h⟩ | ⟨h, -⟩
    · rw [h, hr]
    · exact absurd hp h, hb⟩
set_option maxRecDepth 100000 in
set_option maxHeartbeats 8000000 in
theorem lists_any {W : World} {c lv : Value} {S : List Spc} {l : List Int} (hS : RowSp W c S) (hlow : LowS W c) (hl : RowAt (fun x : Int => Value.int .i64 x) W lv l) (len x n : Int) (r : Bool) :
    Calls Try.prog 5 #[.agg #[.int .i64 len, c, .int .i64 x, .int .i64 n, .bool r], lv] W fun e w' => e = .returned (.bool true) ∧ Below W.heap.size W w' := by
  obtain ⟨W1, hW1⟩ : ∃ w, W.alloc (.cells #[.int .i64 len, c, .int .i64 x, .int .i64 n, .bool r] 24) = w := ⟨_, rfl⟩
  have b1 : Below W.heap.size W W1 := by rw [← hW1]; exact (Below.refl _ W).alloc (Nat.le_refl _) _
  have k1 : CaC W1 W.heap.size len c x n r := by rw [← hW1]; exact heap_new' W _
  obtain ⟨gc, hgc⟩ : ∃ g, W.heap.size = g := ⟨_, rfl⟩
  have hgl : gc < W1.heap.size := by rw [← hgc, ← hW1]; simp
  have HS1 := Lib.hid (hS.below b1)
  have HLI := Lib.hid (RowAt.below hl b1)
  have HSM := Lib.hid (small_any (hS.below b1))
  obtain ⟨la, lc, rfl, -, hlc, -⟩ := hl
  unfold maxLen at hlc
  have HF : ∀ f, Fence.wide.fn f := fun _ => trivial
  have HLW : Hid (∀ (a : Addr) n k, c = .slice (some a) n k → 0 < n → a.block < W1.heap.size) := Lib.hid (fun a n k h h0 => Nat.lt_of_lt_of_le (hlow a n k h h0) b1.size)
  obtain ⟨a, cap, rfl, -⟩ := hS
  have B1 : Hid (Below W1.heap.size W1 W1) := Lib.hid (Below.refl _ _)
  have BB := Lib.hid b1
  rw [hgc] at k1
  have HKC : Hid (∀ w, Below W1.heap.size W1 w → CaC w gc len (.slice a S.length cap) x n r) := Lib.hid (fun w hw => by have := hw.block gc hgl; unfold CaC; rw [this]; exact k1)
  have HBE : Hid (∀ w, Below W1.heap.size W1 w → Below W.heap.size W w) := Lib.hid (fun w hw => BB.out.trans (hw.mono BB.out.size))
  have hgd : Try.prog.eqGuardType Try.prog.depth 33 = false := by kernel_rfl
  obtain ⟨c0, c1, c2, c3, c4⟩ := k1.cells
  clear b1 hlow hgl k1
  cases hsm : smallF S with
  | false =>
    rw [hsm] at HSM
    go_enter Try.func5, Try.ntmps5
    go_wp2_with fail
    refine HSM.out.mono ?_; rintro e w ⟨rfl, h⟩; rw [h]; clear h w
    go_wp2_with fail
    go_ret
    exact ⟨rfl, BB.out⟩
  | true =>
    rw [hsm] at HSM
    have HSY := Lib.hid hsm
    have HNW := Lib.hid (snew_any W1 1048576 (by omega))
    rw [show ((1048576 : Nat) : Int) = 1048576 from rfl] at HNW
    clear hsm
    by_cases hl30 : l.length > 30
    · have hl31 : (l.length : Int) > 30 := by omega
      go_enter Try.func5, Try.ntmps5
      go_wp2_with fail
      refine HSM.out.mono ?_; rintro e w ⟨rfl, h⟩; rw [h]; clear h w
      go_wp2_with fail
      go_ret
      exact ⟨rfl, BB.out⟩
    have hl31 : ¬ (l.length : Int) > 30 := by omega
    go_enter Try.func5, Try.ntmps5
    go_wp2_with fail
    refine HSM.out.mono ?_; rintro e w ⟨rfl, h⟩; rw [h]; clear h w
    go_wp2_with fail
    refine HNW.out.mono ?_
    rintro e w2 ⟨B, rfl, s2, b2⟩
    have HMD := Lib.hid (madeL_any s2 (HS1.out.below b2) HSY.out b2.size HLW.out)
    obtain ⟨d0, d1, d2, d3, d4⟩ := (HKC.out w2 b2).cells
    have B2 := Lib.hid b2
    clear s2 b2 HNW HSM c0 c1 c2 c3 c4 hW1
    go_wp2_with fail
    clear d0 d1 d2 d3 d4
    refine HMD.out.mono ?_
    rintro e w3 ⟨E, L, v1, v2, rfl, hM, b3⟩
    have HM3 := Lib.hid hM
    have hb3 := B2.out.trans b3
    have B3 := Lib.hid hb3
    have HN3 : Hid (W1.heap.size ≤ w3.heap.size) := Lib.hid hb3.size
    have HMX := Lib.hid (And.intro hM.wf (And.intro hM.le (And.intro hM.mt (And.intro hM.len hM.tl))))
    clear hM hb3 b3 HMD B2
    have HAW := Lib.hid (awake_any w3)
    go_wp2_with fail
    refine HAW.out.mono ?_; rintro e w4 ⟨rfl, b⟩
    have B4 : Hid (Below W1.heap.size W1 w4) := Lib.hid (B3.out.trans (b.mono HN3.out))
    have HN4 : Hid (W1.heap.size ≤ w4.heap.size) := Lib.hid B4.out.size
    have HM4 := Lib.hid (HM3.out.below b)
    clear HM3 
    clear b HAW
    obtain ⟨d0, d1, d2, d3, d4⟩ := (HKC.out w4 B4.out).cells
    have HV := Lib.hid (valid01_any w4 len)
    go_wp2_with fail
    clear d0 d1 d2 d3 d4
    refine HV.out.mono ?_; rintro e w ⟨rfl, h⟩; rw [h]; clear h w
    clear HV
    go_wp2_with fail
    go_loopw [9, 10, 11] (fun av bv iv wr => ∃ i : Nat, iv = .int .i64 i ∧ bv = .bool (insA len (l.take i)) ∧ i ≤ l.length ∧ Ans W1.heap.size wr av (lstA r (l.take i)) ∧ Mdn W1.heap.size B wr S E L v1 v2 w2.heap.size ∧ Below W1.heap.size W1 wr) (fun _ _ iv _ => l.length - (intOf iv).toNat)
    case atStart => exact ⟨0, rfl, by unfold insA; simp, Nat.zero_le _, SlA.nil _ _ _ _ _, HM4.out, B4.out⟩
    case round =>
      clear HM4 B4 HN4
      obtain ⟨i, rfl, rfl, hi, hA, hM, hB⟩ := hrel
      have HM := Lib.hid hM; have HB := Lib.hid hB; have HN : Hid (W1.heap.size ≤ wr.heap.size) := Lib.hid hB.size
      obtain ⟨va, vc, rfl⟩ := hA.len
      have hln : (lstA r (l.take i)).length = i := by rw [lstA_len, List.length_take]; omega
      rw [hln] at hA ⊢
      have HA := Lib.hid hA; have HLN := Lib.hid hln
      clear hM hB hA hln
      by_cases hlt : i < l.length
      · have hlt2 : (i : Int) < (l.length : Int) := by omega
        have hlt3 : (0 : Int) ≤ (i : Int) := by omega
        obtain ⟨a', cap', ha', -, -, hli⟩ := HLI.out
        simp only [Value.slice.injEq] at ha'
        obtain ⟨rfl, -, rfl⟩ := ha'
        obtain ⟨b, rfl, hb0⟩ := hli i hlt
        have HST := Lib.hid (lstA_step r hlt); have HIS := Lib.hid (insA_step len hlt)
        have HB0 := Lib.hid hb0
        generalize l[i] = y at *
        obtain ⟨pb, hpb⟩ : ∃ p, decide (i % 2 = 0) = p := ⟨_, rfl⟩
        rw [hpb] at HST
        have hrb : ((i : Int).tmod 2 == 0) = pb := by
          rw [← hpb, show (i : Int).tmod 2 = ((i % 2 : Nat) : Int) from rfl]
          by_cases h : i % 2 = 0
          · rw [decide_eq_true h]; simp; omega
          · rw [decide_eq_false h]; simp; omega
        have m0 : ∀ w, Below W1.heap.size W1 w → w.cell? (b.add i) = some (.int .i64 y) := fun w hw => cell_below HB0.out hw
        have m1 : ∀ w, Below W1.heap.size W1 w → w.cell? ⟨gc, 0, none⟩ = some (.int .i64 len) := fun w hw => (HKC.out w hw).cells.1
        have m2 : ∀ w, Below W1.heap.size W1 w → w.cell? ⟨gc, 4, none⟩ = some (.bool r) := fun w hw => (HKC.out w hw).cells.2.2.2.2
        clear hli hb0 hpb
        go_wp2_with fail
        refine wp_region_anyH (Below W1.heap.size W1) (by kernel_rfl) ?_
        obtain ⟨wd, hwd⟩ : ∃ w, wr.drew = w := ⟨_, rfl⟩
        have SD : Below wr.heap.size wr wd := by rw [← hwd]; exact (Below.refl _ _).drew
        rw [hwd]
        clear hwd
        have S0 : Below W1.heap.size W1 wd := HB.out.trans (SD.mono HN.out)
        have HZd : Hid (W1.heap.size ≤ wd.heap.size) := Lib.hid (Nat.le_trans HN.out SD.size)
        obtain ⟨v3, w3', hrun3, s3, g3, b3⟩ := run_app1 elemAn encAn_len 50 (HA.out.below SD) (y, pb == r) 1 (cs := #[.int .i64 y, .bool (pb == r)]) rfl (encAn_one _) (by rw [HLN.out]; omega) HZd.out
        have hl3 : (lstA r (l.take i) ++ [(y, pb == r)]).length = i + 1 := by rw [List.length_append, List.length_singleton, HLN.out]
        obtain ⟨a3, c3, he3⟩ := s3.len
        rw [hl3] at he3
        subst he3
        have S3 : Below W1.heap.size W1 w3' := S0.trans b3
        have HM3 := Lib.hid (Mdn.app (HM.out.below SD) (HA.out.below SD) g3 (by decide) (by decide) (by decide) (by decide))
        have HA3 : Hid (Ans W1.heap.size w3' (.slice a3 (i + 1) c3) (lstA r (l.take (i + 1)))) := Lib.hid (by rw [HST.out]; exact s3)
        have SB : Below W1.heap.size W1 (wd.alloc (.cells #[.int .i64 y, .bool (pb == r)] 33)) := S0.alloc HZd.out _
        clear hl3 s3 g3 b3 SD
        refine AnyH.take (i := 0) (d := some 53) (v := ?_) (by kernel_rfl) rfl rfl HF (fun _ _ _ h => h) (.inl ⟨by rfl, ?_⟩) (by first | assumption | rfl) ?_
        rotate_left
        · intro w hS; try subst hS
          go_simp; try with_reducible rfl
        try simp only [Act.put, List.setIfInBounds_toArray, List.set_cons_zero, List.set_cons_succ]
        refine AnyH.take (i := 1) (d := some 54) (v := ?_) (by kernel_rfl) rfl rfl HF (fun _ _ _ h => h) (.inl ⟨by rfl, ?_⟩) (by first | assumption | rfl) ?_
        rotate_left
        · intro w hS; try subst hS
          go_simp; try with_reducible rfl
        try simp only [Act.put, List.setIfInBounds_toArray, List.set_cons_zero, List.set_cons_succ]
        refine AnyH.take (i := 2) (d := some 55) (v := ?_) (by kernel_rfl) rfl rfl HF (fun _ _ _ h => h) (.inl ⟨by rfl, ?_⟩) (by first | assumption | rfl) ?_
        rotate_left
        · intro w hS; try subst hS
          go_simp; try with_reducible rfl
        try simp only [Act.put, List.setIfInBounds_toArray, List.set_cons_zero, List.set_cons_succ]
        refine AnyH.take (i := 3) (d := some 56) (v := ?_) (by kernel_rfl) rfl rfl HF (fun _ _ _ h => h) (.inl ⟨by rfl, ?_⟩) (by first | assumption | rfl) ?_
        rotate_left
        · intro w hS; try subst hS
          go_simp; try with_reducible rfl
        try simp only [Act.put, List.setIfInBounds_toArray, List.set_cons_zero, List.set_cons_succ]
        refine AnyH.take (i := 4) (d := some 57) (v := ?_) (by kernel_rfl) rfl rfl HF (fun _ _ _ h => h) (.inl ⟨by rfl, ?_⟩) (by first | assumption | rfl) ?_
        rotate_left
        · intro w hS; try subst hS
          go_simp; try with_reducible rfl
        try simp only [Act.put, List.setIfInBounds_toArray, List.set_cons_zero, List.set_cons_succ]
        refine AnyH.take (i := 5) (d := some 58) (v := ?_) (by kernel_rfl) rfl rfl HF (fun _ _ _ h => h) (.inl ⟨by rfl, ?_⟩) (by first | assumption | rfl) ?_
        rotate_left
        · intro w hS; try subst hS
          go_simp; try with_reducible rfl
        try simp only [Act.put, List.setIfInBounds_toArray, List.set_cons_zero, List.set_cons_succ]
        refine AnyH.take (i := 6) (d := some 59) (v := ?_) (by kernel_rfl) rfl rfl HF (fun _ _ _ h => h) (.inl ⟨by rfl, ?_⟩) (by first | assumption | rfl) ?_
        rotate_left
        · intro w hS; try subst hS
          go_simp; try with_reducible rfl
        try simp only [Act.put, List.setIfInBounds_toArray, List.set_cons_zero, List.set_cons_succ]
        refine AnyH.take (i := 7) (d := some 60) (v := ?_) (by kernel_rfl) rfl rfl HF (fun _ _ _ h => h) (.inl ⟨by rfl, ?_⟩) (by first | assumption | rfl) ?_
        rotate_left
        · intro w hS; try subst hS
          go_simp; try with_reducible rfl
        try simp only [Act.put, List.setIfInBounds_toArray, List.set_cons_zero, List.set_cons_succ]
        refine AnyH.take (i := 8) (d := some 61) (v := ?_) (by kernel_rfl) rfl rfl HF (fun _ _ _ h => h) (.inl ⟨by rfl, ?_⟩) (by first | assumption | rfl) ?_
        rotate_left
        · intro w hS; try subst hS
          go_simp; try with_reducible rfl
        try simp only [Act.put, List.setIfInBounds_toArray, List.set_cons_zero, List.set_cons_succ]
        refine AnyH.take (i := 9) (d := some 62) (v := ?_) (by kernel_rfl) rfl rfl HF (fun _ _ _ h => h) (.inl ⟨by rfl, ?_⟩) (by first | assumption | rfl) ?_
        rotate_left
        · intro w hS; try subst hS
          go_simp; try with_reducible rfl
        try simp only [Act.put, List.setIfInBounds_toArray, List.set_cons_zero, List.set_cons_succ]
        refine AnyH.take (i := 10) (d := some 63) (v := ?_) (by kernel_rfl) rfl rfl HF (fun _ _ _ h => h) (.inl ⟨by rfl, ?_⟩) (by first | assumption | rfl) ?_
        rotate_left
        · intro w hS; try subst hS
          go_simp; try with_reducible rfl
        try simp only [Act.put, List.setIfInBounds_toArray, List.set_cons_zero, List.set_cons_succ]
        refine AnyH.take (i := 11) (d := some 64) (v := ?_) (by kernel_rfl) rfl rfl HF (fun _ _ _ h => h) (.inl ⟨by rfl, ?_⟩) (by first | assumption | rfl) ?_
        rotate_left
        · intro w hS; try subst hS
          go_simp; try with_reducible rfl
        try simp only [Act.put, List.setIfInBounds_toArray, List.set_cons_zero, List.set_cons_succ]
        refine AnyH.one (i := 12) (by kernel_rfl) (by kernel_rfl) rfl HF (by rfl) (fun K hK => ?_)
        go_simp
        refine hK _ _ SB ?_
        clear hK K
        try simp only [Act.put, List.setIfInBounds_toArray, List.set_cons_zero, List.set_cons_succ]
        refine AnyH.one (i := 13) (by kernel_rfl) (by kernel_rfl) rfl HF (by rfl) (fun K hK => ?_)
        simp [execOp, resolve, invoke, builtin, hrun3, Result.andThen, Act.eval, Oper.uponIn]
        refine hK _ _ S3 ?_
        clear hK K hrun3 SB S0
        try simp only [Act.put, List.setIfInBounds_toArray, List.set_cons_zero, List.set_cons_succ]
        refine AnyH.take (i := 14) (d := some 9) (v := ?_) (by kernel_rfl) rfl rfl HF (fun _ _ _ h => h) (.inl ⟨by rfl, ?_⟩) (by first | assumption | rfl) ?_
        rotate_left
        · intro w hS; try subst hS
          go_simp; try with_reducible rfl
        try simp only [Act.put, List.setIfInBounds_toArray, List.set_cons_zero, List.set_cons_succ]
        refine AnyH.done (by kernel_rfl) ?_
        have HB3 := Lib.hid S3
        clear S3 m2 hrb
        cases hq : insA len (l.take i) with
        | false =>
          have HI2 : Hid (insA len (l.take (i + 1)) = false) := Lib.hid (by rw [HIS.out, hq]; rfl)
          clear hq
          go_wp2_with fail
          refine wp_region_anyH (Below W1.heap.size W1) (by kernel_rfl) ?_
          obtain ⟨we, hwe⟩ : ∃ w, w3'.drew = w := ⟨_, rfl⟩
          have SE : Below w3'.heap.size w3' we := by rw [← hwe]; exact (Below.refl _ _).drew
          rw [hwe]
          clear hwe
          have S4 : Below W1.heap.size W1 we := HB3.out.trans (SE.mono HB3.out.size)
          have HA4 := Lib.hid (HA3.out.below SE); have HM4 := Lib.hid (HM3.out.below SE); have HB4 := Lib.hid S4
          clear SE
          refine AnyH.take (i := 0) (d := some 67) (v := ?_) (by kernel_rfl) rfl rfl HF (fun _ _ _ h => h) (.inl ⟨by rfl, ?_⟩) (by first | assumption | rfl) ?_
          rotate_left
          · intro w hS; try subst hS
            go_simp; try with_reducible rfl
          try simp only [Act.put, List.setIfInBounds_toArray, List.set_cons_zero, List.set_cons_succ]
          refine AnyH.take (i := 1) (d := some 68) (v := ?_) (by kernel_rfl) rfl rfl HF (fun _ _ _ h => h) (.inl ⟨by rfl, ?_⟩) (by first | assumption | rfl) ?_
          rotate_left
          · intro w hS; try subst hS
            go_simp; try with_reducible rfl
          try simp only [Act.put, List.setIfInBounds_toArray, List.set_cons_zero, List.set_cons_succ]
          refine AnyH.take (i := 2) (d := some 69) (v := undef) (by kernel_rfl) rfl rfl HF (fun _ _ _ h => h) (.inr ⟨by rfl, rfl⟩) (by first | assumption | rfl) ?_
          try simp only [Act.put, List.setIfInBounds_toArray, List.set_cons_zero, List.set_cons_succ]
          refine AnyH.take (i := 3) (d := some 70) (v := undef) (by kernel_rfl) rfl rfl HF (fun _ _ _ h => h) (.inr ⟨by rfl, rfl⟩) (by first | assumption | rfl) ?_
          try simp only [Act.put, List.setIfInBounds_toArray, List.set_cons_zero, List.set_cons_succ]
          refine AnyH.take (i := 4) (d := some 71) (v := undef) (by kernel_rfl) rfl rfl HF (fun _ _ _ h => h) (.inr ⟨by rfl, rfl⟩) (by first | assumption | rfl) ?_
          try simp only [Act.put, List.setIfInBounds_toArray, List.set_cons_zero, List.set_cons_succ]
          refine AnyH.take (i := 5) (d := some 72) (v := undef) (by kernel_rfl) rfl rfl HF (fun _ _ _ h => h) (.inr ⟨by rfl, rfl⟩) (by first | assumption | rfl) ?_
          try simp only [Act.put, List.setIfInBounds_toArray, List.set_cons_zero, List.set_cons_succ]
          refine AnyH.take (i := 6) (d := some 73) (v := undef) (by kernel_rfl) rfl rfl HF (fun _ _ _ h => h) (.inr ⟨by rfl, rfl⟩) (by first | assumption | rfl) ?_
          try simp only [Act.put, List.setIfInBounds_toArray, List.set_cons_zero, List.set_cons_succ]
          refine AnyH.take (i := 7) (d := some 74) (v := ?_) (by kernel_rfl) rfl rfl HF (fun _ _ _ h => h) (.inl ⟨by rfl, ?_⟩) (by first | assumption | rfl) ?_
          rotate_left
          · intro w hS; try subst hS
            go_simp; try with_reducible rfl
          try simp only [Act.put, List.setIfInBounds_toArray, List.set_cons_zero, List.set_cons_succ]
          refine AnyH.take (i := 8) (d := some 75) (v := ?_) (by kernel_rfl) rfl rfl HF (fun _ _ _ h => h) (.inl ⟨by rfl, ?_⟩) (by first | assumption | rfl) ?_
          rotate_left
          · intro w hS; try subst hS
            go_simp; try with_reducible rfl
          try simp only [Act.put, List.setIfInBounds_toArray, List.set_cons_zero, List.set_cons_succ]
          refine AnyH.take (i := 9) (d := some 76) (v := undef) (by kernel_rfl) rfl rfl HF (fun _ _ _ h => h) (.inr ⟨by rfl, rfl⟩) (by first | assumption | rfl) ?_
          try simp only [Act.put, List.setIfInBounds_toArray, List.set_cons_zero, List.set_cons_succ]
          refine AnyH.take (i := 10) (d := some 77) (v := undef) (by kernel_rfl) rfl rfl HF (fun _ _ _ h => h) (.inr ⟨by rfl, rfl⟩) (by first | assumption | rfl) ?_
          try simp only [Act.put, List.setIfInBounds_toArray, List.set_cons_zero, List.set_cons_succ]
          refine AnyH.take (i := 11) (d := some 78) (v := undef) (by kernel_rfl) rfl rfl HF (fun _ _ _ h => h) (.inr ⟨by rfl, rfl⟩) (by first | assumption | rfl) ?_
          try simp only [Act.put, List.setIfInBounds_toArray, List.set_cons_zero, List.set_cons_succ]
          refine AnyH.take (i := 12) (d := some 79) (v := undef) (by kernel_rfl) rfl rfl HF (fun _ _ _ h => h) (.inr ⟨by rfl, rfl⟩) (by first | assumption | rfl) ?_
          try simp only [Act.put, List.setIfInBounds_toArray, List.set_cons_zero, List.set_cons_succ]
          refine AnyH.take (i := 13) (d := some 80) (v := undef) (by kernel_rfl) rfl rfl HF (fun _ _ _ h => h) (.inr ⟨by rfl, rfl⟩) (by first | assumption | rfl) ?_
          try simp only [Act.put, List.setIfInBounds_toArray, List.set_cons_zero, List.set_cons_succ]
          refine AnyH.take (i := 14) (d := some 81) (v := undef) (by kernel_rfl) rfl rfl HF (fun _ _ _ h => h) (.inr ⟨by rfl, rfl⟩) (by first | assumption | rfl) ?_
          try simp only [Act.put, List.setIfInBounds_toArray, List.set_cons_zero, List.set_cons_succ]
          refine AnyH.take (i := 15) (d := some 82) (v := undef) (by kernel_rfl) rfl rfl HF (fun _ _ _ h => h) (.inr ⟨by rfl, rfl⟩) (by first | assumption | rfl) ?_
          try simp only [Act.put, List.setIfInBounds_toArray, List.set_cons_zero, List.set_cons_succ]
          refine AnyH.take (i := 16) (d := some 83) (v := ?_) (by kernel_rfl) rfl rfl HF (fun _ _ _ h => h) (.inl ⟨by rfl, ?_⟩) (by first | assumption | rfl) ?_
          rotate_left
          · intro w hS; try subst hS
            go_simp; try with_reducible rfl
          try simp only [Act.put, List.setIfInBounds_toArray, List.set_cons_zero, List.set_cons_succ]
          refine AnyH.take (i := 17) (d := some 10) (v := ?_) (by kernel_rfl) rfl rfl HF (fun _ _ _ h => h) (.inl ⟨by rfl, ?_⟩) (by first | assumption | rfl) ?_
          rotate_left
          · intro w hS; try subst hS
            go_simp; try with_reducible rfl
          try simp only [Act.put, List.setIfInBounds_toArray, List.set_cons_zero, List.set_cons_succ]
          refine AnyH.done (by kernel_rfl) ?_
          clear m0 m1 S4
          go_wp2_with fail
          go_roundw
          case rel => exact ⟨i + 1, by go_num, by rw [HI2.out], by omega, HA4.out, HM4.out, HB4.out⟩
          case measure => first | (simp [intOf]; omega) | simp [intOf]
        | true =>
          by_cases hy0 : 0 ≤ y
          rotate_left
          · have HI2 : Hid (insA len (l.take (i + 1)) = false) := Lib.hid (by rw [HIS.out, hq, decide_eq_false (by omega)]; rfl)
            have hyb : decide (0 ≤ y) = false := decide_eq_false hy0
            clear hq
            go_wp2_with fail
            refine wp_region_anyH (Below W1.heap.size W1) (by kernel_rfl) ?_
            obtain ⟨we, hwe⟩ : ∃ w, w3'.drew = w := ⟨_, rfl⟩
            have SE : Below w3'.heap.size w3' we := by rw [← hwe]; exact (Below.refl _ _).drew
            rw [hwe]
            clear hwe
            have S4 : Below W1.heap.size W1 we := HB3.out.trans (SE.mono HB3.out.size)
            have HA4 := Lib.hid (HA3.out.below SE); have HM4 := Lib.hid (HM3.out.below SE); have HB4 := Lib.hid S4
            clear SE
            refine AnyH.take (i := 0) (d := some 67) (v := ?_) (by kernel_rfl) rfl rfl HF (fun _ _ _ h => h) (.inl ⟨by rfl, ?_⟩) (by first | assumption | rfl) ?_
            rotate_left
            · intro w hS; try subst hS
              go_simp; try with_reducible rfl
            try simp only [Act.put, List.setIfInBounds_toArray, List.set_cons_zero, List.set_cons_succ]
            refine AnyH.take (i := 1) (d := some 68) (v := ?_) (by kernel_rfl) rfl rfl HF (fun _ _ _ h => h) (.inl ⟨by rfl, ?_⟩) (by first | assumption | rfl) ?_
            rotate_left
            · intro w hS; try subst hS
              go_simp; try with_reducible rfl
            try simp only [Act.put, List.setIfInBounds_toArray, List.set_cons_zero, List.set_cons_succ]
            refine AnyH.take (i := 2) (d := some 69) (v := ?_) (by kernel_rfl) rfl rfl HF (fun _ _ _ h => h) (.inl ⟨by rfl, ?_⟩) (by first | assumption | rfl) ?_
            rotate_left
            · intro w hS; try subst hS
              go_simp; try with_reducible rfl
            try simp only [Act.put, List.setIfInBounds_toArray, List.set_cons_zero, List.set_cons_succ]
            refine AnyH.take (i := 3) (d := some 70) (v := ?_) (by kernel_rfl) rfl rfl HF (fun _ _ _ h => h) (.inl ⟨by rfl, ?_⟩) (by first | assumption | rfl) ?_
            rotate_left
            · intro w hS; try subst hS
              go_simp; try with_reducible rfl
            try simp only [Act.put, List.setIfInBounds_toArray, List.set_cons_zero, List.set_cons_succ]
            refine AnyH.take (i := 4) (d := some 71) (v := ?_) (by kernel_rfl) rfl rfl HF (fun _ _ _ h => h) (.inl ⟨by rfl, ?_⟩) (by first | assumption | rfl) ?_
            rotate_left
            · intro w hS; try subst hS
              go_simp; try with_reducible rfl
            try simp only [Act.put, List.setIfInBounds_toArray, List.set_cons_zero, List.set_cons_succ]
            refine AnyH.take (i := 5) (d := some 72) (v := ?_) (by kernel_rfl) rfl rfl HF (fun _ _ _ h => h) (.inl ⟨by rfl, ?_⟩) (by first | assumption | rfl) ?_
            rotate_left
            · intro w hS; try subst hS
              go_simp; try with_reducible rfl
            try simp only [Act.put, List.setIfInBounds_toArray, List.set_cons_zero, List.set_cons_succ]
            refine AnyH.take (i := 6) (d := some 73) (v := ?_) (by kernel_rfl) rfl rfl HF (fun _ _ _ h => h) (.inl ⟨by rfl, ?_⟩) (by first | assumption | rfl) ?_
            rotate_left
            · intro w hS; try subst hS
              go_simp; try with_reducible rfl
            try simp only [Act.put, List.setIfInBounds_toArray, List.set_cons_zero, List.set_cons_succ]
            refine AnyH.take (i := 7) (d := some 74) (v := ?_) (by kernel_rfl) rfl rfl HF (fun _ _ _ h => h) (.inl ⟨by rfl, ?_⟩) (by first | assumption | rfl) ?_
            rotate_left
            · intro w hS; try subst hS
              go_simp; try with_reducible rfl
            try simp only [Act.put, List.setIfInBounds_toArray, List.set_cons_zero, List.set_cons_succ]
            refine AnyH.take (i := 8) (d := some 75) (v := ?_) (by kernel_rfl) rfl rfl HF (fun _ _ _ h => h) (.inl ⟨by rfl, ?_⟩) (by first | assumption | rfl) ?_
            rotate_left
            · intro w hS; try subst hS
              go_simp; try with_reducible rfl
            try simp only [Act.put, List.setIfInBounds_toArray, List.set_cons_zero, List.set_cons_succ]
            refine AnyH.take (i := 9) (d := some 76) (v := undef) (by kernel_rfl) rfl rfl HF (fun _ _ _ h => h) (.inr ⟨by rfl, rfl⟩) (by first | assumption | rfl) ?_
            try simp only [Act.put, List.setIfInBounds_toArray, List.set_cons_zero, List.set_cons_succ]
            refine AnyH.take (i := 10) (d := some 77) (v := undef) (by kernel_rfl) rfl rfl HF (fun _ _ _ h => h) (.inr ⟨by rfl, rfl⟩) (by first | assumption | rfl) ?_
            try simp only [Act.put, List.setIfInBounds_toArray, List.set_cons_zero, List.set_cons_succ]
            refine AnyH.take (i := 11) (d := some 78) (v := undef) (by kernel_rfl) rfl rfl HF (fun _ _ _ h => h) (.inr ⟨by rfl, rfl⟩) (by first | assumption | rfl) ?_
            try simp only [Act.put, List.setIfInBounds_toArray, List.set_cons_zero, List.set_cons_succ]
            refine AnyH.take (i := 12) (d := some 79) (v := undef) (by kernel_rfl) rfl rfl HF (fun _ _ _ h => h) (.inr ⟨by rfl, rfl⟩) (by first | assumption | rfl) ?_
            try simp only [Act.put, List.setIfInBounds_toArray, List.set_cons_zero, List.set_cons_succ]
            refine AnyH.take (i := 13) (d := some 80) (v := undef) (by kernel_rfl) rfl rfl HF (fun _ _ _ h => h) (.inr ⟨by rfl, rfl⟩) (by first | assumption | rfl) ?_
            try simp only [Act.put, List.setIfInBounds_toArray, List.set_cons_zero, List.set_cons_succ]
            refine AnyH.take (i := 14) (d := some 81) (v := undef) (by kernel_rfl) rfl rfl HF (fun _ _ _ h => h) (.inr ⟨by rfl, rfl⟩) (by first | assumption | rfl) ?_
            try simp only [Act.put, List.setIfInBounds_toArray, List.set_cons_zero, List.set_cons_succ]
            refine AnyH.take (i := 15) (d := some 82) (v := undef) (by kernel_rfl) rfl rfl HF (fun _ _ _ h => h) (.inr ⟨by rfl, rfl⟩) (by first | assumption | rfl) ?_
            try simp only [Act.put, List.setIfInBounds_toArray, List.set_cons_zero, List.set_cons_succ]
            refine AnyH.take (i := 16) (d := some 83) (v := ?_) (by kernel_rfl) rfl rfl HF (fun _ _ _ h => h) (.inl ⟨by rfl, ?_⟩) (by first | assumption | rfl) ?_
            rotate_left
            · intro w hS; try subst hS
              go_simp; try with_reducible rfl
            try simp only [Act.put, List.setIfInBounds_toArray, List.set_cons_zero, List.set_cons_succ]
            refine AnyH.take (i := 17) (d := some 10) (v := ?_) (by kernel_rfl) rfl rfl HF (fun _ _ _ h => h) (.inl ⟨by rfl, ?_⟩) (by first | assumption | rfl) ?_
            rotate_left
            · intro w hS; try subst hS
              go_simp; try with_reducible rfl
            try simp only [Act.put, List.setIfInBounds_toArray, List.set_cons_zero, List.set_cons_succ]
            refine AnyH.done (by kernel_rfl) ?_
            clear m0 m1 S4
            go_wp2_with fail
            go_roundw
            case rel => exact ⟨i + 1, by go_num, by rw [HI2.out], by omega, HA4.out, HM4.out, HB4.out⟩
            case measure => first | (simp [intOf]; omega) | simp [intOf]
          · obtain ⟨lb, hlb⟩ : ∃ b, decide (y ≤ len) = b := ⟨_, rfl⟩
            have hyb : decide (0 ≤ y) = true := decide_eq_true hy0
            have HI2 : Hid (insA len (l.take (i + 1)) = lb) := Lib.hid (by rw [HIS.out, hq, decide_eq_true hy0, hlb]; rfl)
            clear hq
            go_wp2_with fail
            refine wp_region_anyH (Below W1.heap.size W1) (by kernel_rfl) ?_
            obtain ⟨we, hwe⟩ : ∃ w, w3'.drew = w := ⟨_, rfl⟩
            have SE : Below w3'.heap.size w3' we := by rw [← hwe]; exact (Below.refl _ _).drew
            rw [hwe]
            clear hwe
            have S4 : Below W1.heap.size W1 we := HB3.out.trans (SE.mono HB3.out.size)
            have HA4 := Lib.hid (HA3.out.below SE); have HM4 := Lib.hid (HM3.out.below SE); have HB4 := Lib.hid S4
            clear SE
            refine AnyH.take (i := 0) (d := some 67) (v := ?_) (by kernel_rfl) rfl rfl HF (fun _ _ _ h => h) (.inl ⟨by rfl, ?_⟩) (by first | assumption | rfl) ?_
            rotate_left
            · intro w hS; try subst hS
              go_simp; try with_reducible rfl
            try simp only [Act.put, List.setIfInBounds_toArray, List.set_cons_zero, List.set_cons_succ]
            refine AnyH.take (i := 1) (d := some 68) (v := ?_) (by kernel_rfl) rfl rfl HF (fun _ _ _ h => h) (.inl ⟨by rfl, ?_⟩) (by first | assumption | rfl) ?_
            rotate_left
            · intro w hS; try subst hS
              go_simp; try with_reducible rfl
            try simp only [Act.put, List.setIfInBounds_toArray, List.set_cons_zero, List.set_cons_succ]
            refine AnyH.take (i := 2) (d := some 69) (v := ?_) (by kernel_rfl) rfl rfl HF (fun _ _ _ h => h) (.inl ⟨by rfl, ?_⟩) (by first | assumption | rfl) ?_
            rotate_left
            · intro w hS; try subst hS
              go_simp; try with_reducible rfl
            try simp only [Act.put, List.setIfInBounds_toArray, List.set_cons_zero, List.set_cons_succ]
            refine AnyH.take (i := 3) (d := some 70) (v := ?_) (by kernel_rfl) rfl rfl HF (fun _ _ _ h => h) (.inl ⟨by rfl, ?_⟩) (by first | assumption | rfl) ?_
            rotate_left
            · intro w hS; try subst hS
              go_simp; try with_reducible rfl
            try simp only [Act.put, List.setIfInBounds_toArray, List.set_cons_zero, List.set_cons_succ]
            refine AnyH.take (i := 4) (d := some 71) (v := ?_) (by kernel_rfl) rfl rfl HF (fun _ _ _ h => h) (.inl ⟨by rfl, ?_⟩) (by first | assumption | rfl) ?_
            rotate_left
            · intro w hS; try subst hS
              go_simp; try with_reducible rfl
            try simp only [Act.put, List.setIfInBounds_toArray, List.set_cons_zero, List.set_cons_succ]
            refine AnyH.take (i := 5) (d := some 72) (v := ?_) (by kernel_rfl) rfl rfl HF (fun _ _ _ h => h) (.inl ⟨by rfl, ?_⟩) (by first | assumption | rfl) ?_
            rotate_left
            · intro w hS; try subst hS
              go_simp; try with_reducible rfl
            try simp only [Act.put, List.setIfInBounds_toArray, List.set_cons_zero, List.set_cons_succ]
            refine AnyH.take (i := 6) (d := some 73) (v := ?_) (by kernel_rfl) rfl rfl HF (fun _ _ _ h => h) (.inl ⟨by rfl, ?_⟩) (by first | assumption | rfl) ?_
            rotate_left
            · intro w hS; try subst hS
              go_simp; try with_reducible rfl
            try simp only [Act.put, List.setIfInBounds_toArray, List.set_cons_zero, List.set_cons_succ]
            refine AnyH.take (i := 7) (d := some 74) (v := ?_) (by kernel_rfl) rfl rfl HF (fun _ _ _ h => h) (.inl ⟨by rfl, ?_⟩) (by first | assumption | rfl) ?_
            rotate_left
            · intro w hS; try subst hS
              go_simp; try with_reducible rfl
            try simp only [Act.put, List.setIfInBounds_toArray, List.set_cons_zero, List.set_cons_succ]
            refine AnyH.take (i := 8) (d := some 75) (v := ?_) (by kernel_rfl) rfl rfl HF (fun _ _ _ h => h) (.inl ⟨by rfl, ?_⟩) (by first | assumption | rfl) ?_
            rotate_left
            · intro w hS; try subst hS
              go_simp; try with_reducible rfl
            try simp only [Act.put, List.setIfInBounds_toArray, List.set_cons_zero, List.set_cons_succ]
            refine AnyH.take (i := 9) (d := some 76) (v := ?_) (by kernel_rfl) rfl rfl HF (fun _ _ _ h => h) (.inl ⟨by rfl, ?_⟩) (by first | assumption | rfl) ?_
            rotate_left
            · intro w hS; try subst hS
              go_simp; try with_reducible rfl
            try simp only [Act.put, List.setIfInBounds_toArray, List.set_cons_zero, List.set_cons_succ]
            refine AnyH.take (i := 10) (d := some 77) (v := ?_) (by kernel_rfl) rfl rfl HF (fun _ _ _ h => h) (.inl ⟨by rfl, ?_⟩) (by first | assumption | rfl) ?_
            rotate_left
            · intro w hS; try subst hS
              go_simp; try with_reducible rfl
            try simp only [Act.put, List.setIfInBounds_toArray, List.set_cons_zero, List.set_cons_succ]
            refine AnyH.take (i := 11) (d := some 78) (v := ?_) (by kernel_rfl) rfl rfl HF (fun _ _ _ h => h) (.inl ⟨by rfl, ?_⟩) (by first | assumption | rfl) ?_
            rotate_left
            · intro w hS; try subst hS
              go_simp; try with_reducible rfl
            try simp only [Act.put, List.setIfInBounds_toArray, List.set_cons_zero, List.set_cons_succ]
            refine AnyH.take (i := 12) (d := some 79) (v := ?_) (by kernel_rfl) rfl rfl HF (fun _ _ _ h => h) (.inl ⟨by rfl, ?_⟩) (by first | assumption | rfl) ?_
            rotate_left
            · intro w hS; try subst hS
              go_simp; try with_reducible rfl
            try simp only [Act.put, List.setIfInBounds_toArray, List.set_cons_zero, List.set_cons_succ]
            refine AnyH.take (i := 13) (d := some 80) (v := ?_) (by kernel_rfl) rfl rfl HF (fun _ _ _ h => h) (.inl ⟨by rfl, ?_⟩) (by first | assumption | rfl) ?_
            rotate_left
            · intro w hS; try subst hS
              go_simp; try with_reducible rfl
            try simp only [Act.put, List.setIfInBounds_toArray, List.set_cons_zero, List.set_cons_succ]
            refine AnyH.take (i := 14) (d := some 81) (v := ?_) (by kernel_rfl) rfl rfl HF (fun _ _ _ h => h) (.inl ⟨by rfl, ?_⟩) (by first | assumption | rfl) ?_
            rotate_left
            · intro w hS; try subst hS
              go_simp; try with_reducible rfl
            try simp only [Act.put, List.setIfInBounds_toArray, List.set_cons_zero, List.set_cons_succ]
            refine AnyH.take (i := 15) (d := some 82) (v := ?_) (by kernel_rfl) rfl rfl HF (fun _ _ _ h => h) (.inl ⟨by rfl, ?_⟩) (by first | assumption | rfl) ?_
            rotate_left
            · intro w hS; try subst hS
              go_simp; try with_reducible rfl
            try simp only [Act.put, List.setIfInBounds_toArray, List.set_cons_zero, List.set_cons_succ]
            refine AnyH.take (i := 16) (d := some 83) (v := ?_) (by kernel_rfl) rfl rfl HF (fun _ _ _ h => h) (.inl ⟨by rfl, ?_⟩) (by first | assumption | rfl) ?_
            rotate_left
            · intro w hS; try subst hS
              go_simp; try with_reducible rfl
            try simp only [Act.put, List.setIfInBounds_toArray, List.set_cons_zero, List.set_cons_succ]
            refine AnyH.take (i := 17) (d := some 10) (v := ?_) (by kernel_rfl) rfl rfl HF (fun _ _ _ h => h) (.inl ⟨by rfl, ?_⟩) (by first | assumption | rfl) ?_
            rotate_left
            · intro w hS; try subst hS
              go_simp; try with_reducible rfl
            try simp only [Act.put, List.setIfInBounds_toArray, List.set_cons_zero, List.set_cons_succ]
            refine AnyH.done (by kernel_rfl) ?_
            clear m0 m1 S4
            go_wp2_with fail
            go_roundw
            case rel => exact ⟨i + 1, by go_num, by rw [HI2.out, ← hlb], by omega, HA4.out, HM4.out, HB4.out⟩
            case measure => first | (simp [intOf]; omega) | simp [intOf]
      · have hlt2 : ¬ (i : Int) < (l.length : Int) := by omega
        obtain rfl : i = l.length := by omega
        rw [List.take_length] at HA ⊢
        have HPL := Lib.hid (prep_lst E len L r l)
        have HAL := Lib.hid (lstA_len r l)
        obtain ⟨wo, hwo⟩ : ∃ w, w = wr := ⟨_, rfl⟩
        subst hwo
        generalize hA0 : lstA r l = A at *
        obtain ⟨an, han⟩ : ∃ n, l.length = n := ⟨_, rfl⟩
        rw [han] at HA HAL hl30
        rw [han]
        have m1 : ∀ w, Below wo.heap.size wo w → w.cell? ⟨gc, 0, none⟩ = some (.int .i64 len) := fun w hw => (HKC.out w (HB.out.trans (hw.mono HN.out))).cells.1
        have HBR : Hid (∀ w, Below wo.heap.size wo w → Below W1.heap.size W1 w) := Lib.hid (fun w hw => HB.out.trans (hw.mono HN.out))
        clear hlt hi hA0
        cases hin : insA len l with
        | false =>
          rw [hin] at HPL
          have hpl : prepF E len L A = 1 := HPL.out
          clear hin HPL
          go_wp2_with fail
          refine wp_region_anyH (Below wo.heap.size wo) (by kernel_rfl) ?_
          obtain ⟨wd, hwd⟩ : ∃ w, wo.drew = w := ⟨_, rfl⟩
          have SD : Below wo.heap.size wo wd := by rw [← hwd]; exact (Below.refl _ _).drew
          rw [hwd]
          clear hwd
          obtain ⟨wf, hwf⟩ : ∃ w, wd.alloc (.cells #[] 33) = w := ⟨_, rfl⟩
          have bF : Below wd.heap.size wd wf := by rw [← hwf]; exact (Below.refl _ _).alloc (Nat.le_refl _) _
          have lF : Ans wd.heap.size wf (.slice (some ⟨wd.heap.size, 0, none⟩) 0 0) [] := by rw [← hwf]; exact SlA.lit (l := []) encAn_len rfl (by simp)
          have SF := Below.after SD bF
          have HAF := Lib.hid (HA.out.below SF)
          obtain ⟨vg, wg, hrun, sg, bg⟩ := run_catE elemAn encAn_len 50 lF HAF.out (by rw [HAL.out]; omega) bF.size
          obtain ⟨ag, cg, heg⟩ := sg.len
          rw [HAL.out] at heg
          subst heg
          have SG := Below.after SF bg
          have HMG := Lib.hid (HM.out.below SG)
          have HALL := Lib.hid (mapAll_any HMG.out.st HMG.out.wf.wf HMG.out.le HMG.out.chs HMG.out.mt.2.1 (Nat.le_trans HMG.out.len (by decide)) (Ans.row sg) (by rw [HAL.out]; omega) len)
          unfold AllP at HALL
          rw [hpl] at HALL
          have HBG := Lib.hid SG
          clear lF sg bF bg
          refine AnyH.take (i := 0) (d := some 85) (v := ?_) (by kernel_rfl) rfl rfl HF (fun _ _ _ h => h) (.inl ⟨by rfl, ?_⟩) (by first | assumption | rfl) ?_
          rotate_left
          · intro w hS; try subst hS
            go_simp; try with_reducible rfl
          try simp only [Act.put, List.setIfInBounds_toArray, List.set_cons_zero, List.set_cons_succ]
          refine AnyH.take (i := 1) (d := some 86) (v := ?_) (by kernel_rfl) rfl rfl HF (fun _ _ _ h => h) (.inl ⟨by rfl, ?_⟩) (by first | assumption | rfl) ?_
          rotate_left
          · intro w hS; try subst hS
            go_simp; try with_reducible rfl
          try simp only [Act.put, List.setIfInBounds_toArray, List.set_cons_zero, List.set_cons_succ]
          refine AnyH.take (i := 2) (d := some 87) (v := ?_) (by kernel_rfl) rfl rfl HF (fun _ _ _ h => h) (.inl ⟨by rfl, ?_⟩) (by first | assumption | rfl) ?_
          rotate_left
          · intro w hS; try subst hS
            go_simp; try with_reducible rfl
          try simp only [Act.put, List.setIfInBounds_toArray, List.set_cons_zero, List.set_cons_succ]
          refine AnyH.take (i := 3) (d := some 88) (v := ?_) (by kernel_rfl) rfl rfl HF (fun _ _ _ h => h) (.inl ⟨by rfl, ?_⟩) (by first | assumption | rfl) ?_
          rotate_left
          · intro w hS; try subst hS
            go_simp; try with_reducible rfl
          try simp only [Act.put, List.setIfInBounds_toArray, List.set_cons_zero, List.set_cons_succ]
          refine AnyH.take (i := 5) (d := some 90) (v := ?_) (by kernel_rfl) rfl rfl HF (fun _ _ _ h => h) (.inl ⟨by rfl, ?_⟩) (by first | assumption | rfl) ?_
          rotate_left
          · intro w hS; try subst hS
            go_simp; try with_reducible rfl
          try simp only [Act.put, List.setIfInBounds_toArray, List.set_cons_zero, List.set_cons_succ]
          refine AnyH.one (i := 4) (by kernel_rfl) (by kernel_rfl) rfl HF (by rfl) (fun K hK => ?_)
          go_simp
          refine hK _ _ SF ?_
          clear hK K
          try simp only [Act.put, List.setIfInBounds_toArray, List.set_cons_zero, List.set_cons_succ]
          refine AnyH.one (i := 6) (by kernel_rfl) (by kernel_rfl) rfl HF (by rfl) (fun K hK => ?_)
          simp [execOp, resolve, invoke, builtin, hrun, Result.andThen, Act.eval, Oper.uponIn]
          refine hK _ _ SG ?_
          clear hK K hrun hwf
          try simp only [Act.put, List.setIfInBounds_toArray, List.set_cons_zero, List.set_cons_succ]
          refine AnyH.one (i := 7) (by kernel_rfl) (by kernel_rfl) rfl HF (by rfl) (fun K hK => ?_)
          go_simp
          first | ((with_reducible refine And.intro ?hdep ?_); (case hdep => first | rfl | (intro h; cases h))) | skip
          refine callsIn_wide.2 (HALL.out.mono ?_)
          rintro e wk ⟨⟨h, -⟩ | ⟨-, rfl⟩, bk⟩
          · exact absurd h (by decide)
          unfold err
          have SK := Below.after SG bk
          clear bk
          refine hK _ _ SK ?_
          clear hK K
          try simp only [Act.put, List.setIfInBounds_toArray, List.set_cons_zero, List.set_cons_succ]
          refine AnyH.take (i := 8) (d := some 84) (v := ?_) (by kernel_rfl) rfl rfl HF (fun _ _ _ h => h) (.inl ⟨by rfl, ?_⟩) (by first | assumption | rfl) ?_
          rotate_left
          · intro w hS; try subst hS
            go_simp; try with_reducible rfl
          try simp only [Act.put, List.setIfInBounds_toArray, List.set_cons_zero, List.set_cons_succ]
          refine AnyH.take (i := 9) (d := some 93) (v := ?_) (by kernel_rfl) rfl rfl HF (fun _ _ _ h => h) (.inl ⟨by rfl, ?_⟩) (by first | assumption | rfl) ?_
          rotate_left
          · intro w hS; try subst hS
            go_simp; try with_reducible rfl
          try simp only [Act.put, List.setIfInBounds_toArray, List.set_cons_zero, List.set_cons_succ]
          refine AnyH.take (i := 10) (d := some 94) (v := ?_) (by kernel_rfl) rfl rfl HF (fun _ _ _ h => h) (.inl ⟨by rfl, ?_⟩) (by first | assumption | rfl) ?_
          rotate_left
          · intro w hS; try subst hS
            go_simp; try with_reducible rfl
          try simp only [Act.put, List.setIfInBounds_toArray, List.set_cons_zero, List.set_cons_succ]
          refine AnyH.take (i := 11) (d := some 12) (v := ?_) (by kernel_rfl) rfl rfl HF (fun _ _ _ h => h) (.inl ⟨by rfl, ?_⟩) (by first | assumption | rfl) ?_
          rotate_left
          · intro w hS; try subst hS
            go_simp; try with_reducible rfl
          try simp only [Act.put, List.setIfInBounds_toArray, List.set_cons_zero, List.set_cons_succ]
          refine AnyH.take (i := 12) (d := some 13) (v := ?_) (by kernel_rfl) rfl rfl HF (fun _ _ _ h => h) (.inl ⟨by rfl, ?_⟩) (by first | assumption | rfl) ?_
          rotate_left
          · intro w hS; try subst hS
            go_simp; try with_reducible rfl
          try simp only [Act.put, List.setIfInBounds_toArray, List.set_cons_zero, List.set_cons_succ]
          refine AnyH.done (by kernel_rfl) ?_
          have HBK := Lib.hid (HBR.out wk SK)
          have HIS := Lib.hid (is_err wk 1 1 (by decide))
          rw [decide_eq_true rfl] at HIS
          unfold err at HIS
          clear m1 SK SG SF SD
          go_wp2_with fail
          refine HIS.out.mono ?_; rintro e w ⟨rfl, h⟩; rw [h]; clear h w
          go_wp2_with fail
          go_ret
          exact ⟨rfl, HBE.out wk HBK.out⟩
        | true =>
          rw [hin] at HPL
          have hpl : prepF E len L A = (lngF E len L).2 := HPL.out
          clear HPL
          by_cases hl0 : (lngF E len L).2 = 0
          rotate_left
          · have he : errV (lngF E len L).2 = .iface 54 (.int .i64 (lngF E len L).2) := by unfold errV; rw [if_neg hl0]; rfl
            have HPLN := Lib.hid (fun w (hw : Below wo.heap.size wo w) => plength_any (HM.out.below hw).st HM.out.wf.wf HM.out.le (HM.out.below hw).chs HM.out.mt.2.1 (Nat.le_trans HM.out.len (by decide)) len)
            have hec := num_err (c := (lngF E len L).2)
            simp only [he] at HPLN
            obtain ⟨ce, hce⟩ : ∃ c, (lngF E len L).2 = c := ⟨_, rfl⟩
            obtain ⟨nl, hnl⟩ : ∃ c, (lngF E len L).1 = c := ⟨_, rfl⟩
            simp only [hce, hnl] at HPLN
            rw [hce] at hl0 hpl hec
            unfold err at hec
            have HNU := Lib.hid hec
            have hcc : (ce != ce) = false := by simp
            clear he hce hnl hin hec
            go_wp2_with fail
            refine wp_region_anyH (Below wo.heap.size wo) (by kernel_rfl) ?_
            obtain ⟨wd, hwd⟩ : ∃ w, wo.drew = w := ⟨_, rfl⟩
            have SD : Below wo.heap.size wo wd := by rw [← hwd]; exact (Below.refl _ _).drew
            rw [hwd]
            clear hwd
            obtain ⟨wf, hwf⟩ : ∃ w, wd.alloc (.cells #[] 33) = w := ⟨_, rfl⟩
            have bF : Below wd.heap.size wd wf := by rw [← hwf]; exact (Below.refl _ _).alloc (Nat.le_refl _) _
            have lF : Ans wd.heap.size wf (.slice (some ⟨wd.heap.size, 0, none⟩) 0 0) [] := by rw [← hwf]; exact SlA.lit (l := []) encAn_len rfl (by simp)
            have SF := Below.after SD bF
            have HAF := Lib.hid (HA.out.below SF)
            obtain ⟨vg, wg, hrun, sg, bg⟩ := run_catE elemAn encAn_len 50 lF HAF.out (by rw [HAL.out]; omega) bF.size
            obtain ⟨ag, cg, heg⟩ := sg.len
            rw [HAL.out] at heg
            subst heg
            have SG := Below.after SF bg
            have HMG := Lib.hid (HM.out.below SG)
            have HALL := Lib.hid (mapAll_any HMG.out.st HMG.out.wf.wf HMG.out.le HMG.out.chs HMG.out.mt.2.1 (Nat.le_trans HMG.out.len (by decide)) (Ans.row sg) (by rw [HAL.out]; omega) len)
            unfold AllP at HALL
            rw [hpl] at HALL
            have HBG := Lib.hid SG
            clear lF sg bF bg
            refine AnyH.take (i := 0) (d := some 85) (v := ?_) (by kernel_rfl) rfl rfl HF (fun _ _ _ h => h) (.inl ⟨by rfl, ?_⟩) (by first | assumption | rfl) ?_
            rotate_left
            · intro w hS; try subst hS
              go_simp; try with_reducible rfl
            try simp only [Act.put, List.setIfInBounds_toArray, List.set_cons_zero, List.set_cons_succ]
            refine AnyH.take (i := 1) (d := some 86) (v := ?_) (by kernel_rfl) rfl rfl HF (fun _ _ _ h => h) (.inl ⟨by rfl, ?_⟩) (by first | assumption | rfl) ?_
            rotate_left
            · intro w hS; try subst hS
              go_simp; try with_reducible rfl
            try simp only [Act.put, List.setIfInBounds_toArray, List.set_cons_zero, List.set_cons_succ]
            refine AnyH.take (i := 2) (d := some 87) (v := ?_) (by kernel_rfl) rfl rfl HF (fun _ _ _ h => h) (.inl ⟨by rfl, ?_⟩) (by first | assumption | rfl) ?_
            rotate_left
            · intro w hS; try subst hS
              go_simp; try with_reducible rfl
            try simp only [Act.put, List.setIfInBounds_toArray, List.set_cons_zero, List.set_cons_succ]
            refine AnyH.take (i := 3) (d := some 88) (v := ?_) (by kernel_rfl) rfl rfl HF (fun _ _ _ h => h) (.inl ⟨by rfl, ?_⟩) (by first | assumption | rfl) ?_
            rotate_left
            · intro w hS; try subst hS
              go_simp; try with_reducible rfl
            try simp only [Act.put, List.setIfInBounds_toArray, List.set_cons_zero, List.set_cons_succ]
            refine AnyH.take (i := 5) (d := some 90) (v := ?_) (by kernel_rfl) rfl rfl HF (fun _ _ _ h => h) (.inl ⟨by rfl, ?_⟩) (by first | assumption | rfl) ?_
            rotate_left
            · intro w hS; try subst hS
              go_simp; try with_reducible rfl
            try simp only [Act.put, List.setIfInBounds_toArray, List.set_cons_zero, List.set_cons_succ]
            refine AnyH.one (i := 4) (by kernel_rfl) (by kernel_rfl) rfl HF (by rfl) (fun K hK => ?_)
            go_simp
            refine hK _ _ SF ?_
            clear hK K
            try simp only [Act.put, List.setIfInBounds_toArray, List.set_cons_zero, List.set_cons_succ]
            refine AnyH.one (i := 6) (by kernel_rfl) (by kernel_rfl) rfl HF (by rfl) (fun K hK => ?_)
            simp [execOp, resolve, invoke, builtin, hrun, Result.andThen, Act.eval, Oper.uponIn]
            refine hK _ _ SG ?_
            clear hK K hrun hwf
            try simp only [Act.put, List.setIfInBounds_toArray, List.set_cons_zero, List.set_cons_succ]
            refine AnyH.one (i := 7) (by kernel_rfl) (by kernel_rfl) rfl HF (by rfl) (fun K hK => ?_)
            go_simp
            first | ((with_reducible refine And.intro ?hdep ?_); (case hdep => first | rfl | (intro h; cases h))) | skip
            refine callsIn_wide.2 (HALL.out.mono ?_)
            rintro e wk ⟨⟨h, -⟩ | ⟨-, rfl⟩, bk⟩
            · exact absurd h hl0
            unfold err
            have SK := Below.after SG bk
            clear bk
            refine hK _ _ SK ?_
            clear hK K
            try simp only [Act.put, List.setIfInBounds_toArray, List.set_cons_zero, List.set_cons_succ]
            refine AnyH.take (i := 8) (d := some 84) (v := ?_) (by kernel_rfl) rfl rfl HF (fun _ _ _ h => h) (.inl ⟨by rfl, ?_⟩) (by first | assumption | rfl) ?_
            rotate_left
            · intro w hS; try subst hS
              go_simp; try with_reducible rfl
            try simp only [Act.put, List.setIfInBounds_toArray, List.set_cons_zero, List.set_cons_succ]
            refine AnyH.take (i := 9) (d := some 93) (v := ?_) (by kernel_rfl) rfl rfl HF (fun _ _ _ h => h) (.inl ⟨by rfl, ?_⟩) (by first | assumption | rfl) ?_
            rotate_left
            · intro w hS; try subst hS
              go_simp; try with_reducible rfl
            try simp only [Act.put, List.setIfInBounds_toArray, List.set_cons_zero, List.set_cons_succ]
            refine AnyH.take (i := 10) (d := some 94) (v := ?_) (by kernel_rfl) rfl rfl HF (fun _ _ _ h => h) (.inl ⟨by rfl, ?_⟩) (by first | assumption | rfl) ?_
            rotate_left
            · intro w hS; try subst hS
              go_simp; try with_reducible rfl
            try simp only [Act.put, List.setIfInBounds_toArray, List.set_cons_zero, List.set_cons_succ]
            refine AnyH.take (i := 11) (d := some 12) (v := ?_) (by kernel_rfl) rfl rfl HF (fun _ _ _ h => h) (.inl ⟨by rfl, ?_⟩) (by first | assumption | rfl) ?_
            rotate_left
            · intro w hS; try subst hS
              go_simp; try with_reducible rfl
            try simp only [Act.put, List.setIfInBounds_toArray, List.set_cons_zero, List.set_cons_succ]
            refine AnyH.take (i := 12) (d := some 13) (v := ?_) (by kernel_rfl) rfl rfl HF (fun _ _ _ h => h) (.inl ⟨by rfl, ?_⟩) (by first | assumption | rfl) ?_
            rotate_left
            · intro w hS; try subst hS
              go_simp; try with_reducible rfl
            try simp only [Act.put, List.setIfInBounds_toArray, List.set_cons_zero, List.set_cons_succ]
            refine AnyH.done (by kernel_rfl) ?_
            have HSK := Lib.hid SK
            have HPK := Lib.hid (HPLN.out wk SK)
            have d0 := m1 wk SK
            clear m1 SK SG SF SD
            go_wp2_with fail
            clear d0
            refine HPK.out.mono ?_
            rintro e wl ⟨rfl, bl⟩
            have HBL := Lib.hid (HBR.out wl (Below.after HSK.out bl))
            clear bl
            go_wp2_with fail
            refine (HNU.out wl).mono ?_; rintro e w ⟨rfl, h⟩; rw [h]; clear h w
            go_wp2_with fail
            refine (HNU.out wl).mono ?_; rintro e w ⟨rfl, h⟩; rw [h]; clear h w
            go_wp2_with fail
            refine (HNU.out wl).mono ?_; rintro e w ⟨rfl, h⟩; rw [h]; clear h w
            go_wp2_with fail
            refine (HNU.out wl).mono ?_; rintro e w ⟨rfl, h⟩; rw [h]; clear h w
            go_wp2_with fail
            go_ret
            exact ⟨by simp, HBE.out wl HBL.out⟩
          · rw [hl0] at hpl
            have HL0 := Lib.hid hl0
            have HPLN := Lib.hid (fun w (hw : Below wo.heap.size wo w) => plength_any (HM.out.below hw).st HM.out.wf.wf HM.out.le (HM.out.below hw).chs HM.out.mt.2.1 (Nat.le_trans HM.out.len (by decide)) len)
            simp only [hl0, errV_0] at HPLN
            have hax := (prepF_ok hpl).2
            obtain ⟨o1, o2, -, -, -⟩ := lngF_ok hl0
            have HPO : Hid (∀ (x : Int) (q : Bool), (x, q) ∈ A → prepF E len L [(x, q)] = 0) := Lib.hid (fun x q hm => by
              have := hax _ hm
              rw [prep_one, if_pos ⟨o1, o2, this.1, this.2⟩]; exact hl0)
            have HRI : Hid (∀ i (h : i < A.length), (resA E len L A)[i]? = some ((ancF (mvsF E 0 L) (lngF E len L).1 len A[i].1 A[i].2).1, A[i].2)) := Lib.hid (fun i h => by
              unfold resA
              rw [List.getElem?_map, List.getElem?_eq_getElem h]; rfl)
            have HRL : Hid ((resA E len L A).length = an) := Lib.hid (by unfold resA; rw [List.length_map]; exact HAL.out)
            obtain ⟨nl, hnl⟩ : ∃ c, (lngF E len L).1 = c := ⟨_, rfl⟩
            have HNL := Lib.hid hnl
            simp only [hnl] at HPLN
            obtain ⟨R, hR⟩ : ∃ R, resA E len L A = R := ⟨_, rfl⟩
            rw [hR] at HRI HRL
            have HRR := Lib.hid hR
            clear hl0 hin hax o1 o2 hnl hR
            go_wp2_with fail
            refine wp_region_anyH (Below wo.heap.size wo) (by kernel_rfl) ?_
            obtain ⟨wd, hwd⟩ : ∃ w, wo.drew = w := ⟨_, rfl⟩
            have SD : Below wo.heap.size wo wd := by rw [← hwd]; exact (Below.refl _ _).drew
            rw [hwd]
            clear hwd
            obtain ⟨wf, hwf⟩ : ∃ w, wd.alloc (.cells #[] 33) = w := ⟨_, rfl⟩
            have bF : Below wd.heap.size wd wf := by rw [← hwf]; exact (Below.refl _ _).alloc (Nat.le_refl _) _
            have lF : Ans wd.heap.size wf (.slice (some ⟨wd.heap.size, 0, none⟩) 0 0) [] := by rw [← hwf]; exact SlA.lit (l := []) encAn_len rfl (by simp)
            have SF := Below.after SD bF
            have HAF := Lib.hid (HA.out.below SF)
            obtain ⟨vg, wg, hrun, sg, bg⟩ := run_catE elemAn encAn_len 50 lF HAF.out (by rw [HAL.out]; omega) bF.size
            obtain ⟨ag, cg, heg⟩ := sg.len
            rw [HAL.out] at heg
            subst heg
            have SG := Below.after SF bg
            have HMG := Lib.hid (HM.out.below SG)
            have HALL := Lib.hid (mapAll_any HMG.out.st HMG.out.wf.wf HMG.out.le HMG.out.chs HMG.out.mt.2.1 (Nat.le_trans HMG.out.len (by decide)) (Ans.row sg) (by rw [HAL.out]; omega) len)
            unfold AllP at HALL
            rw [hpl] at HALL
            have HBG := Lib.hid SG
            clear lF sg bF bg
            refine AnyH.take (i := 0) (d := some 85) (v := ?_) (by kernel_rfl) rfl rfl HF (fun _ _ _ h => h) (.inl ⟨by rfl, ?_⟩) (by first | assumption | rfl) ?_
            rotate_left
            · intro w hS; try subst hS
              go_simp; try with_reducible rfl
            try simp only [Act.put, List.setIfInBounds_toArray, List.set_cons_zero, List.set_cons_succ]
            refine AnyH.take (i := 1) (d := some 86) (v := ?_) (by kernel_rfl) rfl rfl HF (fun _ _ _ h => h) (.inl ⟨by rfl, ?_⟩) (by first | assumption | rfl) ?_
            rotate_left
            · intro w hS; try subst hS
              go_simp; try with_reducible rfl
            try simp only [Act.put, List.setIfInBounds_toArray, List.set_cons_zero, List.set_cons_succ]
            refine AnyH.take (i := 2) (d := some 87) (v := ?_) (by kernel_rfl) rfl rfl HF (fun _ _ _ h => h) (.inl ⟨by rfl, ?_⟩) (by first | assumption | rfl) ?_
            rotate_left
            · intro w hS; try subst hS
              go_simp; try with_reducible rfl
            try simp only [Act.put, List.setIfInBounds_toArray, List.set_cons_zero, List.set_cons_succ]
            refine AnyH.take (i := 3) (d := some 88) (v := ?_) (by kernel_rfl) rfl rfl HF (fun _ _ _ h => h) (.inl ⟨by rfl, ?_⟩) (by first | assumption | rfl) ?_
            rotate_left
            · intro w hS; try subst hS
              go_simp; try with_reducible rfl
            try simp only [Act.put, List.setIfInBounds_toArray, List.set_cons_zero, List.set_cons_succ]
            refine AnyH.take (i := 5) (d := some 90) (v := ?_) (by kernel_rfl) rfl rfl HF (fun _ _ _ h => h) (.inl ⟨by rfl, ?_⟩) (by first | assumption | rfl) ?_
            rotate_left
            · intro w hS; try subst hS
              go_simp; try with_reducible rfl
            try simp only [Act.put, List.setIfInBounds_toArray, List.set_cons_zero, List.set_cons_succ]
            refine AnyH.one (i := 4) (by kernel_rfl) (by kernel_rfl) rfl HF (by rfl) (fun K hK => ?_)
            go_simp
            refine hK _ _ SF ?_
            clear hK K
            try simp only [Act.put, List.setIfInBounds_toArray, List.set_cons_zero, List.set_cons_succ]
            refine AnyH.one (i := 6) (by kernel_rfl) (by kernel_rfl) rfl HF (by rfl) (fun K hK => ?_)
            simp [execOp, resolve, invoke, builtin, hrun, Result.andThen, Act.eval, Oper.uponIn]
            refine hK _ _ SG ?_
            clear hK K hrun hwf
            try simp only [Act.put, List.setIfInBounds_toArray, List.set_cons_zero, List.set_cons_succ]
            refine AnyH.one (i := 7) (by kernel_rfl) (by kernel_rfl) rfl HF (by rfl) (fun K hK => ?_)
            go_simp
            first | ((with_reducible refine And.intro ?hdep ?_); (case hdep => first | rfl | (intro h; cases h))) | skip
            refine callsIn_wide.2 (HALL.out.mono ?_)
            rintro e wk ⟨⟨-, vr, rfl, hrow⟩ | ⟨h, -⟩, bk⟩
            rotate_left
            · exact absurd rfl h
            rw [HRR.out] at hrow
            have HROW := Lib.hid hrow
            obtain ⟨ra, rc, rfl, -⟩ := hrow
            have SK := Below.after SG bk
            clear bk
            refine hK _ _ SK ?_
            clear hK K
            try simp only [Act.put, List.setIfInBounds_toArray, List.set_cons_zero, List.set_cons_succ]
            refine AnyH.take (i := 8) (d := some 84) (v := ?_) (by kernel_rfl) rfl rfl HF (fun _ _ _ h => h) (.inl ⟨by rfl, ?_⟩) (by first | assumption | rfl) ?_
            rotate_left
            · intro w hS; try subst hS
              go_simp; try with_reducible rfl
            try simp only [Act.put, List.setIfInBounds_toArray, List.set_cons_zero, List.set_cons_succ]
            refine AnyH.take (i := 9) (d := some 93) (v := ?_) (by kernel_rfl) rfl rfl HF (fun _ _ _ h => h) (.inl ⟨by rfl, ?_⟩) (by first | assumption | rfl) ?_
            rotate_left
            · intro w hS; try subst hS
              go_simp; try with_reducible rfl
            try simp only [Act.put, List.setIfInBounds_toArray, List.set_cons_zero, List.set_cons_succ]
            refine AnyH.take (i := 10) (d := some 94) (v := ?_) (by kernel_rfl) rfl rfl HF (fun _ _ _ h => h) (.inl ⟨by rfl, ?_⟩) (by first | assumption | rfl) ?_
            rotate_left
            · intro w hS; try subst hS
              go_simp; try with_reducible rfl
            try simp only [Act.put, List.setIfInBounds_toArray, List.set_cons_zero, List.set_cons_succ]
            refine AnyH.take (i := 11) (d := some 12) (v := ?_) (by kernel_rfl) rfl rfl HF (fun _ _ _ h => h) (.inl ⟨by rfl, ?_⟩) (by first | assumption | rfl) ?_
            rotate_left
            · intro w hS; try subst hS
              go_simp; try with_reducible rfl
            try simp only [Act.put, List.setIfInBounds_toArray, List.set_cons_zero, List.set_cons_succ]
            refine AnyH.take (i := 12) (d := some 13) (v := ?_) (by kernel_rfl) rfl rfl HF (fun _ _ _ h => h) (.inl ⟨by rfl, ?_⟩) (by first | assumption | rfl) ?_
            rotate_left
            · intro w hS; try subst hS
              go_simp; try with_reducible rfl
            try simp only [Act.put, List.setIfInBounds_toArray, List.set_cons_zero, List.set_cons_succ]
            refine AnyH.done (by kernel_rfl) ?_
            rw [HRL.out]
            rw [HRL.out] at HROW
            have HSK := Lib.hid SK
            have HPK := Lib.hid (HPLN.out wk SK)
            have d0 := m1 wk SK
            clear m1 SK SG SF SD hpl
            go_wp2_with fail
            clear d0
            refine HPK.out.mono ?_
            rintro e wl ⟨rfl, bl⟩
            have HSL := Lib.hid (Below.after HSK.out bl)
            have HRW := Lib.hid (HROW.out.below bl)
            clear bl
            go_wp2_with fail
            refine (num_nil wl).mono ?_; rintro e w ⟨rfl, h⟩; rw [h]; clear h w
            go_wp2_with fail
            refine (num_nil wl).mono ?_; rintro e w ⟨rfl, h⟩; rw [h]; clear h w
            have hnn : ((an : Int) != (an : Int)) = false := by simp
            go_wp2_with fail
            go_loopw [16] (fun jv wr => ∃ j : Nat, jv = .int .i64 j ∧ j ≤ an ∧ Below wl.heap.size wl wr) (fun jv _ => an - (intOf jv).toNat)
            case atStart => exact ⟨0, rfl, Nat.zero_le _, Below.refl _ _⟩
            case round =>
              obtain ⟨j, rfl, hj, hB⟩ := hrel
              have HZ := Lib.hid hB
              clear hB
              by_cases hjl : j < an
              · have hj2 : (j : Int) < (an : Int) := by omega
                have hj3 : (0 : Int) ≤ (j : Int) := by omega
                have hja : j < A.length := by rw [HAL.out]; exact hjl
                have hjr : j < R.length := by rw [HRL.out]; exact hjl
                have hwz : Below wo.heap.size wo wr := Below.after HSL.out HZ.out
                obtain ⟨ga, gcap, hv, hc⟩ := Ans.at (HA.out.below hwz) hja
                rw [HAL.out] at hv
                simp only [Value.slice.injEq] at hv
                obtain ⟨rfl, -, rfl⟩ := hv
                obtain ⟨a', cap', ha', -, -, hri⟩ := HRW.out.below HZ.out
                simp only [Value.slice.injEq] at ha'
                obtain ⟨rfl, -, rfl⟩ := ha'
                obtain ⟨br, rfl, rb0, rb1⟩ := hri j hjr
                have hre := HRI.out j hja
                rw [List.getElem?_eq_getElem hjr] at hre
                simp only [Option.some.injEq] at hre
                rw [hre] at rb0 rb1
                have hpo := HPO.out A[j].1 A[j].2 (List.getElem_mem hja)
                obtain ⟨ax, aq, hax⟩ : ∃ x q, A[j] = (x, q) := ⟨_, _, rfl⟩
                simp only [hax] at hc rb0 rb1 hpo
                obtain ⟨ta, tb, hres⟩ : ∃ a b, ancF (mvsF E 0 L) (lngF E len L).1 len ax aq = (a, b) := ⟨_, _, rfl⟩
                rw [hres] at rb0
                dsimp only at rb0 rb1
                have HMP := Lib.hid (fun w (hw : Below wr.heap.size wr w) => map_ok ((HM.out.below hwz).below hw).st HM.out.wf.wf HM.out.le ((HM.out.below hwz).below hw).chs HM.out.mt.2.1 (Nat.le_trans HM.out.len (by decide)) hpo hres)
                have HBZ := Lib.hid (HBR.out wr hwz)
                have m1 : ∀ w, Below wr.heap.size wr w → w.cell? ⟨gc, 0, none⟩ = some (.int .i64 len) := fun w hw => (HKC.out w (HBZ.out.trans (hw.mono HBZ.out.size))).cells.1
                have m2 : ∀ w, Below wr.heap.size wr w → w.cell? ⟨ga, j * 2, none⟩ = some (.int .i64 ax) := fun w hw => (hc w hw).1
                have m3 : ∀ w, Below wr.heap.size wr w → w.cell? ⟨ga, j * 2 + 1, none⟩ = some (.bool aq) := fun w hw => (hc w hw).2
                have HB0 := Lib.hid rb0; have HB1 := Lib.hid rb1
                clear hwz hri hre hpo hax hres rb0 rb1 hja hjr
                go_wp2_with fail
                refine wp_region_anyH (Below wr.heap.size wr) (by kernel_rfl) ?_
                obtain ⟨wd, hwd⟩ : ∃ w, wr.drew = w := ⟨_, rfl⟩
                have SC : Below wr.heap.size wr wd := by rw [← hwd]; exact (Below.refl _ _).drew
                rw [hwd]
                clear hwd hc
                refine AnyH.take (i := 0) (d := some 143) (v := ?_) (by kernel_rfl) rfl rfl HF (fun _ _ _ h => h) (.inl ⟨by rfl, ?_⟩) (by first | assumption | rfl) ?_
                rotate_left
                · intro w hS; try subst hS
                  go_simp; try with_reducible rfl
                try simp only [Act.put, List.setIfInBounds_toArray, List.set_cons_zero, List.set_cons_succ]
                refine AnyH.take (i := 1) (d := some 144) (v := ?_) (by kernel_rfl) rfl rfl HF (fun _ _ _ h => h) (.inl ⟨by rfl, ?_⟩) (by first | assumption | rfl) ?_
                rotate_left
                · intro w hS; try subst hS
                  go_simp; try with_reducible rfl
                try simp only [Act.put, List.setIfInBounds_toArray, List.set_cons_zero, List.set_cons_succ]
                refine AnyH.take (i := 2) (d := some 145) (v := ?_) (by kernel_rfl) rfl rfl HF (fun _ _ _ h => h) (.inl ⟨by rfl, ?_⟩) (by first | assumption | rfl) ?_
                rotate_left
                · intro w hS; try subst hS
                  go_simp; try with_reducible rfl
                try simp only [Act.put, List.setIfInBounds_toArray, List.set_cons_zero, List.set_cons_succ]
                refine AnyH.take (i := 3) (d := some 146) (v := ?_) (by kernel_rfl) rfl rfl HF (fun _ _ _ h => h) (.inl ⟨by rfl, ?_⟩) (by first | assumption | rfl) ?_
                rotate_left
                · intro w hS; try subst hS
                  go_simp; try with_reducible rfl
                try simp only [Act.put, List.setIfInBounds_toArray, List.set_cons_zero, List.set_cons_succ]
                refine AnyH.take (i := 4) (d := some 147) (v := ?_) (by kernel_rfl) rfl rfl HF (fun _ _ _ h => h) (.inl ⟨by rfl, ?_⟩) (by first | assumption | rfl) ?_
                rotate_left
                · intro w hS; try subst hS
                  go_simp; try with_reducible rfl
                try simp only [Act.put, List.setIfInBounds_toArray, List.set_cons_zero, List.set_cons_succ]
                refine AnyH.take (i := 5) (d := some 148) (v := ?_) (by kernel_rfl) rfl rfl HF (fun _ _ _ h => h) (.inl ⟨by rfl, ?_⟩) (by first | assumption | rfl) ?_
                rotate_left
                · intro w hS; try subst hS
                  go_simp; try with_reducible rfl
                try simp only [Act.put, List.setIfInBounds_toArray, List.set_cons_zero, List.set_cons_succ]
                refine AnyH.take (i := 6) (d := some 149) (v := ?_) (by kernel_rfl) rfl rfl HF (fun _ _ _ h => h) (.inl ⟨by rfl, ?_⟩) (by first | assumption | rfl) ?_
                rotate_left
                · intro w hS; try subst hS
                  go_simp; try with_reducible rfl
                try simp only [Act.put, List.setIfInBounds_toArray, List.set_cons_zero, List.set_cons_succ]
                refine AnyH.take (i := 7) (d := some 150) (v := ?_) (by kernel_rfl) rfl rfl HF (fun _ _ _ h => h) (.inl ⟨by rfl, ?_⟩) (by first | assumption | rfl) ?_
                rotate_left
                · intro w hS; try subst hS
                  go_simp; try with_reducible rfl
                try simp only [Act.put, List.setIfInBounds_toArray, List.set_cons_zero, List.set_cons_succ]
                refine AnyH.two (i := 8) (j := 13) (by kernel_rfl) (by kernel_rfl) rfl rfl HF (by rfl) (by rfl) (fun K hK => ?_) (fun K hK => ?_)
                · go_simp
                  first | ((with_reducible refine And.intro ?hdep ?_); (case hdep => first | rfl | (intro h; cases h))) | skip
                  refine callsIn_wide.2 ((HMP.out _ SC).mono ?_)
                  rintro e wc ⟨rfl, bc⟩
                  have SC := Below.after SC bc
                  try (have KB := below_block bc KB; obtain ⟨z, hz, KZ, BZ, ⟨f0, f1⟩, x0, x1⟩ := stAn (show AnC wc _ 0 false from KB) ta aq)
                  clear bc
                  refine hK _ _ SC ?_
                  clear hK K
                  try simp only [Act.put, List.setIfInBounds_toArray, List.set_cons_zero, List.set_cons_succ]
                  refine AnyH.take (i := 9) (d := some 142) (v := ?_) (by kernel_rfl) rfl rfl HF (fun _ _ _ h => h) (.inl ⟨by rfl, ?_⟩) (by first | assumption | rfl) ?_
                  rotate_left
                  · intro w hS; try subst hS
                    go_simp; try with_reducible rfl
                  try simp only [Act.put, List.setIfInBounds_toArray, List.set_cons_zero, List.set_cons_succ]
                  refine AnyH.take (i := 10) (d := some 152) (v := ?_) (by kernel_rfl) rfl rfl HF (fun _ _ _ h => h) (.inl ⟨by rfl, ?_⟩) (by first | assumption | rfl) ?_
                  rotate_left
                  · intro w hS; try subst hS
                    go_simp; try with_reducible rfl
                  try simp only [Act.put, List.setIfInBounds_toArray, List.set_cons_zero, List.set_cons_succ]
                  refine AnyH.take (i := 11) (d := some 153) (v := ?_) (by kernel_rfl) rfl rfl HF (fun _ _ _ h => h) (.inl ⟨by rfl, ?_⟩) (by first | assumption | rfl) ?_
                  rotate_left
                  · intro w hS; try subst hS
                    go_simp; try with_reducible rfl
                  try simp only [Act.put, List.setIfInBounds_toArray, List.set_cons_zero, List.set_cons_succ]
                  refine AnyH.take (i := 12) (d := some 154) (v := ?_) (by kernel_rfl) rfl rfl HF (fun _ _ _ h => h) (.inl ⟨by rfl, ?_⟩) (by first | assumption | rfl) ?_
                  rotate_left
                  · intro w hS; try subst hS
                    go_simp; try with_reducible rfl
                  try simp only [Act.put, List.setIfInBounds_toArray, List.set_cons_zero, List.set_cons_succ]
                  refine AnyH.one (i := 13) (by kernel_rfl) (by kernel_rfl) rfl HF (by rfl) (fun K hK => ?_)
                  go_simp
                  obtain ⟨wb, hwb, KB, SB, LB⟩ := boxAn SC (Nat.le_refl _)
                  rw [hwb]
                  clear hwb
                  have SC := SB
                  refine hK _ _ SC ?_
                  clear hK K
                  obtain ⟨z, hz, KZ, BZ, ⟨f0, f1⟩, x0, x1⟩ := stAn KB ta aq
                  try simp only [Act.put, List.setIfInBounds_toArray, List.set_cons_zero, List.set_cons_succ]
                  refine AnyH.one (i := 14) (by kernel_rfl) (by kernel_rfl) rfl HF (by rfl) (fun K hK => ?_)
                  go_simp
                  have SZ := BZ _ _ SC LB
                  refine hK _ _ SZ ?_
                  clear hK K
                  try simp only [Act.put, List.setIfInBounds_toArray, List.set_cons_zero, List.set_cons_succ]
                  refine AnyH.take (i := 15) (d := some 18) (v := ?_) (by kernel_rfl) rfl rfl HF (fun _ _ _ h => h) (.inl ⟨by rfl, ?_⟩) (by first | assumption | rfl) ?_
                  rotate_left
                  · intro w hS; try subst hS
                    go_simp; try with_reducible rfl
                  try simp only [Act.put, List.setIfInBounds_toArray, List.set_cons_zero, List.set_cons_succ]
                  refine AnyH.take (i := 16) (d := some 19) (v := ?_) (by kernel_rfl) rfl rfl HF (fun _ _ _ h => h) (.inl ⟨by rfl, ?_⟩) (by first | assumption | rfl) ?_
                  rotate_left
                  · intro w hS; try subst hS
                    go_simp; try with_reducible rfl
                  try simp only [Act.put, List.setIfInBounds_toArray, List.set_cons_zero, List.set_cons_succ]
                  refine AnyH.done (by kernel_rfl) ?_
                  have HSZ := Lib.hid SZ
                  have HKZ := Lib.hid KZ
                  clear m1 m2 m3 hz f0 f1 x0 x1 KB KZ BZ SC LB SZ
                  have n0 : ∀ w, Below z.heap.size z w → w.cell? ⟨_, 0, none⟩ = some (.int .i64 ta) := fun w hw => (AnC.cells (below_block hw HKZ.out)).1
                  have n1 : ∀ w, Below z.heap.size z w → w.cell? ⟨_, 1, none⟩ = some (.bool aq) := fun w hw => (AnC.cells (below_block hw HKZ.out)).2.1
                  have n2 : ∀ w, Below z.heap.size z w → w.cell? (br.add (j * 2)) = some (.int .i64 ta) := fun w hw => cell_below HB0.out (Below.after HSZ.out hw)
                  have n3 : ∀ w, Below z.heap.size z w → w.cell? ⟨(br.add (j * 2)).block, (br.add (j * 2)).off + 1, none⟩ = some (.bool aq) := fun w hw => cell_below HB1.out (Below.after HSZ.out hw)
                  have heq := an_eq ta ta aq aq
                  rw [decide_eq_true (show ta = ta ∧ aq = aq from ⟨rfl, rfl⟩)] at heq
                  go_wp2_with fail
                  refine wp_region_anyH (Below z.heap.size z) (by kernel_rfl) ?_
                  have S1 : Below z.heap.size z z.drew := (Below.refl _ _).drew
                  refine AnyH.take (i := 0) (d := some 155) (v := ?_) (by kernel_rfl) rfl rfl HF (fun _ _ _ h => h) (.inl ⟨by rfl, ?_⟩) (by first | assumption | rfl) ?_
                  rotate_left
                  · intro w hS; try subst hS
                    go_simp; try with_reducible rfl
                  try simp only [Act.put, List.setIfInBounds_toArray, List.set_cons_zero, List.set_cons_succ]
                  refine AnyH.take (i := 1) (d := some 156) (v := ?_) (by kernel_rfl) rfl rfl HF (fun _ _ _ h => h) (.inl ⟨by rfl, ?_⟩) (by first | assumption | rfl) ?_
                  rotate_left
                  · intro w hS; try subst hS
                    go_simp; try with_reducible rfl
                  try simp only [Act.put, List.setIfInBounds_toArray, List.set_cons_zero, List.set_cons_succ]
                  refine AnyH.take (i := 2) (d := some 157) (v := ?_) (by kernel_rfl) rfl rfl HF (fun _ _ _ h => h) (.inl ⟨by rfl, ?_⟩) (by first | assumption | rfl) ?_
                  rotate_left
                  · intro w hS; try subst hS
                    go_simp; try with_reducible rfl
                  try simp only [Act.put, List.setIfInBounds_toArray, List.set_cons_zero, List.set_cons_succ]
                  refine AnyH.take (i := 3) (d := some 158) (v := ?_) (by kernel_rfl) rfl rfl HF (fun _ _ _ h => h) (.inl ⟨by rfl, ?_⟩) (by first | assumption | rfl) ?_
                  rotate_left
                  · intro w hS; try subst hS
                    go_simp; try with_reducible rfl
                  try simp only [Act.put, List.setIfInBounds_toArray, List.set_cons_zero, List.set_cons_succ]
                  refine AnyH.take (i := 4) (d := some 159) (v := ?_) (by kernel_rfl) rfl rfl HF (fun _ _ _ h => h) (.inl ⟨by rfl, ?_⟩) (by first | assumption | rfl) ?_
                  rotate_left
                  · intro w hS; try subst hS
                    go_simp; try with_reducible rfl
                  try simp only [Act.put, List.setIfInBounds_toArray, List.set_cons_zero, List.set_cons_succ]
                  refine AnyH.take (i := 5) (d := some 160) (v := ?_) (by kernel_rfl) rfl rfl HF (fun _ _ _ h => h) (.inl ⟨by rfl, ?_⟩) (by first | assumption | rfl) ?_
                  rotate_left
                  · intro w hS; try subst hS
                    go_simp; try with_reducible rfl
                  try simp only [Act.put, List.setIfInBounds_toArray, List.set_cons_zero, List.set_cons_succ]
                  refine AnyH.take (i := 6) (d := some 161) (v := ?_) (by kernel_rfl) rfl rfl HF (fun _ _ _ h => h) (.inl ⟨by rfl, ?_⟩) (by first | assumption | rfl) ?_
                  rotate_left
                  · intro w hS; try subst hS
                    go_simp; try with_reducible rfl
                  try simp only [Act.put, List.setIfInBounds_toArray, List.set_cons_zero, List.set_cons_succ]
                  refine AnyH.take (i := 7) (d := some 162) (v := ?_) (by kernel_rfl) rfl rfl HF (fun _ _ _ h => h) (.inl ⟨by rfl, ?_⟩) (by first | assumption | rfl) ?_
                  rotate_left
                  · intro w hS; try subst hS
                    go_simp; try with_reducible rfl
                  try simp only [Act.put, List.setIfInBounds_toArray, List.set_cons_zero, List.set_cons_succ]
                  refine AnyH.take (i := 8) (d := some 163) (v := ?_) (by kernel_rfl) rfl rfl HF (fun _ _ _ h => h) (.inl ⟨by rfl, ?_⟩) (by first | assumption | rfl) ?_
                  rotate_left
                  · intro w hS; try subst hS
                    go_simp; try with_reducible rfl
                  try simp only [Act.put, List.setIfInBounds_toArray, List.set_cons_zero, List.set_cons_succ]
                  refine AnyH.take (i := 9) (d := some 164) (v := ?_) (by kernel_rfl) rfl rfl HF (fun _ _ _ h => h) (.inl ⟨by rfl, ?_⟩) (by first | assumption | rfl) ?_
                  rotate_left
                  · intro w hS; try subst hS
                    go_simp; try with_reducible rfl
                  try simp only [Act.put, List.setIfInBounds_toArray, List.set_cons_zero, List.set_cons_succ]
                  refine AnyH.done (by kernel_rfl) ?_
                  clear n0 n1 n2 n3 heq
                  have HX : Hid (Below wl.heap.size wl z.drew) := Lib.hid (Below.after HZ.out (Below.after HSZ.out S1))
                  clear S1
                  go_wp2_with fail
                  go_roundw
                  case rel => exact ⟨j + 1, by go_num, by omega, HX.out⟩
                  case measure => first | (simp [intOf]; omega) | simp [intOf]
                · go_simp
                  obtain ⟨wb, hwb, KB, SB, LB⟩ := boxAn SC (Nat.le_refl _)
                  rw [hwb]
                  clear hwb
                  have SC := SB
                  refine hK _ _ SC ?_
                  clear hK K
                  obtain ⟨z, hz, KZ, BZ, ⟨f0, f1⟩, x0, x1⟩ := stAn KB ta aq
                  try simp only [Act.put, List.setIfInBounds_toArray, List.set_cons_zero, List.set_cons_succ]
                  refine AnyH.one (i := 8) (by kernel_rfl) (by kernel_rfl) rfl HF (by rfl) (fun K hK => ?_)
                  go_simp
                  first | ((with_reducible refine And.intro ?hdep ?_); (case hdep => first | rfl | (intro h; cases h))) | skip
                  refine callsIn_wide.2 ((HMP.out _ SC).mono ?_)
                  rintro e wc ⟨rfl, bc⟩
                  have SC := Below.after SC bc
                  try (have KB := below_block bc KB; obtain ⟨z, hz, KZ, BZ, ⟨f0, f1⟩, x0, x1⟩ := stAn (show AnC wc _ 0 false from KB) ta aq)
                  clear bc
                  refine hK _ _ SC ?_
                  clear hK K
                  try simp only [Act.put, List.setIfInBounds_toArray, List.set_cons_zero, List.set_cons_succ]
                  refine AnyH.take (i := 9) (d := some 142) (v := ?_) (by kernel_rfl) rfl rfl HF (fun _ _ _ h => h) (.inl ⟨by rfl, ?_⟩) (by first | assumption | rfl) ?_
                  rotate_left
                  · intro w hS; try subst hS
                    go_simp; try with_reducible rfl
                  try simp only [Act.put, List.setIfInBounds_toArray, List.set_cons_zero, List.set_cons_succ]
                  refine AnyH.take (i := 10) (d := some 152) (v := ?_) (by kernel_rfl) rfl rfl HF (fun _ _ _ h => h) (.inl ⟨by rfl, ?_⟩) (by first | assumption | rfl) ?_
                  rotate_left
                  · intro w hS; try subst hS
                    go_simp; try with_reducible rfl
                  try simp only [Act.put, List.setIfInBounds_toArray, List.set_cons_zero, List.set_cons_succ]
                  refine AnyH.take (i := 11) (d := some 153) (v := ?_) (by kernel_rfl) rfl rfl HF (fun _ _ _ h => h) (.inl ⟨by rfl, ?_⟩) (by first | assumption | rfl) ?_
                  rotate_left
                  · intro w hS; try subst hS
                    go_simp; try with_reducible rfl
                  try simp only [Act.put, List.setIfInBounds_toArray, List.set_cons_zero, List.set_cons_succ]
                  refine AnyH.take (i := 12) (d := some 154) (v := ?_) (by kernel_rfl) rfl rfl HF (fun _ _ _ h => h) (.inl ⟨by rfl, ?_⟩) (by first | assumption | rfl) ?_
                  rotate_left
                  · intro w hS; try subst hS
                    go_simp; try with_reducible rfl
                  try simp only [Act.put, List.setIfInBounds_toArray, List.set_cons_zero, List.set_cons_succ]
                  refine AnyH.one (i := 14) (by kernel_rfl) (by kernel_rfl) rfl HF (by rfl) (fun K hK => ?_)
                  go_simp
                  have SZ := BZ _ _ SC LB
                  refine hK _ _ SZ ?_
                  clear hK K
                  try simp only [Act.put, List.setIfInBounds_toArray, List.set_cons_zero, List.set_cons_succ]
                  refine AnyH.take (i := 15) (d := some 18) (v := ?_) (by kernel_rfl) rfl rfl HF (fun _ _ _ h => h) (.inl ⟨by rfl, ?_⟩) (by first | assumption | rfl) ?_
                  rotate_left
                  · intro w hS; try subst hS
                    go_simp; try with_reducible rfl
                  try simp only [Act.put, List.setIfInBounds_toArray, List.set_cons_zero, List.set_cons_succ]
                  refine AnyH.take (i := 16) (d := some 19) (v := ?_) (by kernel_rfl) rfl rfl HF (fun _ _ _ h => h) (.inl ⟨by rfl, ?_⟩) (by first | assumption | rfl) ?_
                  rotate_left
                  · intro w hS; try subst hS
                    go_simp; try with_reducible rfl
                  try simp only [Act.put, List.setIfInBounds_toArray, List.set_cons_zero, List.set_cons_succ]
                  refine AnyH.done (by kernel_rfl) ?_
                  have HSZ := Lib.hid SZ
                  have HKZ := Lib.hid KZ
                  clear m1 m2 m3 hz f0 f1 x0 x1 KB KZ BZ SC LB SZ
                  have n0 : ∀ w, Below z.heap.size z w → w.cell? ⟨_, 0, none⟩ = some (.int .i64 ta) := fun w hw => (AnC.cells (below_block hw HKZ.out)).1
                  have n1 : ∀ w, Below z.heap.size z w → w.cell? ⟨_, 1, none⟩ = some (.bool aq) := fun w hw => (AnC.cells (below_block hw HKZ.out)).2.1
                  have n2 : ∀ w, Below z.heap.size z w → w.cell? (br.add (j * 2)) = some (.int .i64 ta) := fun w hw => cell_below HB0.out (Below.after HSZ.out hw)
                  have n3 : ∀ w, Below z.heap.size z w → w.cell? ⟨(br.add (j * 2)).block, (br.add (j * 2)).off + 1, none⟩ = some (.bool aq) := fun w hw => cell_below HB1.out (Below.after HSZ.out hw)
                  have heq := an_eq ta ta aq aq
                  rw [decide_eq_true (show ta = ta ∧ aq = aq from ⟨rfl, rfl⟩)] at heq
                  go_wp2_with fail
                  refine wp_region_anyH (Below z.heap.size z) (by kernel_rfl) ?_
                  have S1 : Below z.heap.size z z.drew := (Below.refl _ _).drew
                  refine AnyH.take (i := 0) (d := some 155) (v := ?_) (by kernel_rfl) rfl rfl HF (fun _ _ _ h => h) (.inl ⟨by rfl, ?_⟩) (by first | assumption | rfl) ?_
                  rotate_left
                  · intro w hS; try subst hS
                    go_simp; try with_reducible rfl
                  try simp only [Act.put, List.setIfInBounds_toArray, List.set_cons_zero, List.set_cons_succ]
                  refine AnyH.take (i := 1) (d := some 156) (v := ?_) (by kernel_rfl) rfl rfl HF (fun _ _ _ h => h) (.inl ⟨by rfl, ?_⟩) (by first | assumption | rfl) ?_
                  rotate_left
                  · intro w hS; try subst hS
                    go_simp; try with_reducible rfl
                  try simp only [Act.put, List.setIfInBounds_toArray, List.set_cons_zero, List.set_cons_succ]
                  refine AnyH.take (i := 2) (d := some 157) (v := ?_) (by kernel_rfl) rfl rfl HF (fun _ _ _ h => h) (.inl ⟨by rfl, ?_⟩) (by first | assumption | rfl) ?_
                  rotate_left
                  · intro w hS; try subst hS
                    go_simp; try with_reducible rfl
                  try simp only [Act.put, List.setIfInBounds_toArray, List.set_cons_zero, List.set_cons_succ]
                  refine AnyH.take (i := 3) (d := some 158) (v := ?_) (by kernel_rfl) rfl rfl HF (fun _ _ _ h => h) (.inl ⟨by rfl, ?_⟩) (by first | assumption | rfl) ?_
                  rotate_left
                  · intro w hS; try subst hS
                    go_simp; try with_reducible rfl
                  try simp only [Act.put, List.setIfInBounds_toArray, List.set_cons_zero, List.set_cons_succ]
                  refine AnyH.take (i := 4) (d := some 159) (v := ?_) (by kernel_rfl) rfl rfl HF (fun _ _ _ h => h) (.inl ⟨by rfl, ?_⟩) (by first | assumption | rfl) ?_
                  rotate_left
                  · intro w hS; try subst hS
                    go_simp; try with_reducible rfl
                  try simp only [Act.put, List.setIfInBounds_toArray, List.set_cons_zero, List.set_cons_succ]
                  refine AnyH.take (i := 5) (d := some 160) (v := ?_) (by kernel_rfl) rfl rfl HF (fun _ _ _ h => h) (.inl ⟨by rfl, ?_⟩) (by first | assumption | rfl) ?_
                  rotate_left
                  · intro w hS; try subst hS
                    go_simp; try with_reducible rfl
                  try simp only [Act.put, List.setIfInBounds_toArray, List.set_cons_zero, List.set_cons_succ]
                  refine AnyH.take (i := 6) (d := some 161) (v := ?_) (by kernel_rfl) rfl rfl HF (fun _ _ _ h => h) (.inl ⟨by rfl, ?_⟩) (by first | assumption | rfl) ?_
                  rotate_left
                  · intro w hS; try subst hS
                    go_simp; try with_reducible rfl
                  try simp only [Act.put, List.setIfInBounds_toArray, List.set_cons_zero, List.set_cons_succ]
                  refine AnyH.take (i := 7) (d := some 162) (v := ?_) (by kernel_rfl) rfl rfl HF (fun _ _ _ h => h) (.inl ⟨by rfl, ?_⟩) (by first | assumption | rfl) ?_
                  rotate_left
                  · intro w hS; try subst hS
                    go_simp; try with_reducible rfl
                  try simp only [Act.put, List.setIfInBounds_toArray, List.set_cons_zero, List.set_cons_succ]
                  refine AnyH.take (i := 8) (d := some 163) (v := ?_) (by kernel_rfl) rfl rfl HF (fun _ _ _ h => h) (.inl ⟨by rfl, ?_⟩) (by first | assumption | rfl) ?_
                  rotate_left
                  · intro w hS; try subst hS
                    go_simp; try with_reducible rfl
                  try simp only [Act.put, List.setIfInBounds_toArray, List.set_cons_zero, List.set_cons_succ]
                  refine AnyH.take (i := 9) (d := some 164) (v := ?_) (by kernel_rfl) rfl rfl HF (fun _ _ _ h => h) (.inl ⟨by rfl, ?_⟩) (by first | assumption | rfl) ?_
                  rotate_left
                  · intro w hS; try subst hS
                    go_simp; try with_reducible rfl
                  try simp only [Act.put, List.setIfInBounds_toArray, List.set_cons_zero, List.set_cons_succ]
                  refine AnyH.done (by kernel_rfl) ?_
                  clear n0 n1 n2 n3 heq
                  have HX : Hid (Below wl.heap.size wl z.drew) := Lib.hid (Below.after HZ.out (Below.after HSZ.out S1))
                  clear S1
                  go_wp2_with fail
                  go_roundw
                  case rel => exact ⟨j + 1, by go_num, by omega, HX.out⟩
                  case measure => first | (simp [intOf]; omega) | simp [intOf]
              · have hj2 : ¬ (j : Int) < (an : Int) := by omega
                clear hjl hj
                go_wp2_with fail
                go_ret
                exact ⟨rfl, by first | exact HBE.out wr (HBR.out wr (Below.after HSL.out HZ.out)) | (rw [← hgc]; exact HBE.out wr (HBR.out wr (Below.after HSL.out HZ.out)))⟩
end M
end Go.Proofs.Ytplccefjljdjnaa
