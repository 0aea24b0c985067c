/- PmapFroms: the walk. -/
import Derived.Test.YtdgclambplipnaaPlaysii
import Derived.Test.YtdgclambplipnaaAwake
import Derived.Test.YtdgclambplipnaaFromSeqii
import Derived.LoopIn
import Derived.Test.YtdgclambplipnaaTail
import Derived.Outline
namespace Go.Proofs.Ytdgclambplipnaa
open Go.RowKit Go.Shelf
namespace ii
attribute [local go_sem] Oper.semAt_some

/-- A slice of pairs, wherever it lies. -/
def PairsAt (W : World) (v : Value) (l : List (ByteArray × Int)) : Prop :=
  ∃ a cap, v = .slice a l.length cap ∧ ∀ (i : Nat) (h : i < l.length), ∃ b, a = some b ∧ W.cell? (b.add (i * 2)) = some (.string l[i].1) ∧ W.cell? ⟨(b.add (i * 2)).block, (b.add (i * 2)).off + 1, none⟩ = some (.int .i64 l[i].2)
theorem PairsAt.below {A C : World} {v : Value} {l : List (ByteArray × Int)} (h : PairsAt A v l) (hb : Below A.heap.size A C) : PairsAt C v l := by
  obtain ⟨a, cap, rfl, h⟩ := h
  exact ⟨a, cap, rfl, fun i hi => (h i hi).imp fun b hh => ⟨hh.1, cell_below hh.2.1 hb, cell_below hh.2.2 hb⟩⟩
/-- What a cut from i on leaves. -/
theorem pairs_drop (a0 : Option Addr) (c : Nat) {l : List (ByteArray × Int)} {i : Nat} (hi : i ≤ l.length) :
    ∃ A' m c', (∀ w, (Instr.slice 37 (.slice a0 l.length c) (some (.int .i64 (i : Int))) none none).run Try.prog w = .ok (.slice A' m c') w) ∧ m = (l.drop i).length ∧ ∀ W, Prs 0 W (.slice a0 l.length c) l → PairsAt W (.slice A' m c') (l.drop i) := by
  have hs : ∀ w, (sizeOf (Try.prog.elem 37)).run Try.prog w = .ok 2 w := fun w => by kernel_rfl
  have hr : ∀ w, (Instr.slice 37 (.slice a0 l.length c) (some (.int .i64 (i : Int))) none none).run Try.prog w = .ok (sliced a0 i l.length c 2) w := fun w => by
    have := run_slice_l (P := Try.prog) w 37 a0 l.length c (by kernel_rfl) .i64 (i : Int) (by omega) (by omega)
    rw [this, hs]; simp [Result.andThen]
  refine ⟨(if c = i then a0 else a0.map (·.add (i * 2))), l.length - i, c - i, (fun w => by rw [hr w]; simp [sliced]), by simp, ?_⟩
  intro W h
  refine ⟨_, _, by rw [List.length_drop], ?_⟩
  intro j hj
  have hj' : j + i < l.length := by simp at hj; omega
  obtain ⟨g, cap, hv, -, -, hE⟩ := h.at hj'
  simp only [Value.slice.injEq] at hv
  obtain ⟨rfl, -, rfl⟩ := hv
  obtain ⟨e0, e1⟩ := hE W (Below.refl _ _) (j + i) hj'
  have hne : ¬ c = i := by
    rcases h.shape with ⟨h1, -⟩ | ⟨g2, c2, h1, h2, -⟩
    · cases h1
    · simp only [Value.slice.injEq] at h1; obtain ⟨-, -, rfl⟩ := h1; omega
  have hx : (l.drop i)[j] = l[j + i] := by rw [List.getElem_drop]; congr 1; omega
  rw [hx, if_neg hne]
  refine ⟨_, rfl, ?_, ?_⟩
  · rw [← e0]; congr 1; unfold Addr.add; split <;> split <;> simp_all <;> omega
  · rw [← e1]; congr 1; unfold Addr.add; split <;> split <;> simp_all <;> omega
theorem drop_rep {k : Int} (hk : ok k) {T : Tr Int Int} (hs : Sorted lt T.toList) (ho : OkL ok T.toList) : (rep kf T.toList).drop (ceilR (kf k) (rep kf T.toList)) = rep kf (geT k T) := by
  rw [rep_ceil km hk ho, geT_list k T hs, rep, rep, List.map_drop]
  rfl

/-- The marks that iterators have left, the youngest first. -/
def Marks (n : Nat) (w : World) (ds : List Deferred) : Prop := ∃ Ds : List Nat, ds = Ds.map (fun D => { target := .collected D, args := #[] }) ∧ Ds.Pairwise (· > ·) ∧ ∀ D ∈ Ds, n ≤ D ∧ w.heap[D]? = some (.deferred (some []))
theorem Marks.nil (n : Nat) (w : World) : Marks n w [] := ⟨[], rfl, List.Pairwise.nil, fun _ h => by cases h⟩
theorem Marks.below {n : Nat} {A C : World} {ds : List Deferred} (h : Marks n A ds) (hb : Below A.heap.size A C) : Marks n C ds := by
  obtain ⟨Ds, h1, h2, h3⟩ := h
  exact ⟨Ds, h1, h2, fun D hD => ⟨(h3 D hD).1, box_below hb (h3 D hD).2⟩⟩
theorem Marks.keep {n : Nat} {A C : World} {ds : List Deferred} (h : Marks n A ds) (hb : KeepsOthers A C) : Marks n C ds := by
  obtain ⟨Ds, h1, h2, h3⟩ := h
  exact ⟨Ds, h1, h2, fun D hD => ⟨(h3 D hD).1, hb.same D _ (h3 D hD).2 rfl⟩⟩
theorem Marks.lt {n : Nat} {A : World} {ds : List Deferred} (h : Marks n A ds) {D : Nat} (hD : { target := .collected D, args := #[] } ∈ ds) : D < A.heap.size := by
  obtain ⟨Ds, rfl, h2, h3⟩ := h
  obtain ⟨D', hD', e⟩ := List.mem_map.1 hD
  simp only [Deferred.mk.injEq, Target.collected.injEq, and_true] at e
  subst e
  exact (Array.getElem?_eq_some_iff.1 (h3 _ hD').2).1
theorem Marks.cons {n : Nat} {A : World} {ds : List Deferred} (h : Marks n A ds) {D : Nat} (hlt : ∀ D', { target := .collected D', args := #[] } ∈ ds → D' < D) (hn : n ≤ D) (hD : A.heap[D]? = some (.deferred (some []))) : Marks n A ({ target := .collected D, args := #[] } :: ds) := by
  obtain ⟨Ds, rfl, h2, h3⟩ := h
  refine ⟨D :: Ds, rfl, List.Pairwise.cons (fun D' h' => hlt D' (List.mem_map.2 ⟨D', h', rfl⟩)) h2, fun x hx => ?_⟩
  rcases List.mem_cons.1 hx with rfl | hx
  · exact ⟨hn, hD⟩
  · exact h3 x hx
theorem Marks.leaves {n : Nat} {F : Fence} {d : Nat} {P : Program} {fn : Func} {tmps : Array Value} {R : Ending → World → Prop} {w : World} {ds : List Deferred} (h : Marks n w ds) (hn : n ≤ w.heap.size) (hf : ∀ w', Below n w w' → LeavesIn F d P fn tmps R [] .returning w') : LeavesInM F d P fn tmps R ds .returning w := by
  obtain ⟨Ds, rfl, h2, h3⟩ := h
  induction Ds generalizing w with
  | nil => exact hf w (Below.refl _ _)
  | cons D Ds ih =>
    obtain ⟨hD, hk⟩ := h3 D (List.mem_cons_self ..)
    have hb : Below n w (w.putObj D (.deferred none)) := (Below.refl n w).grown (grownBy_putObj' w D (.deferred none)) hn (fun k e => by cases e; exact hD)
    refine ⟨by simp, .inl ⟨D, _, rfl, run_takeDeferred hk, ?_⟩⟩
    refine ih (Nat.le_trans hn hb.size) (fun w' hb' => hf w' (hb.trans hb')) (List.Pairwise.of_cons h2) fun x hx => ⟨(h3 x (List.mem_cons_of_mem _ hx)).1, ?_⟩
    have hne : x ≠ D := by have := (List.pairwise_cons.1 h2).1 x hx; omega
    exact ((grownBy_putObj' w D (.deferred none)).block x (Array.getElem?_eq_some_iff.1 (h3 x (List.mem_cons_of_mem _ hx)).2).1 (fun e => hne (by cases e; rfl))).trans (h3 x (List.mem_cons_of_mem _ hx)).2

/-- What stands after some of the changes: both in boxes. -/
def FS (W : World) (B : Nat) (T : Tr Int Int) (m : Nat) : Prop := ∃ q v, W.heap[B]? = some (.cells #[.pointer q] 26 (0, 0)) ∧ W.heap[B + 1]? = some (.cells #[v] 37 (0, 0)) ∧ Is W q T ∧ Prs 0 W v (rep kf T.toList) ∧ Sorted lt T.toList ∧ OkL ok T.toList ∧ T.sz ≤ m
theorem FS.below {A C : World} {B : Nat} {T : Tr Int Int} {m : Nat} (h : FS A B T m) (hb : Below A.heap.size A C) : FS C B T m := by
  obtain ⟨q, v, h1, h2, h3, h4, r⟩ := h
  exact ⟨q, v, box_below hb h1, box_below hb h2, h3.below hb, h4.below hb, r⟩
theorem FS.set {A : World} {B : Nat} {T0 T : Tr Int Int} {m0 m : Nat} (h : FS A B T0 m0) {q : Option Addr} {v : Value} (hq : Is A q T) (hV : Prs 0 A v (rep kf T.toList)) (r : Sorted lt T.toList ∧ OkL ok T.toList ∧ T.sz ≤ m) :
    FS ((A.setCell ⟨B, 0, none⟩ (.pointer q)).setCell ⟨B + 1, 0, none⟩ v) B T m := by
  obtain ⟨q0, v0, h1, h2, -⟩ := h
  have a2 : (A.setCell ⟨B, 0, none⟩ (.pointer q)).heap[B + 1]? = some (.cells #[v0] 37 (0, 0)) := (Below.heap_setCell _ _ _ _ (by simp)).trans h2
  have a1 := box_set (.pointer q) h1
  refine ⟨q, v, (Below.heap_setCell _ _ _ _ (by simp)).trans a1, box_set v a2, (hq.keep (KeepT.setCell (a := ⟨B, 0, none⟩) h1 (by decide))).keep (KeepT.setCell (a := ⟨B + 1, 0, none⟩) a2 (by decide)), ?_, r⟩
  exact SlA.setCell (a := ⟨B + 1, 0, none⟩) (SlA.setCell (a := ⟨B, 0, none⟩) hV _ h1 (by decide)) _ a2 (by decide)

set_option maxRecDepth 100000 in
set_option maxHeartbeats 4000000 in
theorem froms_any {W : World} {v : Value} {L : List (Bool × Int × Int)} (hA : ActsAt W v L) (hok : ∀ a ∈ L, ok a.2.1) (k : Int) (hk : ok k) (most : Int) (hm0 : 0 ≤ most) (hm1 : most ≤ 255) :
    Calls Try.prog 5 #[v, .int .i64 k, .int .u8 most] W fun e w' => e = .returned (.bool true) ∧ Below W.heap.size W w' := by
  have HF : ∀ f, Fence.wide.fn f := fun _ => trivial
  obtain ⟨a, cap, rfl, hcells⟩ := hA
  have HC := Lib.hid hcells; have HOK := Lib.hid hok; have HK := Lib.hid hk
  clear hcells hok hk
  obtain ⟨W0, hW0⟩ : ∃ W0, (W.alloc (.cells #[.int .u8 most] 5)).alloc (.cells #[.bool false] 4) = W0 := ⟨_, rfl⟩
  have n0 : W0.heap[W.heap.size]? = some (.cells #[.int .u8 most] 5 (0, 0)) := by rw [← hW0]; exact (Below.heap_alloc _ _ _ (by simp)).trans (heap_new _ _)
  have n1 : W0.heap[W.heap.size + 1]? = some (.cells #[.bool false] 4 (0, 0)) := by
    rw [← hW0]; have := heap_new (W.alloc (.cells #[.int .u8 most] 5)) (.cells #[.bool false] 4); rwa [World.size_alloc] at this
  have hb0 : Below W.heap.size W W0 := by rw [← hW0]; exact ((Below.refl _ W).alloc (Nat.le_refl _) _).alloc (by simp) _
  have HN0 := Lib.hid n0; have HN1 := Lib.hid n1; have HB0 := Lib.hid hb0
  clear n0 n1 hb0
  refine (callsIn_wide (n := 9)).1 ?_
  refine callsIn_of_wp_marks Try.func5 rfl trivial ?_ rfl
  simp only [Try.ntmps5, List.size_toArray, List.length_cons, List.length_nil, Nat.reduceAdd, Nat.reduceSub, Array.replicate_succ, Array.replicate_zero, List.push_toArray, List.append_toArray, List.nil_append, List.cons_append]
  by_cases hn : L.length ≤ 60
  case neg =>
    have hn1 : 60 < L.length := by omega
    have hn2 : (60 : Int) < (L.length : Int) := by omega
    clear hn
    gi_wp2_with fail
    clear hW0
    refine callsIn_wide.2 ((awake_any W0).mono ?_); rintro e w1 ⟨rfl, b1⟩
    have HB1 := Lib.hid b1; clear b1
    gi_wp2_with fail
    refine callsIn_wide.2 ((awake_any w1).mono ?_); rintro e w2 ⟨rfl, b2⟩
    have hb2 := Below.step HB1.out b2
    have n1 := box_below hb2 HN1.out
    have HBB := Lib.hid (Below.step HB0.out hb2)
    have c1 := box_cell n1; have f1 := box_frozen n1
    have hc5 := box_cell (box_set (.bool true) n1)
    clear b2 hb2 n1
    gi_wp2_with fail
    refine ⟨.bool true, ?_, rfl, HBB.out.setCell (p := ⟨W.heap.size + 1, 0, none⟩) (by simp) _⟩
    simp [results, Try.f5, go_sem, hc5]
  have hn1 : ¬ (60 < L.length) := by omega
  have hn2 : ¬ ((60 : Int) < (L.length : Int)) := by omega
  have hn3 : decide ((60 : Int) < (L.length : Int)) = false := decide_eq_false hn2
  gi_wp2_with fail
  clear hW0
  refine callsIn_wide.2 ((awake_any W0).mono ?_); rintro e w1 ⟨rfl, b1⟩
  have HB1 := Lib.hid b1; clear b1
  obtain ⟨w2, hw2⟩ : ∃ w2, (w1.alloc (.cells #[.pointer none] 26)).alloc (.cells #[.slice none 0 0] 37) = w2 := ⟨_, rfl⟩
  have hfs : FS w2 w1.heap.size .nil 0 := by
    refine ⟨none, .slice none 0 0, ?_, ?_, rfl, SlA.nil _ _ _ _ _, by simp [Tr.toList, Sorted], by simp [Tr.toList, OkL], by simp [Tr.sz]⟩
    · rw [← hw2]; exact (Below.heap_alloc _ _ _ (by simp)).trans (heap_new _ _)
    · rw [← hw2]; have := heap_new (w1.alloc (.cells #[.pointer none] 26)) (.cells #[.slice none 0 0] 37); rwa [World.size_alloc] at this
  have hb2 : Below w1.heap.size w1 w2 := by rw [← hw2]; exact ((Below.refl _ w1).alloc (Nat.le_refl _) _).alloc (by simp) _
  have HFS := Lib.hid hfs; have HB2 := Lib.hid hb2
  clear hfs hb2
  gi_wp2_with fail
  clear hw2
  generalize hg : w1.heap.size = g at *
  gi_loopw [25] (fun c wr => ∃ (j : Nat) (T : Tr Int Int), j ≤ L.length ∧ c = .int .i64 j ∧ FS wr g T j ∧ Below w1.heap.size w1 wr) (fun c _ => L.length - (intOf c).toNat)
  case atStart => exact ⟨0, .nil, by omega, rfl, HFS.out, by rw [hg]; exact HB2.out⟩
  case round =>
    obtain ⟨j, T, hj, rfl, hP, hB⟩ := hrel
    have HP := Lib.hid hP; have HB := Lib.hid hB; clear hP hB HFS HB2
    by_cases hlt : j < L.length
    · obtain ⟨b, rfl, d0, d1, d2⟩ := HC.out j hlt
      obtain ⟨q, v, h1, h2, hT, hV, hso, hol, hsz⟩ := HP.out
      obtain ⟨a0, c0, hv⟩ := hV.len
      have hokj : ok L[j].2.1 := HOK.out _ (List.getElem_mem hlt)
      have hrl : (rep kf T.toList).length = T.toList.length := by simp [rep]
      rw [hrl] at hv
      subst hv
      generalize hx : L[j] = x at *
      have hbw := Below.step HB0.out (Below.step HB1.out HB.out)
      have e0 : wr.cell? (b.add (j * 3)) = some (.bool x.1) := cell_below d0 hbw
      have e1 : wr.cell? ⟨(b.add (j * 3)).block, (b.add (j * 3)).off + 1, none⟩ = some (.int .i64 x.2.1) := cell_below d1 hbw
      have e2 : wr.cell? ⟨(b.add (j * 3)).block, (b.add (j * 3)).off + 2, none⟩ = some (.int .i64 x.2.2) := cell_below d2 hbw
      have hjl : (j : Int) < (L.length : Int) := by omega
      have hj0 : (0 : Int) ≤ (j : Int) := by omega
      obtain ⟨w3, hw3⟩ : ∃ w3, wr.alloc (.cells #[.bool x.1, .int .i64 x.2.1, .int .i64 x.2.2] 36) = w3 := ⟨_, rfl⟩
      have hba : Below wr.heap.size wr w3 := by rw [← hw3]; exact (Below.refl _ wr).alloc (Nat.le_refl _) _
      have hN : w3.heap[wr.heap.size]? = some (.cells #[.bool x.1, .int .i64 x.2.1, .int .i64 x.2.2] 36 (0, 0)) := by rw [← hw3]; exact heap_new _ _
      have c1 : w3.cell? ⟨g, 0, none⟩ = some (.pointer q) := box_cell (box_below hba h1)
      have c2 : w3.cell? ⟨g + 1, 0, none⟩ = some (.slice a0 T.toList.length c0) := box_cell (box_below hba h2)
      have c3 : w3.cell? ⟨wr.heap.size, 0, none⟩ = some (.bool x.1) := by simp [World.cell?, hN]
      have c4 : w3.cell? ⟨wr.heap.size, 1, none⟩ = some (.int .i64 x.2.1) := by simp [World.cell?, hN]
      have c5 : w3.cell? ⟨wr.heap.size, 2, none⟩ = some (.int .i64 x.2.2) := by simp [World.cell?, hN]
      have HTw := Lib.hid (hT.below hba); have HVw := Lib.hid (hV.below hba); have HPw := Lib.hid (HP.out.below hba); have HBw := Lib.hid (Below.step HB.out hba)
      have HSO := Lib.hid hso; have HOL := Lib.hid hol; have HSZ := Lib.hid hsz; have HOX := Lib.hid hokj
      clear d0 d1 d2 hx hbw h1 h2 hT hV hso hol hsz hokj hrl hba hN HP HB
      gi_wp2_with fail
      clear hw3
      refine callsIn_wide.2 ((do_any x HOX.out HTw.out HVw.out HSO.out HOL.out (by have := HSZ.out; omega)).mono ?_)
      rintro e w4 ⟨q2, v2, rfl, hT2, hV2, b4⟩
      have HF4 := Lib.hid (HPw.out.below b4)
      have HT2 := Lib.hid hT2; have HV2 := Lib.hid hV2; have HB4 := Lib.hid (Below.step HBw.out b4)
      have HFN := Lib.hid (HF4.out.set (m := j + 1) HT2.out HV2.out ⟨actF_sorted x HSO.out, actF_ok x HOX.out HSO.out HOL.out, by have := actF_sz x T; have := HSZ.out; omega⟩)
      obtain ⟨q0, v0, h1, h2, -⟩ := HF4.out
      obtain ⟨a2, cp2, hv2⟩ := hV2.len
      subst hv2
      have k1 := box_cell h1; have f1 := box_frozen h1
      have a2' : (w4.setCell ⟨g, 0, none⟩ (.pointer q2)).heap[g + 1]? = some (.cells #[v0] 37 (0, 0)) := (Below.heap_setCell _ _ _ _ (by simp)).trans h2
      have k2 := box_cell a2'; have f2 := box_frozen a2'
      have HBN := Lib.hid ((HB4.out.setCell (p := ⟨g, 0, none⟩) (by rw [← hg]; exact Nat.le_refl _) (.pointer q2)).setCell (p := ⟨g + 1, 0, none⟩) (by rw [← hg]; simp) (.slice a2 (rep kf (actF x T).toList).length cp2))
      clear hT2 hV2 b4 c1 c2 c3 c4 c5 e0 e1 e2 h1 h2 a2' HF4 HPw HBw HVw HTw
      gi_wp2_with fail
      go_roundw
      case rel => exact ⟨j + 1, actF x T, by omega, by go_num, HFN.out, HBN.out⟩
      case measure => simp [intOf]; omega
    · obtain rfl : j = L.length := by omega
      obtain ⟨q, v, h1, h2, hT, hV, hso, hol, hsz⟩ := HP.out
      obtain ⟨a0, c0, hv⟩ := hV.len
      have hrl : (rep kf T.toList).length = T.toList.length := by simp [rep]
      have c1 := box_cell h1
      have HH1 := Lib.hid h1; have HH2 := Lib.hid h2; have HT := Lib.hid hT; have HV := Lib.hid hV; have HSO := Lib.hid hso; have HOL := Lib.hid hol; have HSZ := Lib.hid hsz; have HVV := Lib.hid hv
      have hg2 : W.heap.size + 1 < g := by
        have e1 := HB0.out.size; have e2 := (Array.getElem?_eq_some_iff.1 HN1.out).1; have e3 := HB1.out.size; omega
      have hg3 : g + 1 < wr.heap.size := (Array.getElem?_eq_some_iff.1 h2).1
      clear h1 h2 hT hV hso hol hsz hv hrl
      gi_wp2_with fail
      refine callsIn_wide.2 ((from_any (p := q) k).mono ?_)
      rintro e w5 ⟨rfl, rfl⟩
      obtain ⟨w5, hw5⟩ : ∃ w5, (wr.alloc (.cells #[.pointer q] 26)).alloc (.cells #[.int .i64 k] 3) = w5 := ⟨_, rfl⟩
      have hb5 : Below wr.heap.size wr w5 := by rw [← hw5]; exact ((Below.refl _ wr).alloc (Nat.le_refl _) _).alloc (by simp) _
      have m0 : w5.heap[wr.heap.size]? = some (.cells #[.pointer q] 26 (0, 0)) := by rw [← hw5]; exact (Below.heap_alloc _ _ _ (by simp)).trans (heap_new _ _)
      have m1 : w5.heap[wr.heap.size + 1]? = some (.cells #[.int .i64 k] 3 (0, 0)) := by
        rw [← hw5]; have := heap_new (wr.alloc (.cells #[.pointer q] 26)) (.cells #[.int .i64 k] 3); rwa [World.size_alloc] at this
      have HB5 := Lib.hid hb5; have HM0 := Lib.hid m0; have HM1 := Lib.hid m1
      clear c1 hb5 m0 m1
      rw [hw5]
      clear hw5
      have hVw := HV.out.below HB5.out
      obtain ⟨i, hi⟩ : ∃ i, ceilR (kf k) (rep kf T.toList) = i := ⟨_, rfl⟩
      have hil : i ≤ (rep kf T.toList).length := by rw [← hi]; exact ceilR_le _ _
      have hdr : (rep kf T.toList).drop i = rep kf (geT k T) := by rw [← hi]; exact drop_rep HK.out HSO.out HOL.out
      obtain ⟨A', m, c', hsl, hm, hPA⟩ := pairs_drop a0 c0 hil
      rw [hdr] at hm hPA
      have HPA := Lib.hid hPA; have HMM := Lib.hid hm; have HI := Lib.hid hi; have HVW := Lib.hid hVw
      have HLN : Hid ((rep kf T.toList).length ≤ 1000000) := Lib.hid (by have := Tr.sz_eq T; have := HSZ.out; simp [rep]; omega)
      have k8 : ∀ w, Below w5.heap.size w5 w → w.cell? ⟨g + 1, 0, none⟩ = some (.slice a0 (rep kf T.toList).length c0) := fun w h => by
        have := box_cell (box_below h (box_below HB5.out HH2.out)); rwa [HVV.out] at this
      clear hVw hPA hm hi hil hdr
      gi_wp2_with fail
      refine wpIn_region_anyNP (Below w5.heap.size w5) (by kernel_rfl) ?_
      have B0 : Below w5.heap.size w5 w5.drew := (Below.refl _ _).drew
      refine AnyH.take (i := 0) (d := some 40) (v := ?_) (by kernel_rfl) rfl rfl HF (fun _ _ _ h => h) (.inl ⟨by rfl, ?_⟩) (by first | assumption | rfl) ?_
      rotate_left
      · intro w hS; try subst hS
        go_simp; try with_reducible rfl
      try simp only [Act.put, List.setIfInBounds_toArray, List.set_cons_zero, List.set_cons_succ]
      refine AnyH.take (i := 1) (d := some 41) (v := ?_) (by kernel_rfl) rfl rfl HF (fun _ _ _ h => h) (.inl ⟨by rfl, ?_⟩) (by first | assumption | rfl) ?_
      rotate_left
      · intro w hS; try subst hS
        go_simp; try with_reducible rfl
      try simp only [Act.put, List.setIfInBounds_toArray, List.set_cons_zero, List.set_cons_succ]
      refine AnyH.take (i := 2) (d := some 42) (v := ?_) (by kernel_rfl) rfl rfl HF (fun _ _ _ h => h) (.inl ⟨by rfl, ?_⟩) (by first | assumption | rfl) ?_
      rotate_left
      · intro w hS; try subst hS
        go_simp; try with_reducible rfl
      try simp only [Act.put, List.setIfInBounds_toArray, List.set_cons_zero, List.set_cons_succ]
      refine AnyH.one (i := 3) (by kernel_rfl) (by kernel_rfl) rfl HF (by rfl) (fun K hK => ?_)
      go_simp
      first | ((with_reducible refine And.intro ?hdep ?_); (case hdep => first | rfl | (intro h; cases h))) | skip
      refine callsIn_wide.2 ((key_any k HK.out _).mono ?_)
      rintro e w6 ⟨rfl, b6⟩
      have B6 : Below w5.heap.size w5 w6 := Below.step B0 b6
      refine hK _ _ B6 ?_
      clear hK K
      try simp only [Act.put, List.setIfInBounds_toArray, List.set_cons_zero, List.set_cons_succ]
      refine AnyH.one (i := 4) (by kernel_rfl) (by kernel_rfl) rfl HF (by rfl) (fun K hK => ?_)
      go_simp
      first | ((with_reducible refine And.intro ?hdep ?_); (case hdep => first | rfl | (intro h; cases h))) | skip
      have hVx := HVW.out.below B6
      rw [HVV.out] at hVx
      refine callsIn_wide.2 ((refCeil_any (kf k) hVx HLN.out).mono ?_)
      rintro e w7 ⟨rfl, rfl⟩
      rw [HI.out]
      refine hK _ _ B6 ?_
      clear hK K hVx
      try simp only [Act.put, List.setIfInBounds_toArray, List.set_cons_zero, List.set_cons_succ]
      refine AnyH.take (i := 5) (d := some 45) (v := ?_) (by kernel_rfl) rfl rfl HF (fun _ _ _ h => h) (.inl ⟨by rfl, ?_⟩) (by first | assumption | rfl) ?_
      rotate_left
      · intro w hS; try subst hS
        go_simp; try with_reducible rfl
      try simp only [Act.put, List.setIfInBounds_toArray, List.set_cons_zero, List.set_cons_succ]
      refine AnyH.tailL 6 (by kernel_rfl) ?_
      simp only [List.drop_succ_cons, List.drop_zero]
      have hh2 := box_below B6 (box_below HB5.out HH2.out)
      have k9 := box_cell hh2; have f9 := box_frozen hh2
      obtain ⟨w8, hw8⟩ : ∃ w8, w6.setCell ⟨g + 1, 0, none⟩ (.slice A' m c') = w8 := ⟨_, rfl⟩
      have hB8 : Below w1.heap.size w1 w8 := by
        rw [← hw8]; exact (Below.step (Below.step HB.out HB5.out) B6).setCell (p := ⟨g + 1, 0, none⟩) (by rw [← hg]; simp) _
      have hx2 : w8.heap[g + 1]? = some (.cells #[.slice A' m c'] 37 (0, 0)) := by rw [← hw8]; exact box_set _ hh2
      have hm0' : w8.heap[wr.heap.size]? = some (.cells #[.pointer q] 26 (0, 0)) := by
        rw [← hw8, Below.heap_setCell _ _ _ _ (by simp; omega)]; exact box_below B6 HM0.out
      have hm1' : w8.heap[wr.heap.size + 1]? = some (.cells #[.int .i64 k] 3 (0, 0)) := by
        rw [← hw8, Below.heap_setCell _ _ _ _ (by simp; omega)]; exact box_below B6 HM1.out
      have hT8 : Is w8 q T := by
        rw [← hw8]; exact ((HT.out.below HB5.out).below B6).keep (KeepT.setCell (a := ⟨g + 1, 0, none⟩) hh2 (by decide))
      have hP8 : PairsAt w8 (.slice A' m c') (rep kf (geT k T)) := by
        have hVx := (HVW.out.below B6).setCell (a := ⟨g + 1, 0, none⟩) (.slice A' m c') hh2 (by decide)
        rw [HVV.out, hw8] at hVx; exact HPA.out _ hVx
      have H8 := Lib.hid (And.intro hx2 (And.intro hm0' (And.intro hm1' (And.intro hT8 hP8)))); have HB8 := Lib.hid hB8
      clear hh2 hB8 hx2 hm0' hm1' hT8 hP8 B6 B0 HM0 HM1 HB5 HB HVW HT HV HH1 HH2 hsl k8
      gi_wp2_with fail
      refine NP.normal ?_
      clear k9 f9
      gi_wp2_with fail
      clear hw8
      have hml : m = (geT k T).length := by rw [HMM.out]; simp [rep]
      subst hml
      generalize hG : geT k T = G at *
      refine wpIn_loop (fun a' w' => ∃ (j : Nat) (ds : List Deferred) (u12 u47 u48 u80 u81 u82 u83 u84 u85 u86 u87 u88 : Value), (j ≤ 2 ∧ Marks w8.heap.size w' ds ∧ Below w8.heap.size w8 w') ∧ a' = { tmps := #[.slice a L.length cap, .int .i64 k, .int .u8 most, undef, undef, .pointer (some ⟨W.heap.size, 0, none⟩), .pointer (some ⟨W.heap.size + 1, 0, none⟩), .pointer (some ⟨g, 0, none⟩), .pointer (some ⟨g + 1, 0, none⟩), undef, u10, .func (.func 41) #[] #[.pointer (some ⟨wr.heap.size, 0, none⟩), .pointer (some ⟨wr.heap.size + 1, 0, none⟩)], u12, undef, undef, .bool true, .bool false, .bool false, .slice a L.length cap, .int .i64 L.length, .bool false, .bool false, undef, .slice a L.length cap, .int .i64 L.length, .int .i64 L.length, .bool false, u27, u28, u29, u30, u31, u32, u33, u34, u35, u36, .agg #[.pointer q], .int .i64 k, .func (.func 41) #[] #[.pointer (some ⟨wr.heap.size, 0, none⟩), .pointer (some ⟨wr.heap.size + 1, 0, none⟩)], .slice a0 (rep kf T.toList).length c0, .slice a0 (rep kf T.toList).length c0, .int .i64 k, .string (kf k), .int .i64 i, .slice A' G.length c', .int .i64 j, u47, u48, undef, undef, undef, undef, undef, undef, undef, undef, undef, undef, undef, undef, undef, undef, undef, undef, undef, undef, undef, undef, undef, undef, undef, undef, undef, undef, undef, undef, undef, undef, undef, u80, u81, u82, u83, u84, u85, u86, u87, u88], defers := ds }) (fun a' _ => 2 - (intOf (a'.tmps.getD 46 undef)).toNat) ?_ ?_
      · exact ⟨0, [], undef, undef, undef, undef, undef, undef, undef, undef, undef, undef, undef, undef, ⟨by omega, Marks.nil _ _, Below.refl _ _⟩, rfl⟩
      · rintro _ wz ⟨j, ds, u12, u47, u48, u80, u81, u82, u83, u84, u85, u86, u87, u88, ⟨hj2, hM, hBz⟩, rfl⟩
        have HM := Lib.hid hM; have HBz := Lib.hid hBz
        clear hM hBz
        obtain ⟨hx2, hm0', hm1', hT8, hP8⟩ := H8.out
        have HT8 := Lib.hid hT8; have HP8 := Lib.hid hP8; have HX2 := Lib.hid hx2; have HM0 := Lib.hid hm0'; have HM1 := Lib.hid hm1'
        clear hx2 hm0' hm1' hT8 hP8
        have n5 := box_below (Below.step (Below.step HB1.out HB8.out) HBz.out) HN0.out
        have n6 := box_below (Below.step (Below.step HB1.out HB8.out) HBz.out) HN1.out
        have n8 := box_below HBz.out HX2.out
        have HN5 := Lib.hid n5; have HN6 := Lib.hid n6; have HN8 := Lib.hid n8
        clear n5 n6 n8
        have hs8 := HBz.out.size
        have hsg : g + 1 < wz.heap.size := (Array.getElem?_eq_some_iff.1 HN8.out).1
        by_cases hlt : j < 2
        case neg =>
          obtain rfl : j = 2 := by omega
          have c6 := box_cell HN6.out; have f6 := box_frozen HN6.out
          have hc5 := box_set (.bool true) HN6.out
          have hs1 := (Array.getElem?_eq_some_iff.1 HX2.out).1
          have HBF := Lib.hid ((Below.step HB0.out (Below.step HB1.out (Below.step HB8.out HBz.out))).setCell (p := ⟨W.heap.size + 1, 0, none⟩) (by simp) (.bool true))
          have HC5 := Lib.hid hc5
          have HMK := Lib.hid (HM.out.keep (KeepsOthers.setCell wz ⟨W.heap.size + 1, 0, none⟩ (.bool true)))
          clear hc5
          gi_wp2_with fail
          refine HMK.out.leaves (by simp; omega) fun w' hb' => ?_
          have hc7 := box_cell ((hb'.block (W.heap.size + 1) (by omega)).trans HC5.out)
          refine ⟨.bool true, ?_, rfl, HBF.out.trans (hb'.mono (by omega))⟩
          simp [results, Try.f5, go_sem, hc7]
        case pos =>
          have hlt2 : (j : Int) < 2 := by omega
          have hj0 : (0 : Int) ≤ (j : Int) := by omega
          obtain ⟨w9', hw9'⟩ : ∃ w9, wz.alloc (.cells #[.int .i64 0] 3) = w9 := ⟨_, rfl⟩
          obtain ⟨w9, hw9⟩ : ∃ w9, w9'.setCell ⟨wz.heap.size, 0, none⟩ (.int .i64 0) = w9 := ⟨_, rfl⟩
          have hn9 : w9'.heap[wz.heap.size]? = some (.cells #[.int .i64 0] 3 (0, 0)) := by rw [← hw9']; exact heap_new _ _
          have hb9 : Below wz.heap.size wz w9 := by rw [← hw9, ← hw9']; exact ((Below.refl _ wz).alloc (Nat.le_refl _) _).setCell (p := ⟨wz.heap.size, 0, none⟩) (Nat.le_refl _) _
          have hi9 : w9.heap[wz.heap.size]? = some (.cells #[.int .i64 0] 3 (0, 0)) := by rw [← hw9]; exact box_set _ hn9
          have c9 := box_cell hn9; have f9 := box_frozen hn9
          have hsz9 : wz.heap.size < w9.heap.size := (Array.getElem?_eq_some_iff.1 hi9).1
          have HB9 := Lib.hid hb9; have HI9 := Lib.hid hi9
          clear hb9 hi9 hn9
          gi_wp2_with fail
          clear hw9 hw9' c9 f9
          refine wpIn_rangeFunc_ownF rfl (by omega) (gf := 41) (lb := #[.pointer (some ⟨wr.heap.size, 0, none⟩), .pointer (some ⟨wr.heap.size + 1, 0, none⟩)]) rfl trivial (enters_of Try.func41 (by kernel_rfl) rfl)
            (from_stops 8 wr.heap.size q k T w8 HM0.out HM1.out HT8.out) KeepT.trans (fun W l o o' _ hl ho _ => keep_putObj hl ho) (Below.step HBz.out HB9.out) (fun _ => rfl)
            (fun pre Y => Y.heap[wz.heap.size]? = some (.cells #[.int .i64 pre.length] 3 (0, 0)) ∧ (pre.length : Int) ≤ most ∧ Below wz.heap.size wz Y)
            (fun c pre Y => (c = .ret ∧ ¬ pre <+: geT k T) ∨ (c = .exit 4 ∧ Y.heap[wz.heap.size]? = some (.cells #[.int .i64 pre.length] 3 (0, 0)) ∧ (pre.length : Int) = most + 1 ∧ Below wz.heap.size wz Y))
            (fun s A C row hs hg hr => ⟨own_cells hg hr hs.1, hs.2.1, own_below hg hr (Nat.le_refl _) (by omega) hs.2.2⟩)
            (fun c s A C row hs hg hr => hs.imp id fun hs => ⟨hs.1, own_cells hg hr hs.2.1, hs.2.2.1, own_below hg hr (Nat.le_refl _) (by omega) hs.2.2.2⟩)
            ⟨HI9.out, hm0, HB9.out⟩
            (fun x => { tmps := #[.slice a L.length cap, .int .i64 k, .int .u8 most, undef, undef, .pointer (some ⟨W.heap.size, 0, none⟩), .pointer (some ⟨W.heap.size + 1, 0, none⟩), .pointer (some ⟨g, 0, none⟩), .pointer (some ⟨g + 1, 0, none⟩), undef, u10, .func (.func 41) #[] #[.pointer (some ⟨wr.heap.size, 0, none⟩), .pointer (some ⟨wr.heap.size + 1, 0, none⟩)], .pointer (some ⟨wz.heap.size, 0, none⟩), .int .i64 x.1, .int .i64 x.2, .bool true, .bool false, .bool false, .slice a L.length cap, .int .i64 L.length, .bool false, .bool false, undef, .slice a L.length cap, .int .i64 L.length, .int .i64 L.length, .bool false, u27, u28, u29, u30, u31, u32, u33, u34, u35, u36, .agg #[.pointer q], .int .i64 k, .func (.func 41) #[] #[.pointer (some ⟨wr.heap.size, 0, none⟩), .pointer (some ⟨wr.heap.size + 1, 0, none⟩)], .slice a0 (rep kf T.toList).length c0, .slice a0 (rep kf T.toList).length c0, .int .i64 k, .string (kf k), .int .i64 i, .slice A' G.length c', .int .i64 j, .bool true, .func (.func 41) #[] #[.pointer (some ⟨wr.heap.size, 0, none⟩), .pointer (some ⟨wr.heap.size + 1, 0, none⟩)], .int .i64 x.1, .int .i64 x.2, undef, undef, undef, undef, undef, undef, undef, undef, undef, undef, undef, undef, undef, undef, undef, undef, undef, undef, undef, undef, undef, undef, undef, undef, undef, undef, undef, undef, undef, u80, u81, u82, u83, u84, u85, u86, u87, u88], defers := [] }) ?assign ?body ?done ?stop
          case assign =>
            intro l x W K hK
            gi_wp2_with fail
            exact hK
          case body =>
            rintro l pre x Y ⟨hi, hle, hb⟩ hlen
            have HF : ∀ f, (Fence.wide.inRound l).fn f := fun _ => trivial
            rw [hG] at hlen
            have hil : pre.length < (rep kf G).length := by simpa [rep] using hlen
            have hbY := Below.step HBz.out hb
            obtain ⟨a', cap', hv, hE⟩ := HP8.out.below hbY
            obtain ⟨b', rfl, hE0', hE1'⟩ := hE pre.length hil
            obtain ⟨z, hz⟩ : ∃ z, G[pre.length]? = some z := ⟨_, List.getElem?_eq_getElem hlen⟩
            have hzz : (rep kf G)[pre.length] = (kf z.1, z.2) := by
              have := (List.getElem?_eq_some_iff.1 hz).2
              simp only [rep, List.getElem_map, this]
            rw [hzz] at hE0' hE1'
            have hE0 : ∀ w, Below Y.heap.size Y w → w.cell? (b'.add (pre.length * 2)) = some (.string (kf z.1)) := fun w hw => cell_below hE0' hw
            have hE1 : ∀ w, Below Y.heap.size Y w → w.cell? ⟨(b'.add (pre.length * 2)).block, (b'.add (pre.length * 2)).off + 1, none⟩ = some (.int .i64 z.2) := fun w hw => cell_below hE1' hw
            simp only [Value.slice.injEq] at hv
            obtain ⟨rfl, -, -⟩ := hv
            have hno : x ≠ z → ¬ (pre ++ [x]) <+: geT k T := fun hne ⟨t, ht⟩ => by
              rw [hG] at ht; rw [← ht] at hz; simp at hz; exact hne hz
            have hokz : ok z.1 := by
              have h1 : z ∈ G := List.mem_of_getElem? hz
              rw [← hG, geT_list k T HSO.out] at h1
              exact HOL.out z (List.mem_of_mem_drop h1)
            have hkz := kfx_ok z.1 hokz
            have HN5y := Lib.hid (box_below hb HN5.out); have HN6y := Lib.hid (box_below hb HN6.out); have HN8y := Lib.hid (box_below hb HN8.out); have HIy := Lib.hid hi; have HBB := Lib.hid hb
            have hc1 : ∀ w, Below Y.heap.size Y w → w.cell? ⟨wz.heap.size, 0, none⟩ = some (.int .i64 pre.length) := fun w hw => box_cell (box_below hw HIy.out)
            have hc2 : ∀ w, Below Y.heap.size Y w → w.cell? ⟨g + 1, 0, none⟩ = some (.slice (some b') G.length c') := fun w hw => box_cell (box_below hw HN8y.out)
            have hcI := True.intro
            have hx1 : (pre.length : Int) < (G.length : Int) := by omega
            have hx2 : ¬ ((G.length : Int) ≤ (pre.length : Int)) := by omega
            have hx5 : ¬ (G.length ≤ pre.length) := by omega
            have hx6 : decide ((G.length : Int) ≤ (pre.length : Int)) = false := decide_eq_false hx2
            have hx3 : (0 : Int) ≤ (pre.length : Int) := by omega
            have hx4 : (pre.length : Int) ≤ 255 := by omega
            have HHM := Lib.hid hle
            have HNO := Lib.hid hno
            clear hi hb hE hzz hil hE0' hE1' hbY hokz hle hno
            have h3 : (((kf z.1).toList == (kfx x.1).toList) = true ∧ (z.2 != x.2) = false) ∨ (((kf z.1).toList == (kfx x.1).toList) = true ∧ (z.2 != x.2) = true) ∨ ((kf z.1).toList == (kfx x.1).toList) = false := by
              cases ((kf z.1).toList == (kfx x.1).toList) <;> cases (z.2 != x.2) <;> simp
            rcases h3 with ⟨hk, hv⟩ | ⟨hk, hv⟩ | hk
            · skip
              gi_wp2_with fail
              refine wpIn_region_anyNP (Below Y.heap.size Y) (by kernel_rfl) ?_
              have B1 : Below Y.heap.size Y Y.drew := (Below.refl _ _).drew
              refine AnyH.take (i := 0) (d := some 51) (v := ?_) (by kernel_rfl) rfl rfl HF (fun _ _ _ h => h) (.inl ⟨by rfl, ?_⟩) (by first | assumption | rfl) ?_
              rotate_left
              · intro w hS; try subst hS
                go_simp; try with_reducible rfl
              try simp only [Act.put, List.setIfInBounds_toArray, List.set_cons_zero, List.set_cons_succ]
              refine AnyH.take (i := 1) (d := some 52) (v := ?_) (by kernel_rfl) rfl rfl HF (fun _ _ _ h => h) (.inl ⟨by rfl, ?_⟩) (by first | assumption | rfl) ?_
              rotate_left
              · intro w hS; try subst hS
                go_simp; try with_reducible rfl
              try simp only [Act.put, List.setIfInBounds_toArray, List.set_cons_zero, List.set_cons_succ]
              refine AnyH.take (i := 2) (d := some 53) (v := ?_) (by kernel_rfl) rfl rfl HF (fun _ _ _ h => h) (.inl ⟨by rfl, ?_⟩) (by first | assumption | rfl) ?_
              rotate_left
              · intro w hS; try subst hS
                go_simp; try with_reducible rfl
              try simp only [Act.put, List.setIfInBounds_toArray, List.set_cons_zero, List.set_cons_succ]
              refine AnyH.take (i := 3) (d := some 54) (v := ?_) (by kernel_rfl) rfl rfl HF (fun _ _ _ h => h) (.inl ⟨by rfl, ?_⟩) (by first | assumption | rfl) ?_
              rotate_left
              · intro w hS; try subst hS
                go_simp; try with_reducible rfl
              try simp only [Act.put, List.setIfInBounds_toArray, List.set_cons_zero, List.set_cons_succ]
              refine AnyH.take (i := 4) (d := some 55) (v := ?_) (by kernel_rfl) rfl rfl HF (fun _ _ _ h => h) (.inl ⟨by rfl, ?_⟩) (by first | assumption | rfl) ?_
              rotate_left
              · intro w hS; try subst hS
                go_simp; try with_reducible rfl
              try simp only [Act.put, List.setIfInBounds_toArray, List.set_cons_zero, List.set_cons_succ]
              refine AnyH.take (i := 5) (d := some 56) (v := ?_) (by kernel_rfl) rfl rfl HF (fun _ _ _ h => h) (.inl ⟨by rfl, ?_⟩) (by first | assumption | rfl) ?_
              rotate_left
              · intro w hS; try subst hS
                go_simp; try with_reducible rfl
              try simp only [Act.put, List.setIfInBounds_toArray, List.set_cons_zero, List.set_cons_succ]
              refine AnyH.take (i := 6) (d := some 57) (v := ?_) (by kernel_rfl) rfl rfl HF (fun _ _ _ h => h) (.inl ⟨by rfl, ?_⟩) (by first | assumption | rfl) ?_
              rotate_left
              · intro w hS; try subst hS
                go_simp; try with_reducible rfl
              try simp only [Act.put, List.setIfInBounds_toArray, List.set_cons_zero, List.set_cons_succ]
              refine AnyH.take (i := 7) (d := some 58) (v := ?_) (by kernel_rfl) rfl rfl HF (fun _ _ _ h => h) (.inl ⟨by rfl, ?_⟩) (by first | assumption | rfl) ?_
              rotate_left
              · intro w hS; try subst hS
                go_simp; try with_reducible rfl
              try simp only [Act.put, List.setIfInBounds_toArray, List.set_cons_zero, List.set_cons_succ]
              refine AnyH.take (i := 8) (d := some 59) (v := ?_) (by kernel_rfl) rfl rfl HF (fun _ _ _ h => h) (.inl ⟨by rfl, ?_⟩) (by first | assumption | rfl) ?_
              rotate_left
              · intro w hS; try subst hS
                go_simp; try with_reducible rfl
              try simp only [Act.put, List.setIfInBounds_toArray, List.set_cons_zero, List.set_cons_succ]
              refine AnyH.take (i := 9) (d := some 60) (v := ?_) (by kernel_rfl) rfl rfl HF (fun _ _ _ h => h) (.inl ⟨by rfl, ?_⟩) (by first | assumption | rfl) ?_
              rotate_left
              · intro w hS; try subst hS
                go_simp; try with_reducible rfl
              try simp only [Act.put, List.setIfInBounds_toArray, List.set_cons_zero, List.set_cons_succ]
              refine AnyH.take (i := 10) (d := some 61) (v := ?_) (by kernel_rfl) rfl rfl HF (fun _ _ _ h => h) (.inl ⟨by rfl, ?_⟩) (by first | assumption | rfl) ?_
              rotate_left
              · intro w hS; try subst hS
                go_simp; try with_reducible rfl
              try simp only [Act.put, List.setIfInBounds_toArray, List.set_cons_zero, List.set_cons_succ]
              refine AnyH.one (i := 11) (by kernel_rfl) (by kernel_rfl) rfl HF (by rfl) (fun K hK => ?_)
              go_simp
              first | ((with_reducible refine And.intro ?hdep ?_); (case hdep => first | rfl | (intro h; cases h))) | skip
              refine CallsIn.inRound l (callsIn_wide.2 ((key_all x.1 _).mono ?_))
              rintro e y2 ⟨rfl, b2⟩
              have B2 : Below Y.heap.size Y y2 := Below.step B1 b2
              clear b2
              refine hK _ _ B2 ?_
              clear hK K
              try simp only [Act.put, List.setIfInBounds_toArray, List.set_cons_zero, List.set_cons_succ]
              refine AnyH.take (i := 12) (d := some 63) (v := ?_) (by kernel_rfl) rfl rfl HF (fun _ _ _ h => h) (.inl ⟨by rfl, ?_⟩) (by first | assumption | rfl) ?_
              rotate_left
              · intro w hS; try subst hS
                go_simp; try with_reducible rfl
              try simp only [Act.put, List.setIfInBounds_toArray, List.set_cons_zero, List.set_cons_succ]
              refine AnyH.take (i := 13) (d := some 64) (v := ?_) (by kernel_rfl) rfl rfl HF (fun _ _ _ h => h) (.inl ⟨by rfl, ?_⟩) (by first | assumption | rfl) ?_
              rotate_left
              · intro w hS; try subst hS
                go_simp; try with_reducible rfl
              try simp only [Act.put, List.setIfInBounds_toArray, List.set_cons_zero, List.set_cons_succ]
              refine AnyH.take (i := 14) (d := some 65) (v := ?_) (by kernel_rfl) rfl rfl HF (fun _ _ _ h => h) (.inl ⟨by rfl, ?_⟩) (by first | assumption | rfl) ?_
              rotate_left
              · intro w hS; try subst hS
                go_simp; try with_reducible rfl
              try simp only [Act.put, List.setIfInBounds_toArray, List.set_cons_zero, List.set_cons_succ]
              refine AnyH.take (i := 15) (d := some 66) (v := ?_) (by kernel_rfl) rfl rfl HF (fun _ _ _ h => h) (.inl ⟨by rfl, ?_⟩) (by first | assumption | rfl) ?_
              rotate_left
              · intro w hS; try subst hS
                go_simp; try with_reducible rfl
              try simp only [Act.put, List.setIfInBounds_toArray, List.set_cons_zero, List.set_cons_succ]
              refine AnyH.take (i := 16) (d := some 67) (v := ?_) (by kernel_rfl) rfl rfl HF (fun _ _ _ h => h) (.inl ⟨by rfl, ?_⟩) (by first | assumption | rfl) ?_
              rotate_left
              · intro w hS; try subst hS
                go_simp; try with_reducible rfl
              try simp only [Act.put, List.setIfInBounds_toArray, List.set_cons_zero, List.set_cons_succ]
              refine AnyH.take (i := 17) (d := some 68) (v := ?_) (by kernel_rfl) rfl rfl HF (fun _ _ _ h => h) (.inl ⟨by rfl, ?_⟩) (by first | assumption | rfl) ?_
              rotate_left
              · intro w hS; try subst hS
                go_simp; try with_reducible rfl
              try simp only [Act.put, List.setIfInBounds_toArray, List.set_cons_zero, List.set_cons_succ]
              refine AnyH.take (i := 18) (d := some 69) (v := ?_) (by kernel_rfl) rfl rfl HF (fun _ _ _ h => h) (.inl ⟨by rfl, ?_⟩) (by first | assumption | rfl) ?_
              rotate_left
              · intro w hS; try subst hS
                go_simp; try with_reducible rfl
              try simp only [Act.put, List.setIfInBounds_toArray, List.set_cons_zero, List.set_cons_succ]
              refine AnyH.take (i := 19) (d := some 70) (v := ?_) (by kernel_rfl) rfl rfl HF (fun _ _ _ h => h) (.inl ⟨by rfl, ?_⟩) (by first | assumption | rfl) ?_
              rotate_left
              · intro w hS; try subst hS
                go_simp; try with_reducible rfl
              try simp only [Act.put, List.setIfInBounds_toArray, List.set_cons_zero, List.set_cons_succ]
              refine AnyH.take (i := 20) (d := some 71) (v := ?_) (by kernel_rfl) rfl rfl HF (fun _ _ _ h => h) (.inl ⟨by rfl, ?_⟩) (by first | assumption | rfl) ?_
              rotate_left
              · intro w hS; try subst hS
                go_simp; try with_reducible rfl
              try simp only [Act.put, List.setIfInBounds_toArray, List.set_cons_zero, List.set_cons_succ]
              refine AnyH.take (i := 21) (d := some 72) (v := ?_) (by kernel_rfl) rfl rfl HF (fun _ _ _ h => h) (.inl ⟨by rfl, ?_⟩) (by first | assumption | rfl) ?_
              rotate_left
              · intro w hS; try subst hS
                go_simp; try with_reducible rfl
              try simp only [Act.put, List.setIfInBounds_toArray, List.set_cons_zero, List.set_cons_succ]
              refine AnyH.take (i := 22) (d := some 73) (v := ?_) (by kernel_rfl) rfl rfl HF (fun _ _ _ h => h) (.inl ⟨by rfl, ?_⟩) (by first | assumption | rfl) ?_
              rotate_left
              · intro w hS; try subst hS
                go_simp; try with_reducible rfl
              try simp only [Act.put, List.setIfInBounds_toArray, List.set_cons_zero, List.set_cons_succ]
              refine AnyH.done (by kernel_rfl) ?_
              refine NP.normal ?_
              obtain ⟨Y3, hY3⟩ : ∃ Y3, y2.setCell ⟨wz.heap.size, 0, none⟩ (.int .i64 ((pre.length : Int) + 1)) = Y3 := ⟨_, rfl⟩
              have hi2 := box_below B2 HIy.out
              have f1 := box_frozen hi2; have c1 := box_cell hi2
              have hi3 : Y3.heap[wz.heap.size]? = some (.cells #[.int .i64 ((pre.length : Int) + 1)] 3 (0, 0)) := by rw [← hY3]; exact box_set _ hi2
              have c3 := box_cell hi3
              have c5 : Y3.cell? ⟨W.heap.size, 0, none⟩ = some (.int .u8 most) := by
                rw [← hY3]; exact box_cell ((Below.heap_setCell _ _ _ _ (by simp; omega)).trans (box_below B2 HN5y.out))
              have HI3 : Hid (Y3.heap[wz.heap.size]? = some (.cells #[.int .i64 ((pre ++ [x]).length : Int)] 3 (0, 0))) := Lib.hid (by rw [hi3]; simp)
              have HB3 : Hid (Below wz.heap.size wz Y3) := Lib.hid (by
                rw [← hY3]; exact (HBB.out.trans (B2.mono HBB.out.size)).setCell (p := ⟨wz.heap.size, 0, none⟩) (Nat.le_refl _) _)
              have HKO : Hid (KeepsOthers Y Y3) := Lib.hid (by rw [← hY3]; exact keepsOthers_setCell (keepsOthers_below B2) _ _)
              have HKT : Hid (KeepT 81 Y Y3) := Lib.hid (by rw [← hY3]; exact (KeepT.below B2).trans (KeepT.setCell (a := ⟨wz.heap.size, 0, none⟩) hi2 (by decide)))
              clear hc1 hc2 hcI hE0 hE1 B1 B2 hx1 hx2 hx5 hx6 hlen hz hi2 hi3
              have HKZ := Lib.hid hkz; have HK3 := Lib.hid hk; clear hkz hk hv
              by_cases hmm : most < (pre.length : Int) + 1
              · gi_wp2_with fail
                exact ⟨HKO.out, .inr ⟨rfl, HI3.out, by have := HHM.out; simp; omega, HB3.out⟩⟩
              · gi_wp2_with fail
                exact ⟨HKO.out, HKT.out, HI3.out, by have := HHM.out; simp; omega, HB3.out⟩
            · skip
              gi_wp2_with fail
              refine wpIn_region_anyNP (Below Y.heap.size Y) (by kernel_rfl) ?_
              have B1 : Below Y.heap.size Y Y.drew := (Below.refl _ _).drew
              refine AnyH.take (i := 0) (d := some 51) (v := ?_) (by kernel_rfl) rfl rfl HF (fun _ _ _ h => h) (.inl ⟨by rfl, ?_⟩) (by first | assumption | rfl) ?_
              rotate_left
              · intro w hS; try subst hS
                go_simp; try with_reducible rfl
              try simp only [Act.put, List.setIfInBounds_toArray, List.set_cons_zero, List.set_cons_succ]
              refine AnyH.take (i := 1) (d := some 52) (v := ?_) (by kernel_rfl) rfl rfl HF (fun _ _ _ h => h) (.inl ⟨by rfl, ?_⟩) (by first | assumption | rfl) ?_
              rotate_left
              · intro w hS; try subst hS
                go_simp; try with_reducible rfl
              try simp only [Act.put, List.setIfInBounds_toArray, List.set_cons_zero, List.set_cons_succ]
              refine AnyH.take (i := 2) (d := some 53) (v := ?_) (by kernel_rfl) rfl rfl HF (fun _ _ _ h => h) (.inl ⟨by rfl, ?_⟩) (by first | assumption | rfl) ?_
              rotate_left
              · intro w hS; try subst hS
                go_simp; try with_reducible rfl
              try simp only [Act.put, List.setIfInBounds_toArray, List.set_cons_zero, List.set_cons_succ]
              refine AnyH.take (i := 3) (d := some 54) (v := ?_) (by kernel_rfl) rfl rfl HF (fun _ _ _ h => h) (.inl ⟨by rfl, ?_⟩) (by first | assumption | rfl) ?_
              rotate_left
              · intro w hS; try subst hS
                go_simp; try with_reducible rfl
              try simp only [Act.put, List.setIfInBounds_toArray, List.set_cons_zero, List.set_cons_succ]
              refine AnyH.take (i := 4) (d := some 55) (v := ?_) (by kernel_rfl) rfl rfl HF (fun _ _ _ h => h) (.inl ⟨by rfl, ?_⟩) (by first | assumption | rfl) ?_
              rotate_left
              · intro w hS; try subst hS
                go_simp; try with_reducible rfl
              try simp only [Act.put, List.setIfInBounds_toArray, List.set_cons_zero, List.set_cons_succ]
              refine AnyH.take (i := 5) (d := some 56) (v := ?_) (by kernel_rfl) rfl rfl HF (fun _ _ _ h => h) (.inl ⟨by rfl, ?_⟩) (by first | assumption | rfl) ?_
              rotate_left
              · intro w hS; try subst hS
                go_simp; try with_reducible rfl
              try simp only [Act.put, List.setIfInBounds_toArray, List.set_cons_zero, List.set_cons_succ]
              refine AnyH.take (i := 6) (d := some 57) (v := ?_) (by kernel_rfl) rfl rfl HF (fun _ _ _ h => h) (.inl ⟨by rfl, ?_⟩) (by first | assumption | rfl) ?_
              rotate_left
              · intro w hS; try subst hS
                go_simp; try with_reducible rfl
              try simp only [Act.put, List.setIfInBounds_toArray, List.set_cons_zero, List.set_cons_succ]
              refine AnyH.take (i := 7) (d := some 58) (v := ?_) (by kernel_rfl) rfl rfl HF (fun _ _ _ h => h) (.inl ⟨by rfl, ?_⟩) (by first | assumption | rfl) ?_
              rotate_left
              · intro w hS; try subst hS
                go_simp; try with_reducible rfl
              try simp only [Act.put, List.setIfInBounds_toArray, List.set_cons_zero, List.set_cons_succ]
              refine AnyH.take (i := 8) (d := some 59) (v := ?_) (by kernel_rfl) rfl rfl HF (fun _ _ _ h => h) (.inl ⟨by rfl, ?_⟩) (by first | assumption | rfl) ?_
              rotate_left
              · intro w hS; try subst hS
                go_simp; try with_reducible rfl
              try simp only [Act.put, List.setIfInBounds_toArray, List.set_cons_zero, List.set_cons_succ]
              refine AnyH.take (i := 9) (d := some 60) (v := ?_) (by kernel_rfl) rfl rfl HF (fun _ _ _ h => h) (.inl ⟨by rfl, ?_⟩) (by first | assumption | rfl) ?_
              rotate_left
              · intro w hS; try subst hS
                go_simp; try with_reducible rfl
              try simp only [Act.put, List.setIfInBounds_toArray, List.set_cons_zero, List.set_cons_succ]
              refine AnyH.take (i := 10) (d := some 61) (v := ?_) (by kernel_rfl) rfl rfl HF (fun _ _ _ h => h) (.inl ⟨by rfl, ?_⟩) (by first | assumption | rfl) ?_
              rotate_left
              · intro w hS; try subst hS
                go_simp; try with_reducible rfl
              try simp only [Act.put, List.setIfInBounds_toArray, List.set_cons_zero, List.set_cons_succ]
              refine AnyH.one (i := 11) (by kernel_rfl) (by kernel_rfl) rfl HF (by rfl) (fun K hK => ?_)
              go_simp
              first | ((with_reducible refine And.intro ?hdep ?_); (case hdep => first | rfl | (intro h; cases h))) | skip
              refine CallsIn.inRound l (callsIn_wide.2 ((key_all x.1 _).mono ?_))
              rintro e y2 ⟨rfl, b2⟩
              have B2 : Below Y.heap.size Y y2 := Below.step B1 b2
              clear b2
              refine hK _ _ B2 ?_
              clear hK K
              try simp only [Act.put, List.setIfInBounds_toArray, List.set_cons_zero, List.set_cons_succ]
              refine AnyH.take (i := 12) (d := some 63) (v := ?_) (by kernel_rfl) rfl rfl HF (fun _ _ _ h => h) (.inl ⟨by rfl, ?_⟩) (by first | assumption | rfl) ?_
              rotate_left
              · intro w hS; try subst hS
                go_simp; try with_reducible rfl
              try simp only [Act.put, List.setIfInBounds_toArray, List.set_cons_zero, List.set_cons_succ]
              refine AnyH.take (i := 13) (d := some 64) (v := ?_) (by kernel_rfl) rfl rfl HF (fun _ _ _ h => h) (.inl ⟨by rfl, ?_⟩) (by first | assumption | rfl) ?_
              rotate_left
              · intro w hS; try subst hS
                go_simp; try with_reducible rfl
              try simp only [Act.put, List.setIfInBounds_toArray, List.set_cons_zero, List.set_cons_succ]
              refine AnyH.take (i := 14) (d := some 65) (v := ?_) (by kernel_rfl) rfl rfl HF (fun _ _ _ h => h) (.inl ⟨by rfl, ?_⟩) (by first | assumption | rfl) ?_
              rotate_left
              · intro w hS; try subst hS
                go_simp; try with_reducible rfl
              try simp only [Act.put, List.setIfInBounds_toArray, List.set_cons_zero, List.set_cons_succ]
              refine AnyH.take (i := 15) (d := some 66) (v := ?_) (by kernel_rfl) rfl rfl HF (fun _ _ _ h => h) (.inl ⟨by rfl, ?_⟩) (by first | assumption | rfl) ?_
              rotate_left
              · intro w hS; try subst hS
                go_simp; try with_reducible rfl
              try simp only [Act.put, List.setIfInBounds_toArray, List.set_cons_zero, List.set_cons_succ]
              refine AnyH.take (i := 16) (d := some 67) (v := ?_) (by kernel_rfl) rfl rfl HF (fun _ _ _ h => h) (.inl ⟨by rfl, ?_⟩) (by first | assumption | rfl) ?_
              rotate_left
              · intro w hS; try subst hS
                go_simp; try with_reducible rfl
              try simp only [Act.put, List.setIfInBounds_toArray, List.set_cons_zero, List.set_cons_succ]
              refine AnyH.take (i := 17) (d := some 68) (v := ?_) (by kernel_rfl) rfl rfl HF (fun _ _ _ h => h) (.inl ⟨by rfl, ?_⟩) (by first | assumption | rfl) ?_
              rotate_left
              · intro w hS; try subst hS
                go_simp; try with_reducible rfl
              try simp only [Act.put, List.setIfInBounds_toArray, List.set_cons_zero, List.set_cons_succ]
              refine AnyH.take (i := 18) (d := some 69) (v := ?_) (by kernel_rfl) rfl rfl HF (fun _ _ _ h => h) (.inl ⟨by rfl, ?_⟩) (by first | assumption | rfl) ?_
              rotate_left
              · intro w hS; try subst hS
                go_simp; try with_reducible rfl
              try simp only [Act.put, List.setIfInBounds_toArray, List.set_cons_zero, List.set_cons_succ]
              refine AnyH.take (i := 19) (d := some 70) (v := ?_) (by kernel_rfl) rfl rfl HF (fun _ _ _ h => h) (.inl ⟨by rfl, ?_⟩) (by first | assumption | rfl) ?_
              rotate_left
              · intro w hS; try subst hS
                go_simp; try with_reducible rfl
              try simp only [Act.put, List.setIfInBounds_toArray, List.set_cons_zero, List.set_cons_succ]
              refine AnyH.take (i := 20) (d := some 71) (v := ?_) (by kernel_rfl) rfl rfl HF (fun _ _ _ h => h) (.inl ⟨by rfl, ?_⟩) (by first | assumption | rfl) ?_
              rotate_left
              · intro w hS; try subst hS
                go_simp; try with_reducible rfl
              try simp only [Act.put, List.setIfInBounds_toArray, List.set_cons_zero, List.set_cons_succ]
              refine AnyH.take (i := 21) (d := some 72) (v := ?_) (by kernel_rfl) rfl rfl HF (fun _ _ _ h => h) (.inl ⟨by rfl, ?_⟩) (by first | assumption | rfl) ?_
              rotate_left
              · intro w hS; try subst hS
                go_simp; try with_reducible rfl
              try simp only [Act.put, List.setIfInBounds_toArray, List.set_cons_zero, List.set_cons_succ]
              refine AnyH.take (i := 22) (d := some 73) (v := ?_) (by kernel_rfl) rfl rfl HF (fun _ _ _ h => h) (.inl ⟨by rfl, ?_⟩) (by first | assumption | rfl) ?_
              rotate_left
              · intro w hS; try subst hS
                go_simp; try with_reducible rfl
              try simp only [Act.put, List.setIfInBounds_toArray, List.set_cons_zero, List.set_cons_succ]
              refine AnyH.done (by kernel_rfl) ?_
              refine NP.normal ?_
              have HB2 := Lib.hid B2
              have f6 := box_frozen (box_below B2 HN6y.out); have c6 := box_cell (box_below B2 HN6y.out)
              have HKK := Lib.hid hk; have HZZ := Lib.hid hkz
              clear hc1 hc2 hcI hE0 hE1 B1 B2 hx1 hx2 hx5 hx6 hlen hz hk hkz
              gi_wp2_with fail
              exact ⟨(keepsOthers_below HB2.out).trans (KeepsOthers.setCell _ _ _), .inl ⟨rfl, HNO.out (fun e => by subst e; simp at hv)⟩⟩
            · skip
              gi_wp2_with fail
              refine wpIn_region_anyNP (Below Y.heap.size Y) (by kernel_rfl) ?_
              have B1 : Below Y.heap.size Y Y.drew := (Below.refl _ _).drew
              refine AnyH.take (i := 0) (d := some 51) (v := ?_) (by kernel_rfl) rfl rfl HF (fun _ _ _ h => h) (.inl ⟨by rfl, ?_⟩) (by first | assumption | rfl) ?_
              rotate_left
              · intro w hS; try subst hS
                go_simp; try with_reducible rfl
              try simp only [Act.put, List.setIfInBounds_toArray, List.set_cons_zero, List.set_cons_succ]
              refine AnyH.take (i := 1) (d := some 52) (v := ?_) (by kernel_rfl) rfl rfl HF (fun _ _ _ h => h) (.inl ⟨by rfl, ?_⟩) (by first | assumption | rfl) ?_
              rotate_left
              · intro w hS; try subst hS
                go_simp; try with_reducible rfl
              try simp only [Act.put, List.setIfInBounds_toArray, List.set_cons_zero, List.set_cons_succ]
              refine AnyH.take (i := 2) (d := some 53) (v := ?_) (by kernel_rfl) rfl rfl HF (fun _ _ _ h => h) (.inl ⟨by rfl, ?_⟩) (by first | assumption | rfl) ?_
              rotate_left
              · intro w hS; try subst hS
                go_simp; try with_reducible rfl
              try simp only [Act.put, List.setIfInBounds_toArray, List.set_cons_zero, List.set_cons_succ]
              refine AnyH.take (i := 3) (d := some 54) (v := ?_) (by kernel_rfl) rfl rfl HF (fun _ _ _ h => h) (.inl ⟨by rfl, ?_⟩) (by first | assumption | rfl) ?_
              rotate_left
              · intro w hS; try subst hS
                go_simp; try with_reducible rfl
              try simp only [Act.put, List.setIfInBounds_toArray, List.set_cons_zero, List.set_cons_succ]
              refine AnyH.take (i := 4) (d := some 55) (v := ?_) (by kernel_rfl) rfl rfl HF (fun _ _ _ h => h) (.inl ⟨by rfl, ?_⟩) (by first | assumption | rfl) ?_
              rotate_left
              · intro w hS; try subst hS
                go_simp; try with_reducible rfl
              try simp only [Act.put, List.setIfInBounds_toArray, List.set_cons_zero, List.set_cons_succ]
              refine AnyH.take (i := 5) (d := some 56) (v := ?_) (by kernel_rfl) rfl rfl HF (fun _ _ _ h => h) (.inl ⟨by rfl, ?_⟩) (by first | assumption | rfl) ?_
              rotate_left
              · intro w hS; try subst hS
                go_simp; try with_reducible rfl
              try simp only [Act.put, List.setIfInBounds_toArray, List.set_cons_zero, List.set_cons_succ]
              refine AnyH.take (i := 6) (d := some 57) (v := ?_) (by kernel_rfl) rfl rfl HF (fun _ _ _ h => h) (.inl ⟨by rfl, ?_⟩) (by first | assumption | rfl) ?_
              rotate_left
              · intro w hS; try subst hS
                go_simp; try with_reducible rfl
              try simp only [Act.put, List.setIfInBounds_toArray, List.set_cons_zero, List.set_cons_succ]
              refine AnyH.take (i := 7) (d := some 58) (v := ?_) (by kernel_rfl) rfl rfl HF (fun _ _ _ h => h) (.inl ⟨by rfl, ?_⟩) (by first | assumption | rfl) ?_
              rotate_left
              · intro w hS; try subst hS
                go_simp; try with_reducible rfl
              try simp only [Act.put, List.setIfInBounds_toArray, List.set_cons_zero, List.set_cons_succ]
              refine AnyH.take (i := 8) (d := some 59) (v := ?_) (by kernel_rfl) rfl rfl HF (fun _ _ _ h => h) (.inl ⟨by rfl, ?_⟩) (by first | assumption | rfl) ?_
              rotate_left
              · intro w hS; try subst hS
                go_simp; try with_reducible rfl
              try simp only [Act.put, List.setIfInBounds_toArray, List.set_cons_zero, List.set_cons_succ]
              refine AnyH.take (i := 9) (d := some 60) (v := ?_) (by kernel_rfl) rfl rfl HF (fun _ _ _ h => h) (.inl ⟨by rfl, ?_⟩) (by first | assumption | rfl) ?_
              rotate_left
              · intro w hS; try subst hS
                go_simp; try with_reducible rfl
              try simp only [Act.put, List.setIfInBounds_toArray, List.set_cons_zero, List.set_cons_succ]
              refine AnyH.take (i := 10) (d := some 61) (v := ?_) (by kernel_rfl) rfl rfl HF (fun _ _ _ h => h) (.inl ⟨by rfl, ?_⟩) (by first | assumption | rfl) ?_
              rotate_left
              · intro w hS; try subst hS
                go_simp; try with_reducible rfl
              try simp only [Act.put, List.setIfInBounds_toArray, List.set_cons_zero, List.set_cons_succ]
              refine AnyH.one (i := 11) (by kernel_rfl) (by kernel_rfl) rfl HF (by rfl) (fun K hK => ?_)
              go_simp
              first | ((with_reducible refine And.intro ?hdep ?_); (case hdep => first | rfl | (intro h; cases h))) | skip
              refine CallsIn.inRound l (callsIn_wide.2 ((key_all x.1 _).mono ?_))
              rintro e y2 ⟨rfl, b2⟩
              have B2 : Below Y.heap.size Y y2 := Below.step B1 b2
              clear b2
              refine hK _ _ B2 ?_
              clear hK K
              try simp only [Act.put, List.setIfInBounds_toArray, List.set_cons_zero, List.set_cons_succ]
              refine AnyH.take (i := 12) (d := some 63) (v := ?_) (by kernel_rfl) rfl rfl HF (fun _ _ _ h => h) (.inl ⟨by rfl, ?_⟩) (by first | assumption | rfl) ?_
              rotate_left
              · intro w hS; try subst hS
                go_simp; try with_reducible rfl
              try simp only [Act.put, List.setIfInBounds_toArray, List.set_cons_zero, List.set_cons_succ]
              refine AnyH.take (i := 13) (d := some 64) (v := ?_) (by kernel_rfl) rfl rfl HF (fun _ _ _ h => h) (.inl ⟨by rfl, ?_⟩) (by first | assumption | rfl) ?_
              rotate_left
              · intro w hS; try subst hS
                go_simp; try with_reducible rfl
              try simp only [Act.put, List.setIfInBounds_toArray, List.set_cons_zero, List.set_cons_succ]
              refine AnyH.take (i := 14) (d := some 65) (v := ?_) (by kernel_rfl) rfl rfl HF (fun _ _ _ h => h) (.inl ⟨by rfl, ?_⟩) (by first | assumption | rfl) ?_
              rotate_left
              · intro w hS; try subst hS
                go_simp; try with_reducible rfl
              try simp only [Act.put, List.setIfInBounds_toArray, List.set_cons_zero, List.set_cons_succ]
              refine AnyH.take (i := 15) (d := some 66) (v := undef) (by kernel_rfl) rfl rfl HF (fun _ _ _ h => h) (.inr ⟨by rfl, rfl⟩) (by first | assumption | rfl) ?_
              try simp only [Act.put, List.setIfInBounds_toArray, List.set_cons_zero, List.set_cons_succ]
              refine AnyH.take (i := 16) (d := some 67) (v := undef) (by kernel_rfl) rfl rfl HF (fun _ _ _ h => h) (.inr ⟨by rfl, rfl⟩) (by first | assumption | rfl) ?_
              try simp only [Act.put, List.setIfInBounds_toArray, List.set_cons_zero, List.set_cons_succ]
              refine AnyH.take (i := 17) (d := some 68) (v := undef) (by kernel_rfl) rfl rfl HF (fun _ _ _ h => h) (.inr ⟨by rfl, rfl⟩) (by first | assumption | rfl) ?_
              try simp only [Act.put, List.setIfInBounds_toArray, List.set_cons_zero, List.set_cons_succ]
              refine AnyH.take (i := 18) (d := some 69) (v := undef) (by kernel_rfl) rfl rfl HF (fun _ _ _ h => h) (.inr ⟨by rfl, rfl⟩) (by first | assumption | rfl) ?_
              try simp only [Act.put, List.setIfInBounds_toArray, List.set_cons_zero, List.set_cons_succ]
              refine AnyH.take (i := 19) (d := some 70) (v := undef) (by kernel_rfl) rfl rfl HF (fun _ _ _ h => h) (.inr ⟨by rfl, rfl⟩) (by first | assumption | rfl) ?_
              try simp only [Act.put, List.setIfInBounds_toArray, List.set_cons_zero, List.set_cons_succ]
              refine AnyH.take (i := 20) (d := some 71) (v := undef) (by kernel_rfl) rfl rfl HF (fun _ _ _ h => h) (.inr ⟨by rfl, rfl⟩) (by first | assumption | rfl) ?_
              try simp only [Act.put, List.setIfInBounds_toArray, List.set_cons_zero, List.set_cons_succ]
              refine AnyH.take (i := 21) (d := some 72) (v := undef) (by kernel_rfl) rfl rfl HF (fun _ _ _ h => h) (.inr ⟨by rfl, rfl⟩) (by first | assumption | rfl) ?_
              try simp only [Act.put, List.setIfInBounds_toArray, List.set_cons_zero, List.set_cons_succ]
              refine AnyH.take (i := 22) (d := some 73) (v := ?_) (by kernel_rfl) rfl rfl HF (fun _ _ _ h => h) (.inl ⟨by rfl, ?_⟩) (by first | assumption | rfl) ?_
              rotate_left
              · intro w hS; try subst hS
                go_simp; try with_reducible rfl
              try simp only [Act.put, List.setIfInBounds_toArray, List.set_cons_zero, List.set_cons_succ]
              refine AnyH.done (by kernel_rfl) ?_
              refine NP.normal ?_
              have HB2 := Lib.hid B2
              have f6 := box_frozen (box_below B2 HN6y.out); have c6 := box_cell (box_below B2 HN6y.out)
              have HKK := Lib.hid hk; have HZZ := Lib.hid hkz
              clear hc1 hc2 hcI hE0 hE1 B1 B2 hx1 hx2 hx5 hx6 hlen hz hk hkz
              gi_wp2_with fail
              exact ⟨(keepsOthers_below HB2.out).trans (KeepsOthers.setCell _ _ _), .inl ⟨rfl, HNO.out (fun e => by subst e; have hk := HKK.out; rw [HZZ.out] at hk; simp at hk)⟩⟩
          case done =>
            rintro D xs Y hD' hxs ⟨hi, hle, hb⟩ hK
            obtain rfl : xs = G := by rw [hxs, hG]
            have HMN : Hid (Marks w8.heap.size Y ({ target := .collected D, args := #[] } :: ds)) := Lib.hid ((HM.out.below hb).cons (fun D' h => Nat.lt_of_lt_of_le (HM.out.lt h) (by omega)) (by omega) hK)
            have HBY := Lib.hid (Below.step HBz.out hb)
            have c1 := box_cell hi
            have c2 := box_cell (box_below hb HN8.out); have c5 := box_cell (box_below hb HN5.out); have c6 := box_cell (box_below hb HN6.out); have f6 := box_frozen (box_below hb HN6.out)
            have hle2 : (xs.length : Int) < most + 1 := by omega
            clear hi hb hK hle hxs hG
            gi_wp2_with fail
            refine ⟨⟨j + 1, _, _, _, _, _, _, _, _, _, _, _, _, _, ⟨by omega, HMN.out, HBY.out⟩, rfl⟩, ?_⟩
            simp [intOf]; omega
          case stop =>
            rintro D c pre Y hD' hpre hIx hK
            rcases hIx with ⟨rfl, hno⟩ | ⟨rfl, hi, hle, hb⟩
            · exact absurd hpre hno
            · have hpl : pre.length ≤ G.length := by rw [hG] at hpre; exact hpre.length_le
              have HMN : Hid (Marks w8.heap.size Y ({ target := .collected D, args := #[] } :: ds)) := Lib.hid ((HM.out.below hb).cons (fun D' h => Nat.lt_of_lt_of_le (HM.out.lt h) (by omega)) (by omega) hK)
              have HBY := Lib.hid (Below.step HBz.out hb)
              rw [hle] at hi
              have c1 := box_cell hi
              have c2 := box_cell (box_below hb HN8.out); have c5 := box_cell (box_below hb HN5.out); have c6 := box_cell (box_below hb HN6.out); have f6 := box_frozen (box_below hb HN6.out)
              have hle2 : most + 1 ≤ (G.length : Int) := by omega
              have hle3 : (most + 1 < (G.length : Int)) ∨ (¬ most + 1 < (G.length : Int) ∧ (G.length : Int) ≤ most + 1) := by omega
              clear hi hb hK hle hpre hG hpl
              rcases hle3 with hle3 | ⟨hle3, hle4⟩
              · gi_wp2_with fail
                refine ⟨⟨j + 1, _, _, _, _, _, _, _, _, _, _, _, _, _, ⟨by omega, HMN.out, HBY.out⟩, rfl⟩, ?_⟩
                simp [intOf]; omega
              · gi_wp2_with fail
                refine ⟨⟨j + 1, ⟨by omega, HMN.out, HBY.out⟩, by omega⟩, ?_⟩
                simp [intOf]; omega
end ii
end Go.Proofs.Ytdgclambplipnaa
