/- nodes: the nodes of a tree in the order of their keys. -/
import Derived.Test.YtdgclambplipnaaMethii
import Derived.Test.YtdgclambplipnaaSlices
import Derived.Test.YtdgclambplipnaaOrdHeld
import Derived.Test.YtdgclambplipnaaMake
import Derived.Test.YtdgclambplipnaaOwn
import Derived.Test.YtdgclambplipnaaTail
import Derived.Outline
import Derived.Laws.EntriesVeiled
namespace Go.Proofs.Ytdgclambplipnaa
open Go.RowKit
namespace ii
attribute [local go_sem] Oper.semAt_some

/-- A node's block. -/
def NodeAt (W : World) (b : Nat) (x : Int × Int) : Prop := ∃ l r h c, W.heap[b]? = some (.cells #[.int .i64 x.1, .int .i64 x.2, l, r, h, c] 81 (0, 0))
theorem NodeAt.below {A C : World} {b : Nat} {x : Int × Int} (h : NodeAt A b x) (hb : Below A.heap.size A C) : NodeAt C b x := by
  obtain ⟨l, r, h1, c, h⟩ := h
  exact ⟨l, r, h1, c, box_below hb h⟩
def NodesAt (W : World) : List Nat → List (Int × Int) → Prop
  | [], [] => True
  | b :: ps, x :: xs => NodeAt W b x ∧ NodesAt W ps xs
  | _, _ => False
theorem NodesAt.len {W : World} : ∀ {ps : List Nat} {xs : List (Int × Int)}, NodesAt W ps xs → ps.length = xs.length
  | [], [], _ => rfl
  | _ :: _, _ :: _, h => by simp [NodesAt.len h.2]
  | [], _ :: _, h => h.elim
  | _ :: _, [], h => h.elim
theorem NodesAt.keep {A C : World} (hk : KeepT 81 A C) : ∀ {ps : List Nat} {xs : List (Int × Int)}, NodesAt A ps xs → NodesAt C ps xs
  | [], [], _ => trivial
  | b :: _, _ :: _, h => ⟨(by obtain ⟨l, r, h1, c, hh⟩ := h.1; exact ⟨l, r, h1, c, hk _ _ _ hh⟩), NodesAt.keep hk h.2⟩
  | [], _ :: _, h => h.elim
  | _ :: _, [], h => h.elim
theorem NodesAt.below {A C : World} {ps : List Nat} {xs : List (Int × Int)} (h : NodesAt A ps xs) (hb : Below A.heap.size A C) : NodesAt C ps xs := h.keep (KeepT.below hb)
theorem NodesAt.append {W : World} : ∀ {ps qs : List Nat} {xs ys : List (Int × Int)}, NodesAt W ps xs → NodesAt W qs ys → NodesAt W (ps ++ qs) (xs ++ ys)
  | [], _, [], _, _, h => h
  | _ :: _, _, _ :: _, _, h, k => ⟨h.1, NodesAt.append h.2 k⟩
  | [], _, _ :: _, _, h, _ => h.elim
  | _ :: _, _, [], _, h, _ => h.elim
def encN (b : Nat) : List Value := [.pointer (some ⟨b, 0, none⟩)]
theorem elemN : Elem Try.prog 113 24 1 8 := elem_of (z := .pointer none) (by kernel_rfl) (by kernel_rfl) rfl (by decide) (by decide)

/-- What the visitor holds: its own box, the list's box, the list. -/
def VI (n0 Bv Bl : Nat) (w : World) (v : Value) (l : List Nat) : Prop :=
  w.heap[Bv]? = some (.cells #[.func (.func 91) #[] #[.pointer (some ⟨Bv, 0, none⟩), .pointer (some ⟨Bl, 0, none⟩)]] 146 (0, 0)) ∧ w.heap[Bl]? = some (.cells #[v] 113 (0, 0)) ∧ SlA n0 w 24 1 encN v l

set_option maxRecDepth 100000 in
set_option maxHeartbeats 4000000 in
theorem visit_any (n0 Bv Bl : Nat) (hBv : n0 ≤ Bv) (hBl : n0 ≤ Bl) : ∀ (T : Tr Int Int) {w : World} {p : Option Addr} {v : Value} {l : List Nat}, Is w p T → VI n0 Bv Bl w v l → n0 ≤ w.heap.size → l.length + T.toList.length ≤ 1000000 →
    Calls Try.prog 91 #[.pointer p, .pointer (some ⟨Bv, 0, none⟩), .pointer (some ⟨Bl, 0, none⟩)] w fun e w' => e = .returned (.tuple #[]) ∧ ∃ v' ps, VI n0 Bv Bl w' v' (l ++ ps) ∧ NodesAt w' ps T.toList ∧ Below n0 w w' ∧ KeepT 81 w w' := by
  intro T
  induction T with
  | nil =>
    intro w p v l hT hV h0 _
    obtain rfl : p = none := hT
    have HV := Lib.hid hV
    clear hV
    go_enter Try.func91, Try.ntmps91
    go_wp2_with fail
    go_end0
    exact ⟨rfl, v, [], by simpa using HV.out, trivial, Below.refl _ _, KeepT.refl _ _⟩
  | node tl k x tr ihl ihr =>
    intro w p v l hT hV h0 hlen
    have HF : ∀ f, Fence.wide.fn f := fun _ => trivial
    obtain ⟨b, pl, pr, rfl, hb, hl, hr⟩ := hT
    have hlen2 : l.length + (tl.toList.length + (1 + tr.toList.length)) ≤ 1000000 := by simp only [Tr.toList, List.length_append, List.length_cons] at hlen; omega
    have HL := Lib.hid (ihl (hl.keep (KeepT.refl _ w).drew) (show VI n0 Bv Bl w.drew v l from hV) h0 (by omega))
    have HLEN := Lib.hid hlen2
    have HR := Lib.hid hr; have HNB := Lib.hid hb
    obtain ⟨c0, c1, c2, c3, -, -⟩ := node_cells hb
    have cv := box_cell hV.1
    clear ihl hl hr hb hlen hlen2 hV
    go_enter Try.func91, Try.ntmps91
    go_wp2_with fail
    refine wp_region_anyH (fun u => u = w.drew) (by kernel_rfl) ?_
    refine AnyH.take (i := 0) (d := some 6) (v := ?_) (by kernel_rfl) rfl rfl HF (fun _ _ _ h => h) (.inl ⟨by rfl, ?_⟩) (by first | assumption | rfl) ?_
    rotate_left
    · intro w hS; try subst hS
      go_simp; try with_reducible rfl
    try simp only [Act.put, List.setIfInBounds_toArray, List.set_cons_zero, List.set_cons_succ]
    refine AnyH.take (i := 1) (d := some 7) (v := ?_) (by kernel_rfl) rfl rfl HF (fun _ _ _ h => h) (.inl ⟨by rfl, ?_⟩) (by first | assumption | rfl) ?_
    rotate_left
    · intro w hS; try subst hS
      go_simp; try with_reducible rfl
    try simp only [Act.put, List.setIfInBounds_toArray, List.set_cons_zero, List.set_cons_succ]
    refine AnyH.take (i := 2) (d := some 8) (v := ?_) (by kernel_rfl) rfl rfl HF (fun _ _ _ h => h) (.inl ⟨by rfl, ?_⟩) (by first | assumption | rfl) ?_
    rotate_left
    · intro w hS; try subst hS
      go_simp; try with_reducible rfl
    try simp only [Act.put, List.setIfInBounds_toArray, List.set_cons_zero, List.set_cons_succ]
    refine AnyH.take (i := 3) (d := some 9) (v := ?_) (by kernel_rfl) rfl rfl HF (fun _ _ _ h => h) (.inl ⟨by rfl, ?_⟩) (by first | assumption | rfl) ?_
    rotate_left
    · intro w hS; try subst hS
      go_simp; try with_reducible rfl
    try simp only [Act.put, List.setIfInBounds_toArray, List.set_cons_zero, List.set_cons_succ]
    refine AnyH.take (i := 4) (d := some 10) (v := ?_) (by kernel_rfl) rfl rfl HF (fun _ _ _ h => h) (.inl ⟨by rfl, ?_⟩) (by first | assumption | rfl) ?_
    rotate_left
    · intro w hS; try subst hS
      go_simp; try with_reducible rfl
    try simp only [Act.put, List.setIfInBounds_toArray, List.set_cons_zero, List.set_cons_succ]
    refine AnyH.tailL 5 (by kernel_rfl) ?_
    simp only [List.drop_succ_cons, List.drop_zero]
    clear c0 c1 c2 c3 cv
    gi_wp2_with fail
    refine ⟨rfl, callsIn_wide.2 (HL.out.mono ?_)⟩
    rintro e w1 ⟨rfl, v1, ps1, hV1, hN1, hB1, hK1⟩
    have hB1' : Below n0 w w1 := (Below.refl n0 w).drew.trans hB1
    have hK1' : KeepT 81 w w1 := KeepT.trans (KeepT.refl _ w).drew hK1
    obtain ⟨cl, fl⟩ : w1.cell? ⟨Bl, 0, none⟩ = some v1 ∧ True := ⟨box_cell hV1.2.1, trivial⟩
    have hby : ((l ++ ps1).length + 1) * 8 ≤ 140737488355328 := by
      have h1 := hN1.len; have h2 := HLEN.out; rw [List.length_append]; omega
    have HLL := Lib.hid (show (l ++ ps1).length + 1 + tr.toList.length ≤ 1000000 by have h1 := hN1.len; have h2 := HLEN.out; rw [List.length_append]; omega)
    obtain ⟨l1, hl1⟩ : ∃ l1, l ++ ps1 = l1 := ⟨_, rfl⟩
    rw [hl1] at hV1 hby HLL
    have HL1 := Lib.hid hl1
    obtain ⟨a1, cp1, hv1⟩ := hV1.2.2.len
    subst hv1
    have HV1 := Lib.hid hV1; have HN1 := Lib.hid hN1; have HB1 := Lib.hid hB1'; have HK1 := Lib.hid hK1'
    have hz1 : n0 ≤ w1.heap.size := Nat.le_trans h0 hB1'.size
    have HBY := Lib.hid hby
    clear hby hl1
    clear hV1 hN1 hB1 hK1 hB1' hK1' HL fl
    gi_wp2_with fail
    go_wp2_with (
      at_builtin
      refine wp_app1G (w0 := w1) (enc := encN) elemN (fun _ => rfl) rfl _ _ rfl rfl HV1.out.2.2 b rfl rfl (by simp [encN, Value.oneCell']) HBY.out hz1 ?_
      intro v2 w2 hS' hg hb'
      obtain ⟨a2, cp2, hv2⟩ := hS'.len
      rw [List.length_append, List.length_singleton] at hv2
      subst hv2
      have x1 := app_other HV1.out.2.2 hg HV1.out.1 (by decide)
      have x2 := app_other HV1.out.2.2 hg HV1.out.2.1 (by decide)
      have xk : KeepT 81 w1 w2 := fun bb cs fz hh => app_other HV1.out.2.2 hg hh (by decide)
      have c5 := box_cell x2; have f5 := box_frozen x2
      have HV3 : Hid (VI n0 Bv Bl (w2.setCell ⟨Bl, 0, none⟩ (.slice a2 (l1.length + 1) cp2)) (.slice a2 (l1.length + 1) cp2) (l1 ++ [b])) := Lib.hid ⟨(Below.heap_setCell _ _ _ _ (by
        intro e; have e : Bv = Bl := e
        rw [e] at x1; rw [x1] at x2; cases x2)).trans x1, box_set _ x2, hS'.setCell (a := ⟨Bl, 0, none⟩) _ x2 (by decide)⟩
      have HK3 := Lib.hid (xk.trans (KeepT.setCell (v := .slice a2 (l1.length + 1) cp2) (a := ⟨Bl, 0, none⟩) x2 (by decide)))
      have HB3 := Lib.hid ((HB1.out.trans hb').setCell (p := ⟨Bl, 0, none⟩) hBl (.slice a2 (l1.length + 1) cp2))
      clear hS' hg hb' x1 x2 xk)
    obtain ⟨w3, hw3⟩ : ∃ w3, w2.setCell ⟨Bl, 0, none⟩ (.slice a2 (l1.length + 1) cp2) = w3 := ⟨_, rfl⟩
    rw [hw3] at HV3 HK3 HB3
    have hz3 : n0 ≤ w3.heap.size := Nat.le_trans h0 HB3.out.size
    have hKw := KeepT.trans HK1.out HK3.out
    obtain ⟨c0, c1, c2, c3, -, -⟩ := node_cells (hKw _ _ _ HNB.out)
    have cv := box_cell HV3.out.1
    have HRR := Lib.hid (ihr (HR.out.keep (KeepT.trans hKw (KeepT.refl _ w3).drew)) (show VI n0 Bv Bl w3.drew (.slice a2 (l1.length + 1) cp2) (l1 ++ [b]) from HV3.out) hz3 (by have := HLL.out; rw [List.length_append]; simp; omega))
    have HKW := Lib.hid hKw
    rw [hw3]
    clear ihr hKw cl c5 f5 hw3
    go_wp2_with fail
    refine wp_region_anyH (fun u => u = w3.drew) (by kernel_rfl) ?_
    refine AnyH.take (i := 0) (d := some 16) (v := ?_) (by kernel_rfl) rfl rfl HF (fun _ _ _ h => h) (.inl ⟨by rfl, ?_⟩) (by first | assumption | rfl) ?_
    rotate_left
    · intro w hS; try subst hS
      go_simp; try with_reducible rfl
    try simp only [Act.put, List.setIfInBounds_toArray, List.set_cons_zero, List.set_cons_succ]
    refine AnyH.take (i := 1) (d := some 17) (v := ?_) (by kernel_rfl) rfl rfl HF (fun _ _ _ h => h) (.inl ⟨by rfl, ?_⟩) (by first | assumption | rfl) ?_
    rotate_left
    · intro w hS; try subst hS
      go_simp; try with_reducible rfl
    try simp only [Act.put, List.setIfInBounds_toArray, List.set_cons_zero, List.set_cons_succ]
    refine AnyH.take (i := 2) (d := some 18) (v := ?_) (by kernel_rfl) rfl rfl HF (fun _ _ _ h => h) (.inl ⟨by rfl, ?_⟩) (by first | assumption | rfl) ?_
    rotate_left
    · intro w hS; try subst hS
      go_simp; try with_reducible rfl
    try simp only [Act.put, List.setIfInBounds_toArray, List.set_cons_zero, List.set_cons_succ]
    refine AnyH.take (i := 3) (d := some 19) (v := ?_) (by kernel_rfl) rfl rfl HF (fun _ _ _ h => h) (.inl ⟨by rfl, ?_⟩) (by first | assumption | rfl) ?_
    rotate_left
    · intro w hS; try subst hS
      go_simp; try with_reducible rfl
    try simp only [Act.put, List.setIfInBounds_toArray, List.set_cons_zero, List.set_cons_succ]
    refine AnyH.take (i := 4) (d := some 20) (v := ?_) (by kernel_rfl) rfl rfl HF (fun _ _ _ h => h) (.inl ⟨by rfl, ?_⟩) (by first | assumption | rfl) ?_
    rotate_left
    · intro w hS; try subst hS
      go_simp; try with_reducible rfl
    try simp only [Act.put, List.setIfInBounds_toArray, List.set_cons_zero, List.set_cons_succ]
    refine AnyH.tailL 5 (by kernel_rfl) ?_
    simp only [List.drop_succ_cons, List.drop_zero]
    clear c0 c1 c2 c3 cv
    gi_wp2_with fail
    refine ⟨rfl, callsIn_wide.2 (HRR.out.mono ?_)⟩
    rintro e w4 ⟨rfl, v4, ps4, hV4, hN4, hB4, hK4⟩
    have HF4 : Hid (∃ v' ps, VI n0 Bv Bl w4 v' (l ++ ps) ∧ NodesAt w4 ps (tl.toList ++ (k, x) :: tr.toList) ∧ Below n0 w w4 ∧ KeepT 81 w w4) := Lib.hid (by
      have hK4' : KeepT 81 w3 w4 := KeepT.trans (KeepT.refl _ w3).drew hK4
      refine ⟨v4, ps1 ++ ([b] ++ ps4), ?_, ?_, ?_, KeepT.trans HKW.out hK4'⟩
      · rw [← List.append_assoc, HL1.out, ← List.append_assoc]; exact hV4
      · refine NodesAt.append (HN1.out.keep (KeepT.trans HK3.out hK4')) ⟨⟨_, _, _, _, hK4' _ _ _ (HKW.out _ _ _ HNB.out)⟩, hN4⟩
      · exact HB3.out.trans ((Below.refl n0 w3).drew.trans hB4))
    clear hV4 hN4 hB4 hK4
    gi_wp2_with fail
    go_wp2_with fail
    go_end0
    exact ⟨rfl, HF4.out⟩

set_option maxRecDepth 100000 in
set_option maxHeartbeats 4000000 in
theorem nodes_any {W : World} {p : Option Addr} {T : Tr Int Int} (hT : Is W p T) (hn : T.toList.length ≤ 1000000) :
    Calls Try.prog 59 #[.agg #[.pointer p]] W fun e w' => ∃ v ps, e = .returned v ∧ SlA W.heap.size w' 24 1 encN v ps ∧ NodesAt w' ps T.toList ∧ Below W.heap.size W w' := by
  have hmf : ∀ (fn : Fn) (first cap : Array Value) (w : World), (Instr.makeFunc fn first cap).run Try.prog w = .ok (.func fn first cap) w := fun _ _ _ _ => rfl
  have hmk : ∀ w : World, (Instr.makeSlice 113 (.int .i64 0) (.int .i64 (T.toList.length : Int))).run Try.prog w = .ok (.slice (some ⟨w.heap.size, 0, none⟩) 0 T.toList.length) (w.alloc (.cells (madeCells #[.pointer none] T.toList.length) 24)) := fun w => by
    have h := mk_run (P := Try.prog) (t := 113) (e := 24) (z := .pointer none) (size := 1) (bytes := 8) (by kernel_rfl) (by kernel_rfl) 0 T.toList.length (by omega) (by omega) (by omega) w
    have hz : (Value.pointer none).cells = #[Value.pointer none] := rfl
    rw [hz] at h
    simpa using h
  obtain ⟨W0, hW0⟩ : ∃ W0, W.alloc (.cells #[.pointer p] 26) = W0 := ⟨_, rfl⟩
  have n0 : W0.heap[W.heap.size]? = some (.cells #[.pointer p] 26 (0, 0)) := by rw [← hW0]; exact heap_new _ _
  have hb0 : Below W.heap.size W W0 := by rw [← hW0]; exact (Below.refl _ W).alloc (Nat.le_refl _) _
  have hT0 := hT.below hb0
  have c0 := box_cell n0
  have HB0 := Lib.hid hb0; have HN0 := Lib.hid n0; have HT := Lib.hid hT; have HLN := Lib.hid hn
  clear n0 hb0 hT hn
  go_enter Try.func59, Try.ntmps59
  go_wp2_with fail
  clear hW0
  refine (Len_any hT0).mono ?_
  rintro e w1 ⟨rfl, b1⟩
  rw [Tr.sz_eq]
  have HB1 := Lib.hid (Below.step HB0.out b1); have HN1 := Lib.hid (box_below b1 HN0.out)
  clear b1 c0 hT0
  obtain ⟨w2, hw2⟩ : ∃ w2, w1.alloc (.cells (madeCells #[.pointer none] T.toList.length) 24) = w2 := ⟨_, rfl⟩
  obtain ⟨w3, hw3⟩ : ∃ w3, w2.alloc (.cells #[.slice (some ⟨w1.heap.size, 0, none⟩) 0 T.toList.length] 113) = w3 := ⟨_, rfl⟩
  obtain ⟨w4, hw4⟩ : ∃ w4, w3.alloc (.cells #[.func (.func 91) #[] #[.pointer (some ⟨w3.heap.size, 0, none⟩), .pointer (some ⟨w2.heap.size, 0, none⟩)]] 146) = w4 := ⟨_, rfl⟩
  have m2 : w2.heap[w1.heap.size]? = some (.cells (madeCells #[.pointer none] T.toList.length) 24 (0, 0)) := by rw [← hw2]; exact heap_new _ _
  have hb12 : Below w1.heap.size w1 w2 := by rw [← hw2]; exact (Below.refl _ _).alloc (Nat.le_refl _) _
  have hb23 : Below w2.heap.size w2 w3 := by rw [← hw3]; exact (Below.refl _ _).alloc (Nat.le_refl _) _
  have hb34 : Below w3.heap.size w3 w4 := by rw [← hw4]; exact (Below.refl _ _).alloc (Nat.le_refl _) _
  have hb4 : Below W.heap.size W w4 := Below.step (Below.step (Below.step HB1.out hb12) hb23) hb34
  have hVI : VI W.heap.size w3.heap.size w2.heap.size w4 (.slice (some ⟨w1.heap.size, 0, none⟩) 0 T.toList.length) [] := by
    refine ⟨by rw [← hw4]; exact heap_new _ _, box_below hb34 (by rw [← hw3]; exact heap_new _ _), ?_⟩
    refine ⟨by simp, .inr ⟨w1.heap.size, T.toList.length, _, rfl, HB1.out.size, box_below (Below.step hb23 hb34) m2, Nat.zero_le _, by have := HLN.out; unfold maxLen; omega, by rw [size_madeCells]; simp, by simp⟩⟩
  have hz2 : W.heap.size ≤ w2.heap.size := Nat.le_trans HB1.out.size hb12.size
  have hz3 : W.heap.size ≤ w3.heap.size := Nat.le_trans hz2 hb23.size
  have hz4 : W.heap.size ≤ w4.heap.size := hb4.size
  have HVI := Lib.hid hVI; have HB4 := Lib.hid hb4; have HN4 := Lib.hid (box_below (Below.step (Below.step hb12 hb23) hb34) HN1.out)
  have c4 := box_cell HN4.out
  have c5 := box_cell HVI.out.1
  clear m2 hb12 hb23 hb34 hb4 hVI
  go_wp2_with fail
  clear hw2 hw3 hw4 hmk hmf c4 c5
  refine (visit_any W.heap.size w3.heap.size w2.heap.size hz3 hz2 T (HT.out.below HB4.out) HVI.out hz4 (by have := HLN.out; simp; omega)).mono ?_
  rintro e w5 ⟨rfl, v', ps, hV5, hN5, hB5, -⟩
  have c5 := box_cell hV5.2.1
  have HS5 : Hid (SlA W.heap.size w5 24 1 encN v' ps) := Lib.hid (by simpa using hV5.2.2)
  have HN5 := Lib.hid hN5; have HB5 := Lib.hid (HB4.out.trans hB5)
  clear hV5 hN5 hB5
  go_wp2_with fail
  go_ret
  exact ⟨v', ps, rfl, HS5.out, HN5.out, HB5.out⟩
end ii
end Go.Proofs.Ytdgclambplipnaa
