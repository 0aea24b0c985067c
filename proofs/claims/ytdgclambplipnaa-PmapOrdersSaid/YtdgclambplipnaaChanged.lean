/- Changed: the keys at which two maps differ. -/
import Derived.Test.YtdgclambplipnaaNodes
import Derived.Test.YtdgclambplipnaaChgPlain
import Derived.Defers
import Derived.Recover
import Derived.Outline
namespace Go.Proofs.Ytdgclambplipnaa
open Go.RowKit
namespace ii
attribute [local go_sem] Oper.semAt_some

def encI (x : Int) : List Value := [.int .i64 x]
theorem elemI : Elem Try.prog 62 3 1 8 := elem_of (z := .int .i64 0) (by kernel_rfl) (by kernel_rfl) rfl (by decide) (by decide)
theorem cell_keep {A C : World} {t : TypeId} (hk : KeepT t A C) {a : Addr} {cs : Array Value} {fz : Nat × Nat} (hb : A.heap[a.block]? = some (.cells cs t fz)) {u : Value} (h : A.cell? a = some u) : C.cell? a = some u := by
  have h2 := hk _ _ _ hb
  unfold World.cell? at h ⊢
  rw [h2]; rw [hb] at h; exact h
/-- A slice of pointers to nodes. -/
def RowN (w : World) (v : Value) (ps : List Nat) : Prop := ∃ a cap, v = .slice a ps.length cap ∧ ps.length ≤ cap ∧ cap ≤ maxLen ∧ ∀ (i : Nat) (h : i < ps.length), ∃ b, a = some b ∧ (∃ cs fz, w.heap[b.block]? = some (.cells cs 24 fz)) ∧ w.cell? (b.add i) = some (.pointer (some ⟨ps[i], 0, none⟩))
theorem add_block (b : Addr) (i : Nat) : (b.add i).block = b.block := by unfold Addr.add; split <;> rfl
theorem RowN.keep {A C : World} {v : Value} {ps : List Nat} (h : RowN A v ps) (hk : KeepT 24 A C) : RowN C v ps := by
  obtain ⟨a, cap, e, h1, h2, h3⟩ := h
  refine ⟨a, cap, e, h1, h2, fun i hi => ?_⟩
  obtain ⟨b, eb, ⟨cs, fz, hb⟩, hc⟩ := h3 i hi
  exact ⟨b, eb, ⟨cs, fz, hk _ _ _ hb⟩, cell_keep hk (a := b.add i) (by rw [add_block]; exact hb) hc⟩
theorem RowN.of {B : Nat} {w : World} {v : Value} {ps : List Nat} (h : SlA B w 24 1 encN v ps) : RowN w v ps := by
  rcases h.shape with ⟨rfl, rfl⟩ | ⟨g, cap, rfl, h1, h2⟩
  · exact ⟨none, 0, rfl, by simp, by unfold maxLen; omega, fun i hi => by simp at hi⟩
  · have hb : ∃ cs fz, w.heap[g]? = some (.cells cs 24 fz) := by
      rcases h.2 with ⟨e, _⟩ | ⟨g', cap', cur, e, _, hg, _⟩
      · cases e
      · cases e; exact ⟨_, _, hg⟩
    refine ⟨some ⟨g, 0, none⟩, cap, rfl, h1, h2, fun i hi => ⟨_, rfl, hb, ?_⟩⟩
    have e := SlA.cell (size := 1) (enc := encN) (fun _ => rfl) h hi (j := 0) Nat.one_pos
    have e2 : (⟨g, 0, none⟩ : Addr).add i = ⟨g, i, none⟩ := by unfold Addr.add; split <;> simp_all
    rw [e2]
    simpa [encN] using e
theorem RowN.len {w : World} {v : Value} {ps : List Nat} (h : RowN w v ps) : ∃ a cap, v = .slice a ps.length cap ∧ ps.length ≤ cap ∧ cap ≤ 9223372036854775807 := by
  obtain ⟨a, cap, e, h1, h2, -⟩ := h
  unfold maxLen at h2
  exact ⟨a, cap, e, h1, h2⟩
/-- The first element, and what slicing it off leaves. -/
theorem RowN.cons {w : World} {v : Value} {p : Nat} {ps : List Nat} (h : RowN w v (p :: ps)) : ∃ b c, v = .slice (some b) (ps.length + 1) c ∧ (∀ w', KeepT 24 w w' → w'.cell? b = some (.pointer (some ⟨p, 0, none⟩))) ∧
    ∃ A' c', (∀ w', (Instr.slice 113 (.slice (some b) (ps.length + 1) c) (some (.int .i64 1)) none none).run Try.prog w' = .ok (.slice A' ps.length c') w') ∧ RowN w (.slice A' ps.length c') ps := by
  obtain ⟨a, cap, e, h1, h2, h3⟩ := h
  obtain ⟨b, rfl, ⟨cs, fz, hb⟩, hc⟩ := h3 0 (by simp)
  have z0 : b.add 0 = b := by unfold Addr.add; simp
  rw [z0] at hc
  simp only [List.length_cons] at e h1
  refine ⟨b, cap, e, fun w' hk => cell_keep hk hb hc, ?_⟩
  have hs : ∀ w, (sizeOf (Try.prog.elem 113)).run Try.prog w = .ok 1 w := fun w => by kernel_rfl
  refine ⟨(if cap = 1 then some b else some (b.add 1)), cap - 1, fun w' => ?_, ?_⟩
  · have := run_slice_l (P := Try.prog) w' 113 (some b) (ps.length + 1) cap (by kernel_rfl) .i64 1 (by omega) (by omega)
    rw [this, hs]; simp [Result.andThen, sliced]
  · refine ⟨_, _, rfl, by omega, by omega, fun i hi => ?_⟩
    have hne : ¬ cap = 1 := by omega
    obtain ⟨b', eb, hb', hc'⟩ := h3 (i + 1) (by simpa using hi)
    cases eb
    refine ⟨b.add 1, by rw [if_neg hne], by rw [add_block]; exact hb', ?_⟩
    have e2 : (b.add 1).add i = b.add (i + 1) := by
      unfold Addr.add; split <;> simp_all <;> omega
    rw [e2]; simpa using hc'
theorem node_key {w : World} {p : Nat} {x : Int × Int} (h : NodeAt w p x) : ∀ w', KeepT 81 w w' → w'.cell? ⟨p, 0, none⟩ = some (.int .i64 x.1) ∧ w'.cell? ⟨p, 1, none⟩ = some (.int .i64 x.2) := fun w' hk => by
  obtain ⟨l, r, h1, c, hh⟩ := h
  have := hk _ _ _ hh
  simp [World.cell?, this]

theorem RowN.at {w : World} {v : Value} {ps : List Nat} (h : RowN w v ps) {i : Nat} (hi : i < ps.length) : ∃ b c, v = .slice (some b) ps.length c ∧ ∀ w', KeepT 24 w w' → w'.cell? (b.add i) = some (.pointer (some ⟨ps[i], 0, none⟩)) := by
  obtain ⟨a, cap, e, h1, h2, h3⟩ := h
  obtain ⟨b, rfl, ⟨cs, fz, hb⟩, hc⟩ := h3 i hi
  exact ⟨b, cap, e, fun w' hk => cell_keep hk (a := b.add i) (by rw [add_block]; exact hb) hc⟩
theorem NodesAt.at {W : World} : ∀ {ps : List Nat} {xs : List (Int × Int)} (h : NodesAt W ps xs) {i : Nat} (hi : i < ps.length) (hx : i < xs.length), NodeAt W ps[i] xs[i]
  | _ :: _, _ :: _, h, 0, _, _ => h.1
  | _ :: ps, _ :: xs, h, i + 1, hi, hx => NodesAt.at (ps := ps) (xs := xs) h.2 (by simpa using hi) (by simpa using hx)
  | [], _, _, _, hi, _ => by simp at hi
  | _ :: _, [], h, _, _, _ => h.elim

/-- What an append to the result leaves. -/
theorem cs_app {n0 B4 : Nat} {w0 w' : World} {v v' : Value} {l : List Int} {k : Int} {cs : Array Value} (hS : SlA n0 w0 3 1 encI v l) (hb4 : w0.heap[B4]? = some (.cells #[v] 62 (0, 0))) (hg : (w0.alloc (.cells cs 3)).grownBy w' v.ownBlock) (hS' : SlA n0 w' 3 1 encI v' (l ++ [k])) (hB : Below n0 w0 w') (h0 : n0 ≤ B4) :
    (w'.setCell ⟨B4, 0, none⟩ v').heap[B4]? = some (.cells #[v'] 62 (0, 0)) ∧ SlA n0 (w'.setCell ⟨B4, 0, none⟩ v') 3 1 encI v' (l ++ [k]) ∧ KeepT 24 w0 (w'.setCell ⟨B4, 0, none⟩ v') ∧ KeepT 81 w0 (w'.setCell ⟨B4, 0, none⟩ v') ∧ Below n0 w0 (w'.setCell ⟨B4, 0, none⟩ v') := by
  have x := app_other hS hg hb4 (by decide)
  refine ⟨box_set _ x, hS'.setCell (a := ⟨B4, 0, none⟩) _ x (by decide), ?_, ?_, hB.setCell (p := ⟨B4, 0, none⟩) h0 _⟩
  · exact KeepT.trans (fun _ _ _ h => app_other hS hg h (by decide)) (KeepT.setCell (a := ⟨B4, 0, none⟩) x (by decide))
  · exact KeepT.trans (fun _ _ _ h => app_other hS hg h (by decide)) (KeepT.setCell (a := ⟨B4, 0, none⟩) x (by decide))

/-- Where the merge stands. -/
def CS (W : World) (X Y : List (Int × Int)) (w : World) (old now : Value) : Prop := ∃ (acc : List Int) (xs ys : List (Int × Int)) (ps qs : List Nat) (r : Value), RowN w old ps ∧ NodesAt w ps xs ∧ RowN w now qs ∧ NodesAt w qs ys ∧ w.heap[W.heap.size + 1 + 1]? = some (.cells #[r] 62 (0, 0)) ∧ SlA W.heap.size w 3 1 encI r acc ∧ acc ++ chg xs ys = chg X Y ∧ acc.length + xs.length + ys.length ≤ X.length + Y.length ∧ Below W.heap.size W w
def lenOf : Value → Nat
  | .slice _ n _ => n
  | _ => 0

theorem catch58 (p : Addr) (w : World) :
    CallsD Try.prog 58 #[.pointer (some p)] .returning w fun e u' w' => e = .returned (.tuple #[]) ∧ u' = .returning ∧ w' = w := by
  refine callsD_of_wpS Try.func58 rfl fun c₀ cs hu => ?_
  apply wpS_seq
  apply wpS_region
  simp [wpOpsS, go_sem, recoverD, hu, Try.ntmps58, Exit.thenS]
  refine wpS_cond (t := false) (by simp [Act.eval, Array.replicate]) ?_
  simp only [Bool.false_eq_true, if_false]
  refine wpS_of_wp (wp_skip ?_)
  cases c₀
  simp_all [bodyPostS, results, Try.results58]

set_option maxRecDepth 100000 in
set_option maxHeartbeats 8000000 in
theorem changed_any {W : World} {p q : Option Addr} {S T : Tr Int Int} (hS : Is W p S) (hT : Is W q T) (hn : S.toList.length + T.toList.length ≤ 1000000) :
    Calls Try.prog 27 #[.agg #[.pointer p], .agg #[.pointer q]] W fun e w' => ∃ r, e = .returned r ∧ SlA W.heap.size w' 3 1 encI r (chg S.toList T.toList) ∧ Below W.heap.size W w' := by
  have HF : ∀ f, Fence.wide.fn f := fun _ => trivial
  have hmf : ∀ (fn : Fn) (first cap : Array Value) (w : World), (Instr.makeFunc fn first cap).run Try.prog w = .ok (.func fn first cap) w := fun _ _ _ _ => rfl
  obtain ⟨W0, hW0⟩ : ∃ W0, ((W.alloc (.cells #[.pointer p] 26)).alloc (.cells #[.pointer q] 26)).alloc (.cells #[.slice none 0 0] 62) = W0 := ⟨_, rfl⟩
  have n0 : W0.heap[W.heap.size]? = some (.cells #[.pointer p] 26 (0, 0)) := by rw [← hW0]; exact three_0 _ _ _ _
  have n1 : W0.heap[W.heap.size + 1]? = some (.cells #[.pointer q] 26 (0, 0)) := by rw [← hW0]; exact three_1 _ _ _ _
  have n2 : W0.heap[W.heap.size + 1 + 1]? = some (.cells #[.slice none 0 0] 62 (0, 0)) := by rw [← hW0]; exact three_2 _ _ _ _
  have hb0 : Below W.heap.size W W0 := by rw [← hW0]; exact (((Below.refl _ W).alloc (Nat.le_refl _) _).alloc (by simp) _).alloc (by simp <;> omega) _
  have k0 : ∀ w, Below W0.heap.size W0 w → w.cell? ⟨W.heap.size, 0, none⟩ = some (.pointer p) := fun w h => box_cell (box_below h n0)
  have k1 : ∀ w, Below W0.heap.size W0 w → w.cell? ⟨W.heap.size + 1, 0, none⟩ = some (.pointer q) := fun w h => box_cell (box_below h n1)
  have HB0 := Lib.hid hb0; have HN2 := Lib.hid n2; have HS0 := Lib.hid (hS.below hb0); have HT0 := Lib.hid (hT.below hb0); have HLN := Lib.hid hn
  clear n0 n1 n2 hb0 hS hT hn
  go_enter_defers Try.func27, Try.ntmps27
  go_wp2_with fail
  clear hW0
  have B0 : Below W0.heap.size W0 W0.drew := (Below.refl _ _).drew
  refine wp_region_anyNP (Below W0.heap.size W0) (by kernel_rfl) ?_
  refine AnyH.take (i := 0) (d := some 14) (v := ?_) (by kernel_rfl) rfl rfl HF (fun _ _ _ h => h) (.inl ⟨by rfl, ?_⟩) (by first | assumption | rfl) ?_
  rotate_left
  · intro w hS; try subst hS
    go_simp; try with_reducible rfl
  try simp only [Act.put, List.setIfInBounds_toArray, List.set_cons_zero, List.set_cons_succ]
  refine AnyH.take (i := 2) (d := some 16) (v := ?_) (by kernel_rfl) rfl rfl HF (fun _ _ _ h => h) (.inl ⟨by rfl, ?_⟩) (by first | assumption | rfl) ?_
  rotate_left
  · intro w hS; try subst hS
    go_simp; try with_reducible rfl
  try simp only [Act.put, List.setIfInBounds_toArray, List.set_cons_zero, List.set_cons_succ]
  refine AnyH.one (i := 1) (by kernel_rfl) (by kernel_rfl) rfl HF (by rfl) (fun K hK => ?_)
  go_simp
  first | ((with_reducible refine And.intro ?hdep ?_); (case hdep => first | rfl | (intro h; cases h))) | skip
  refine callsIn_wide.2 ((nodes_any (HS0.out.below B0) (by have := HLN.out; omega)).mono ?_)
  rintro e w1 ⟨v1, ps, rfl, hs1, hn1, b1⟩
  have HR1 := Lib.hid (RowN.of hs1); have HN1 := Lib.hid hn1
  have B1 : Below W0.heap.size W0 w1 := Below.step B0 b1
  clear hs1 hn1
  refine hK _ _ B1 ?_
  clear hK K
  try simp only [Act.put, List.setIfInBounds_toArray, List.set_cons_zero, List.set_cons_succ]
  refine AnyH.one (i := 3) (by kernel_rfl) (by kernel_rfl) rfl HF (by rfl) (fun K hK => ?_)
  go_simp
  first | ((with_reducible refine And.intro ?hdep ?_); (case hdep => first | rfl | (intro h; cases h))) | skip
  refine callsIn_wide.2 ((nodes_any (HT0.out.below B1) (by have := HLN.out; omega)).mono ?_)
  rintro e w2 ⟨v2, qs, rfl, hs2, hn2, b2⟩
  have HR2 := Lib.hid (RowN.of hs2); have HN2' := Lib.hid hn2
  have HR1' := Lib.hid (HR1.out.keep (KeepT.below b2)); have HN1' := Lib.hid (HN1.out.below b2)
  have B2 : Below W0.heap.size W0 w2 := Below.step B1 b2
  clear hs2 hn2
  refine hK _ _ B2 ?_
  clear hK K
  try simp only [Act.put, List.setIfInBounds_toArray, List.set_cons_zero, List.set_cons_succ]
  refine AnyH.take (i := 4) (d := some 5) (v := ?_) (by kernel_rfl) rfl rfl HF (fun _ _ _ h => h) (.inl ⟨by rfl, ?_⟩) (by first | assumption | rfl) ?_
  rotate_left
  · intro w hS; try subst hS
    go_simp; try with_reducible rfl
  try simp only [Act.put, List.setIfInBounds_toArray, List.set_cons_zero, List.set_cons_succ]
  refine AnyH.take (i := 5) (d := some 6) (v := ?_) (by kernel_rfl) rfl rfl HF (fun _ _ _ h => h) (.inl ⟨by rfl, ?_⟩) (by first | assumption | rfl) ?_
  rotate_left
  · intro w hS; try subst hS
    go_simp; try with_reducible rfl
  try simp only [Act.put, List.setIfInBounds_toArray, List.set_cons_zero, List.set_cons_succ]
  refine AnyH.done (by kernel_rfl) ?_
  refine NP.normal ?_
  have HCS : Hid (CS W S.toList T.toList w2 v1 v2) := Lib.hid ⟨[], S.toList, T.toList, ps, qs, .slice none 0 0, HR1'.out, HN1'.out, HR2.out, HN2'.out, box_below B2 HN2.out, SlA.nil _ _ _ _ _, by simp, by simp, Below.step HB0.out B2⟩
  clear B0 B1 B2 b1 b2 k0 k1 HR1 HN1 HR1' HN1' HR2 HN2' HS0 HT0 HN2
  have HB4 := Lib.hid (show W.heap.size ≤ W.heap.size + 1 + 1 by omega)
  go_wp2_with fail
  go_loopw [5, 6] (fun old now wr => CS W S.toList T.toList wr old now) (fun old now _ => lenOf old + lenOf now)
  case atStart => exact HCS.out
  case round =>
    clear HCS
    obtain ⟨acc, xs, ys, ps, qs, r, hR1, hN1, hR2, hN2, hX, hS, hE, hl, hB⟩ := hrel
    have HE := Lib.hid hE; have HL := Lib.hid hl; have HB := Lib.hid hB
    obtain ⟨ra, rc, hr⟩ := hS.len
    subst hr
    have HX := Lib.hid hX; have HS := Lib.hid hS
    have HBY : Hid ((acc.length + 1) * 8 ≤ 140737488355328) := Lib.hid (by have := HLN.out; omega)
    have kr : ∀ w, Below wr.heap.size wr w → w.cell? ⟨W.heap.size + 1 + 1, 0, none⟩ = some (.slice ra acc.length rc) := fun w h => box_cell (box_below h HX.out)
    clear hE hl hB hX hS
    by_cases hgo : ps ≠ [] ∧ qs ≠ []
    case pos =>
      obtain ⟨h1, h2⟩ := hgo
      obtain ⟨p0, ps', rfl⟩ := List.exists_cons_of_ne_nil h1
      obtain ⟨q0, qs', rfl⟩ := List.exists_cons_of_ne_nil h2
      cases xs with
      | nil => exact hN1.elim
      | cons x xs' =>
      cases ys with
      | nil => exact hN2.elim
      | cons y ys' =>
      obtain ⟨b1, c1, rfl, g1, A1, d1, hsl1, hR1'⟩ := hR1.cons
      obtain ⟨b2, c2, rfl, g2, A2, d2, hsl2, hR2'⟩ := hR2.cons
      have HR1 := Lib.hid hR1; have HR2 := Lib.hid hR2; have HN1 := Lib.hid hN1; have HN2 := Lib.hid hN2; have HR1' := Lib.hid hR1'; have HR2' := Lib.hid hR2'
      have m1 : ∀ w, Below wr.heap.size wr w → w.cell? b1 = some (.pointer (some ⟨p0, 0, none⟩)) := fun w h => g1 w (KeepT.below h)
      have m2 : ∀ w, Below wr.heap.size wr w → w.cell? b2 = some (.pointer (some ⟨q0, 0, none⟩)) := fun w h => g2 w (KeepT.below h)
      have m3 : ∀ w, Below wr.heap.size wr w → w.cell? ⟨p0, 0, none⟩ = some (.int .i64 x.1) := fun w h => (node_key hN1.1 w (KeepT.below h)).1
      have m4 : ∀ w, Below wr.heap.size wr w → w.cell? ⟨p0, 1, none⟩ = some (.int .i64 x.2) := fun w h => (node_key hN1.1 w (KeepT.below h)).2
      have m5 : ∀ w, Below wr.heap.size wr w → w.cell? ⟨q0, 0, none⟩ = some (.int .i64 y.1) := fun w h => (node_key hN2.1 w (KeepT.below h)).1
      have m6 : ∀ w, Below wr.heap.size wr w → w.cell? ⟨q0, 1, none⟩ = some (.int .i64 y.2) := fun w h => (node_key hN2.1 w (KeepT.below h)).2
      have hp1 : (0 : Int) < (ps'.length : Int) + 1 := by omega
      have hq1 : (0 : Int) < (qs'.length : Int) + 1 := by omega
      obtain ⟨x1, x2⟩ := x
      obtain ⟨y1, y2⟩ := y
      simp only at m3 m4 m5 m6
      clear g1 g2 hR1 hR2 hN1 hN2 hR1' hR2' h1 h2
      go_wp2_with fail
      have Bwr := Below.refl wr.heap.size wr
      refine wp_region_anyNP (Below wr.heap.size wr) (by kernel_rfl) ?_
      have B0 : Below wr.heap.size wr wr.drew := Bwr.drew
      refine AnyH.take (i := 0) (d := some 26) (v := ?_) (by kernel_rfl) rfl rfl HF (fun _ _ _ h => h) (.inl ⟨by rfl, ?_⟩) (by first | assumption | rfl) ?_
      rotate_left
      · intro w hS; try subst hS
        go_simp; try with_reducible rfl
      try simp only [Act.put, List.setIfInBounds_toArray, List.set_cons_zero, List.set_cons_succ]
      refine AnyH.take (i := 1) (d := some 27) (v := ?_) (by kernel_rfl) rfl rfl HF (fun _ _ _ h => h) (.inl ⟨by rfl, ?_⟩) (by first | assumption | rfl) ?_
      rotate_left
      · intro w hS; try subst hS
        go_simp; try with_reducible rfl
      try simp only [Act.put, List.setIfInBounds_toArray, List.set_cons_zero, List.set_cons_succ]
      refine AnyH.take (i := 2) (d := some 28) (v := ?_) (by kernel_rfl) rfl rfl HF (fun _ _ _ h => h) (.inl ⟨by rfl, ?_⟩) (by first | assumption | rfl) ?_
      rotate_left
      · intro w hS; try subst hS
        go_simp; try with_reducible rfl
      try simp only [Act.put, List.setIfInBounds_toArray, List.set_cons_zero, List.set_cons_succ]
      refine AnyH.take (i := 3) (d := some 29) (v := ?_) (by kernel_rfl) rfl rfl HF (fun _ _ _ h => h) (.inl ⟨by rfl, ?_⟩) (by first | assumption | rfl) ?_
      rotate_left
      · intro w hS; try subst hS
        go_simp; try with_reducible rfl
      try simp only [Act.put, List.setIfInBounds_toArray, List.set_cons_zero, List.set_cons_succ]
      refine AnyH.take (i := 4) (d := some 30) (v := ?_) (by kernel_rfl) rfl rfl HF (fun _ _ _ h => h) (.inl ⟨by rfl, ?_⟩) (by first | assumption | rfl) ?_
      rotate_left
      · intro w hS; try subst hS
        go_simp; try with_reducible rfl
      try simp only [Act.put, List.setIfInBounds_toArray, List.set_cons_zero, List.set_cons_succ]
      refine AnyH.take (i := 5) (d := some 31) (v := ?_) (by kernel_rfl) rfl rfl HF (fun _ _ _ h => h) (.inl ⟨by rfl, ?_⟩) (by first | assumption | rfl) ?_
      rotate_left
      · intro w hS; try subst hS
        go_simp; try with_reducible rfl
      try simp only [Act.put, List.setIfInBounds_toArray, List.set_cons_zero, List.set_cons_succ]
      refine AnyH.take (i := 6) (d := some 7) (v := ?_) (by kernel_rfl) rfl rfl HF (fun _ _ _ h => h) (.inl ⟨by rfl, ?_⟩) (by first | assumption | rfl) ?_
      rotate_left
      · intro w hS; try subst hS
        go_simp; try with_reducible rfl
      try simp only [Act.put, List.setIfInBounds_toArray, List.set_cons_zero, List.set_cons_succ]
      refine AnyH.take (i := 7) (d := some 8) (v := ?_) (by kernel_rfl) rfl rfl HF (fun _ _ _ h => h) (.inl ⟨by rfl, ?_⟩) (by first | assumption | rfl) ?_
      rotate_left
      · intro w hS; try subst hS
        go_simp; try with_reducible rfl
      try simp only [Act.put, List.setIfInBounds_toArray, List.set_cons_zero, List.set_cons_succ]
      refine AnyH.done (by kernel_rfl) ?_
      refine NP.normal ?_
      obtain ⟨wa, hwa⟩ : ∃ w, wr.drew = w := ⟨_, rfl⟩
      rw [hwa] at B0
      rw [hwa]
      have Bwa := B0
      clear hwa B0
      have hcmp : x1 < y1 ∨ (¬ x1 < y1 ∧ y1 < x1) ∨ (¬ x1 < y1 ∧ ¬ y1 < x1 ∧ x1 = y1 ∧ x2 = y2) ∨ (¬ x1 < y1 ∧ ¬ y1 < x1 ∧ x1 = y1 ∧ x2 ≠ y2) := by
        by_cases x2 = y2 <;> omega
      rcases hcmp with h | ⟨h, h'⟩ | ⟨h, h', he, hv⟩ | ⟨h, h', he, hv⟩
      · have HC : Hid (chg ((x1, x2) :: xs') ((y1, y2) :: ys') = x1 :: chg xs' ((y1, y2) :: ys')) := Lib.hid (by rw [chg_cons, if_pos h])
        go_wp2_with fail
        refine wp_region_anyNP (Below wr.heap.size wr) (by kernel_rfl) ?_
        have B0 : Below wr.heap.size wr wa.drew := Bwa.drew
        refine AnyH.take (i := 0) (d := some 53) (v := ?_) (by kernel_rfl) rfl rfl HF (fun _ _ _ h => h) (.inl ⟨by rfl, ?_⟩) (by first | assumption | rfl) ?_
        rotate_left
        · intro w hS; try subst hS
          go_simp; try with_reducible rfl
        try simp only [Act.put, List.setIfInBounds_toArray, List.set_cons_zero, List.set_cons_succ]
        refine AnyH.take (i := 1) (d := some 54) (v := ?_) (by kernel_rfl) rfl rfl HF (fun _ _ _ h => h) (.inl ⟨by rfl, ?_⟩) (by first | assumption | rfl) ?_
        rotate_left
        · intro w hS; try subst hS
          go_simp; try with_reducible rfl
        try simp only [Act.put, List.setIfInBounds_toArray, List.set_cons_zero, List.set_cons_succ]
        refine AnyH.take (i := 2) (d := some 55) (v := ?_) (by kernel_rfl) rfl rfl HF (fun _ _ _ h => h) (.inl ⟨by rfl, ?_⟩) (by first | assumption | rfl) ?_
        rotate_left
        · intro w hS; try subst hS
          go_simp; try with_reducible rfl
        try simp only [Act.put, List.setIfInBounds_toArray, List.set_cons_zero, List.set_cons_succ]
        refine AnyH.take (i := 3) (d := some 56) (v := ?_) (by kernel_rfl) rfl rfl HF (fun _ _ _ h => h) (.inl ⟨by rfl, ?_⟩) (by first | assumption | rfl) ?_
        rotate_left
        · intro w hS; try subst hS
          go_simp; try with_reducible rfl
        try simp only [Act.put, List.setIfInBounds_toArray, List.set_cons_zero, List.set_cons_succ]
        refine AnyH.take (i := 4) (d := some 57) (v := ?_) (by kernel_rfl) rfl rfl HF (fun _ _ _ h => h) (.inl ⟨by rfl, ?_⟩) (by first | assumption | rfl) ?_
        rotate_left
        · intro w hS; try subst hS
          go_simp; try with_reducible rfl
        try simp only [Act.put, List.setIfInBounds_toArray, List.set_cons_zero, List.set_cons_succ]
        refine AnyH.take (i := 5) (d := some 58) (v := ?_) (by kernel_rfl) rfl rfl HF (fun _ _ _ h => h) (.inl ⟨by rfl, ?_⟩) (by first | assumption | rfl) ?_
        rotate_left
        · intro w hS; try subst hS
          go_simp; try with_reducible rfl
        try simp only [Act.put, List.setIfInBounds_toArray, List.set_cons_zero, List.set_cons_succ]
        refine AnyH.take (i := 6) (d := some 59) (v := ?_) (by kernel_rfl) rfl rfl HF (fun _ _ _ h => h) (.inl ⟨by rfl, ?_⟩) (by first | assumption | rfl) ?_
        rotate_left
        · intro w hS; try subst hS
          go_simp; try with_reducible rfl
        try simp only [Act.put, List.setIfInBounds_toArray, List.set_cons_zero, List.set_cons_succ]
        refine AnyH.take (i := 7) (d := some 60) (v := ?_) (by kernel_rfl) rfl rfl HF (fun _ _ _ h => h) (.inl ⟨by rfl, ?_⟩) (by first | assumption | rfl) ?_
        rotate_left
        · intro w hS; try subst hS
          go_simp; try with_reducible rfl
        try simp only [Act.put, List.setIfInBounds_toArray, List.set_cons_zero, List.set_cons_succ]
        refine AnyH.take (i := 8) (d := some 61) (v := ?_) (by kernel_rfl) rfl rfl HF (fun _ _ _ h => h) (.inl ⟨by rfl, ?_⟩) (by first | assumption | rfl) ?_
        rotate_left
        · intro w hS; try subst hS
          go_simp; try with_reducible rfl
        try simp only [Act.put, List.setIfInBounds_toArray, List.set_cons_zero, List.set_cons_succ]
        refine AnyH.take (i := 9) (d := some 52) (v := ?_) (by kernel_rfl) rfl rfl HF (fun _ _ _ h => h) (.inl ⟨by rfl, ?_⟩) (by first | assumption | rfl) ?_
        rotate_left
        · intro w hS; try subst hS
          go_simp; try with_reducible rfl
        try simp only [Act.put, List.setIfInBounds_toArray, List.set_cons_zero, List.set_cons_succ]
        refine AnyH.done (by kernel_rfl) ?_
        refine NP.normal ?_
        obtain ⟨wb, hwb⟩ : ∃ w, wa.drew = w := ⟨_, rfl⟩
        rw [hwb] at B0
        rw [hwb]
        have Bwb := B0
        clear hwb B0
        go_wp2_with fail
        refine wp_region_anyNP (Below wr.heap.size wr) (by kernel_rfl) ?_
        obtain ⟨wc, hwc⟩ : ∃ w, wb.drew = w := ⟨_, rfl⟩
        rw [hwc]
        have B0 : Below wr.heap.size wr wc := by rw [← hwc]; exact Bwb.drew
        have HSc := Lib.hid (HS.out.below B0); have HXc := Lib.hid (box_below B0 HX.out); have HBc := Lib.hid (Below.step HB.out B0)
        clear hwc
        refine AnyH.take (i := 0) (d := some 62) (v := ?_) (by kernel_rfl) rfl rfl HF (fun _ _ _ h => h) (.inl ⟨by rfl, ?_⟩) (by first | assumption | rfl) ?_
        rotate_left
        · intro w hS; try subst hS
          go_simp; try with_reducible rfl
        try simp only [Act.put, List.setIfInBounds_toArray, List.set_cons_zero, List.set_cons_succ]
        refine AnyH.take (i := 1) (d := some 63) (v := ?_) (by kernel_rfl) rfl rfl HF (fun _ _ _ h => h) (.inl ⟨by rfl, ?_⟩) (by first | assumption | rfl) ?_
        rotate_left
        · intro w hS; try subst hS
          go_simp; try with_reducible rfl
        try simp only [Act.put, List.setIfInBounds_toArray, List.set_cons_zero, List.set_cons_succ]
        refine AnyH.take (i := 2) (d := some 64) (v := ?_) (by kernel_rfl) rfl rfl HF (fun _ _ _ h => h) (.inl ⟨by rfl, ?_⟩) (by first | assumption | rfl) ?_
        rotate_left
        · intro w hS; try subst hS
          go_simp; try with_reducible rfl
        try simp only [Act.put, List.setIfInBounds_toArray, List.set_cons_zero, List.set_cons_succ]
        refine AnyH.take (i := 3) (d := some 65) (v := ?_) (by kernel_rfl) rfl rfl HF (fun _ _ _ h => h) (.inl ⟨by rfl, ?_⟩) (by first | assumption | rfl) ?_
        rotate_left
        · intro w hS; try subst hS
          go_simp; try with_reducible rfl
        try simp only [Act.put, List.setIfInBounds_toArray, List.set_cons_zero, List.set_cons_succ]
        refine AnyH.take (i := 4) (d := some 66) (v := ?_) (by kernel_rfl) rfl rfl HF (fun _ _ _ h => h) (.inl ⟨by rfl, ?_⟩) (by first | assumption | rfl) ?_
        rotate_left
        · intro w hS; try subst hS
          go_simp; try with_reducible rfl
        try simp only [Act.put, List.setIfInBounds_toArray, List.set_cons_zero, List.set_cons_succ]
        refine AnyH.one (i := 5) (by kernel_rfl) (by kernel_rfl) rfl HF (by rfl) (fun K hK => ?_)
        go_simp
        refine hK _ _ (B0.alloc B0.size _) ?_
        clear hK K
        try simp only [Act.put, List.setIfInBounds_toArray, List.set_cons_zero, List.set_cons_succ]
        refine AnyH.tailL 6 (by kernel_rfl) ?_
        simp only [List.drop_succ_cons, List.drop_zero]
        have HK24 := Lib.hid (KeepT.below (nt := 24) B0); have HK81 := Lib.hid (KeepT.below (nt := 81) B0)
        gi_wp2_with (
          gi_at_builtin
          refine wp_app1In (w0 := wc) (enc := encI) elemI (fun _ => rfl) rfl _ _ rfl rfl HSc.out x1 rfl rfl (by simp [encI, Value.oneCell']) HBY.out HBc.out.size ?_
          intro v2 w2 hS' hg hb'
          replace hg : (wc.alloc (.cells #[.int .i64 x1] 3)).grownBy w2 (Value.slice ra acc.length rc).ownBlock := hg
          obtain ⟨a2, cp2, hv2⟩ := hS'.len
          rw [List.length_append, List.length_singleton] at hv2
          subst hv2
          have x2 := app_other HSc.out hg HXc.out (by decide)
          have c5 := box_cell x2; have f5 := box_frozen x2
          have HN := Lib.hid (cs_app HSc.out HXc.out hg hS' hb' HB4.out)
          clear hS' hg hb' x2)
        obtain ⟨w3, hw3⟩ : ∃ w3, w2.setCell ⟨W.heap.size + 1 + 1, 0, none⟩ (.slice a2 (acc.length + 1) cp2) = w3 := ⟨_, rfl⟩
        rw [hw3] at HN
        refine NP.normal ?_
        rw [hw3]
        have HB3 := Lib.hid (HBc.out.trans HN.out.2.2.2.2)
        have HK1 := Lib.hid (KeepT.trans HK24.out HN.out.2.2.1); have HK2 := Lib.hid (KeepT.trans HK81.out HN.out.2.2.2.1)
        clear hw3 c5 f5 B0
        clear m1 m2 m3 m4 m5 m6 kr
        go_wp2_with fail
        exact ⟨⟨acc ++ [x1], xs', (y1, y2) :: ys', ps', q0 :: qs', _, HR1'.out.keep HK1.out, HN1.out.2.keep HK2.out, HR2.out.keep HK1.out, HN2.out.keep HK2.out, HN.out.1, HN.out.2.1, by rw [← HE.out, HC.out]; simp, by have := HL.out; simp only [List.length_append, List.length_cons, List.length_nil] at *; omega, HB3.out⟩, by simp [lenOf]⟩
      · have HC : Hid (chg ((x1, x2) :: xs') ((y1, y2) :: ys') = y1 :: chg ((x1, x2) :: xs') ys') := Lib.hid (by rw [chg_cons, if_neg h, if_pos h'])
        go_wp2_with fail
        refine wp_region_anyNP (Below wr.heap.size wr) (by kernel_rfl) ?_
        have B0 : Below wr.heap.size wr wa.drew := Bwa.drew
        refine AnyH.take (i := 0) (d := some 53) (v := ?_) (by kernel_rfl) rfl rfl HF (fun _ _ _ h => h) (.inl ⟨by rfl, ?_⟩) (by first | assumption | rfl) ?_
        rotate_left
        · intro w hS; try subst hS
          go_simp; try with_reducible rfl
        try simp only [Act.put, List.setIfInBounds_toArray, List.set_cons_zero, List.set_cons_succ]
        refine AnyH.take (i := 1) (d := some 54) (v := ?_) (by kernel_rfl) rfl rfl HF (fun _ _ _ h => h) (.inl ⟨by rfl, ?_⟩) (by first | assumption | rfl) ?_
        rotate_left
        · intro w hS; try subst hS
          go_simp; try with_reducible rfl
        try simp only [Act.put, List.setIfInBounds_toArray, List.set_cons_zero, List.set_cons_succ]
        refine AnyH.take (i := 2) (d := some 55) (v := ?_) (by kernel_rfl) rfl rfl HF (fun _ _ _ h => h) (.inl ⟨by rfl, ?_⟩) (by first | assumption | rfl) ?_
        rotate_left
        · intro w hS; try subst hS
          go_simp; try with_reducible rfl
        try simp only [Act.put, List.setIfInBounds_toArray, List.set_cons_zero, List.set_cons_succ]
        refine AnyH.take (i := 3) (d := some 56) (v := ?_) (by kernel_rfl) rfl rfl HF (fun _ _ _ h => h) (.inl ⟨by rfl, ?_⟩) (by first | assumption | rfl) ?_
        rotate_left
        · intro w hS; try subst hS
          go_simp; try with_reducible rfl
        try simp only [Act.put, List.setIfInBounds_toArray, List.set_cons_zero, List.set_cons_succ]
        refine AnyH.take (i := 4) (d := some 57) (v := ?_) (by kernel_rfl) rfl rfl HF (fun _ _ _ h => h) (.inl ⟨by rfl, ?_⟩) (by first | assumption | rfl) ?_
        rotate_left
        · intro w hS; try subst hS
          go_simp; try with_reducible rfl
        try simp only [Act.put, List.setIfInBounds_toArray, List.set_cons_zero, List.set_cons_succ]
        refine AnyH.take (i := 5) (d := some 58) (v := ?_) (by kernel_rfl) rfl rfl HF (fun _ _ _ h => h) (.inl ⟨by rfl, ?_⟩) (by first | assumption | rfl) ?_
        rotate_left
        · intro w hS; try subst hS
          go_simp; try with_reducible rfl
        try simp only [Act.put, List.setIfInBounds_toArray, List.set_cons_zero, List.set_cons_succ]
        refine AnyH.take (i := 6) (d := some 59) (v := ?_) (by kernel_rfl) rfl rfl HF (fun _ _ _ h => h) (.inl ⟨by rfl, ?_⟩) (by first | assumption | rfl) ?_
        rotate_left
        · intro w hS; try subst hS
          go_simp; try with_reducible rfl
        try simp only [Act.put, List.setIfInBounds_toArray, List.set_cons_zero, List.set_cons_succ]
        refine AnyH.take (i := 7) (d := some 60) (v := ?_) (by kernel_rfl) rfl rfl HF (fun _ _ _ h => h) (.inl ⟨by rfl, ?_⟩) (by first | assumption | rfl) ?_
        rotate_left
        · intro w hS; try subst hS
          go_simp; try with_reducible rfl
        try simp only [Act.put, List.setIfInBounds_toArray, List.set_cons_zero, List.set_cons_succ]
        refine AnyH.take (i := 8) (d := some 61) (v := ?_) (by kernel_rfl) rfl rfl HF (fun _ _ _ h => h) (.inl ⟨by rfl, ?_⟩) (by first | assumption | rfl) ?_
        rotate_left
        · intro w hS; try subst hS
          go_simp; try with_reducible rfl
        try simp only [Act.put, List.setIfInBounds_toArray, List.set_cons_zero, List.set_cons_succ]
        refine AnyH.take (i := 9) (d := some 52) (v := ?_) (by kernel_rfl) rfl rfl HF (fun _ _ _ h => h) (.inl ⟨by rfl, ?_⟩) (by first | assumption | rfl) ?_
        rotate_left
        · intro w hS; try subst hS
          go_simp; try with_reducible rfl
        try simp only [Act.put, List.setIfInBounds_toArray, List.set_cons_zero, List.set_cons_succ]
        refine AnyH.done (by kernel_rfl) ?_
        refine NP.normal ?_
        obtain ⟨wb, hwb⟩ : ∃ w, wa.drew = w := ⟨_, rfl⟩
        rw [hwb] at B0
        rw [hwb]
        have Bwb := B0
        clear hwb B0
        go_wp2_with fail
        refine wp_region_anyNP (Below wr.heap.size wr) (by kernel_rfl) ?_
        have B0 : Below wr.heap.size wr wb.drew := Bwb.drew
        refine AnyH.take (i := 0) (d := some 72) (v := ?_) (by kernel_rfl) rfl rfl HF (fun _ _ _ h => h) (.inl ⟨by rfl, ?_⟩) (by first | assumption | rfl) ?_
        rotate_left
        · intro w hS; try subst hS
          go_simp; try with_reducible rfl
        try simp only [Act.put, List.setIfInBounds_toArray, List.set_cons_zero, List.set_cons_succ]
        refine AnyH.take (i := 1) (d := some 73) (v := ?_) (by kernel_rfl) rfl rfl HF (fun _ _ _ h => h) (.inl ⟨by rfl, ?_⟩) (by first | assumption | rfl) ?_
        rotate_left
        · intro w hS; try subst hS
          go_simp; try with_reducible rfl
        try simp only [Act.put, List.setIfInBounds_toArray, List.set_cons_zero, List.set_cons_succ]
        refine AnyH.take (i := 2) (d := some 74) (v := ?_) (by kernel_rfl) rfl rfl HF (fun _ _ _ h => h) (.inl ⟨by rfl, ?_⟩) (by first | assumption | rfl) ?_
        rotate_left
        · intro w hS; try subst hS
          go_simp; try with_reducible rfl
        try simp only [Act.put, List.setIfInBounds_toArray, List.set_cons_zero, List.set_cons_succ]
        refine AnyH.take (i := 3) (d := some 75) (v := ?_) (by kernel_rfl) rfl rfl HF (fun _ _ _ h => h) (.inl ⟨by rfl, ?_⟩) (by first | assumption | rfl) ?_
        rotate_left
        · intro w hS; try subst hS
          go_simp; try with_reducible rfl
        try simp only [Act.put, List.setIfInBounds_toArray, List.set_cons_zero, List.set_cons_succ]
        refine AnyH.take (i := 4) (d := some 76) (v := ?_) (by kernel_rfl) rfl rfl HF (fun _ _ _ h => h) (.inl ⟨by rfl, ?_⟩) (by first | assumption | rfl) ?_
        rotate_left
        · intro w hS; try subst hS
          go_simp; try with_reducible rfl
        try simp only [Act.put, List.setIfInBounds_toArray, List.set_cons_zero, List.set_cons_succ]
        refine AnyH.take (i := 5) (d := some 77) (v := ?_) (by kernel_rfl) rfl rfl HF (fun _ _ _ h => h) (.inl ⟨by rfl, ?_⟩) (by first | assumption | rfl) ?_
        rotate_left
        · intro w hS; try subst hS
          go_simp; try with_reducible rfl
        try simp only [Act.put, List.setIfInBounds_toArray, List.set_cons_zero, List.set_cons_succ]
        refine AnyH.take (i := 6) (d := some 78) (v := ?_) (by kernel_rfl) rfl rfl HF (fun _ _ _ h => h) (.inl ⟨by rfl, ?_⟩) (by first | assumption | rfl) ?_
        rotate_left
        · intro w hS; try subst hS
          go_simp; try with_reducible rfl
        try simp only [Act.put, List.setIfInBounds_toArray, List.set_cons_zero, List.set_cons_succ]
        refine AnyH.take (i := 7) (d := some 79) (v := ?_) (by kernel_rfl) rfl rfl HF (fun _ _ _ h => h) (.inl ⟨by rfl, ?_⟩) (by first | assumption | rfl) ?_
        rotate_left
        · intro w hS; try subst hS
          go_simp; try with_reducible rfl
        try simp only [Act.put, List.setIfInBounds_toArray, List.set_cons_zero, List.set_cons_succ]
        refine AnyH.take (i := 8) (d := some 80) (v := ?_) (by kernel_rfl) rfl rfl HF (fun _ _ _ h => h) (.inl ⟨by rfl, ?_⟩) (by first | assumption | rfl) ?_
        rotate_left
        · intro w hS; try subst hS
          go_simp; try with_reducible rfl
        try simp only [Act.put, List.setIfInBounds_toArray, List.set_cons_zero, List.set_cons_succ]
        refine AnyH.take (i := 9) (d := some 71) (v := ?_) (by kernel_rfl) rfl rfl HF (fun _ _ _ h => h) (.inl ⟨by rfl, ?_⟩) (by first | assumption | rfl) ?_
        rotate_left
        · intro w hS; try subst hS
          go_simp; try with_reducible rfl
        try simp only [Act.put, List.setIfInBounds_toArray, List.set_cons_zero, List.set_cons_succ]
        refine AnyH.done (by kernel_rfl) ?_
        refine NP.normal ?_
        obtain ⟨wd, hwd⟩ : ∃ w, wb.drew = w := ⟨_, rfl⟩
        rw [hwd] at B0
        rw [hwd]
        have Bwd := B0
        clear hwd B0
        go_wp2_with fail
        refine wp_region_anyNP (Below wr.heap.size wr) (by kernel_rfl) ?_
        obtain ⟨wc, hwc⟩ : ∃ w, wd.drew = w := ⟨_, rfl⟩
        rw [hwc]
        have B0 : Below wr.heap.size wr wc := by rw [← hwc]; exact Bwd.drew
        have HSc := Lib.hid (HS.out.below B0); have HXc := Lib.hid (box_below B0 HX.out); have HBc := Lib.hid (Below.step HB.out B0)
        clear hwc
        refine AnyH.take (i := 0) (d := some 81) (v := ?_) (by kernel_rfl) rfl rfl HF (fun _ _ _ h => h) (.inl ⟨by rfl, ?_⟩) (by first | assumption | rfl) ?_
        rotate_left
        · intro w hS; try subst hS
          go_simp; try with_reducible rfl
        try simp only [Act.put, List.setIfInBounds_toArray, List.set_cons_zero, List.set_cons_succ]
        refine AnyH.take (i := 1) (d := some 82) (v := ?_) (by kernel_rfl) rfl rfl HF (fun _ _ _ h => h) (.inl ⟨by rfl, ?_⟩) (by first | assumption | rfl) ?_
        rotate_left
        · intro w hS; try subst hS
          go_simp; try with_reducible rfl
        try simp only [Act.put, List.setIfInBounds_toArray, List.set_cons_zero, List.set_cons_succ]
        refine AnyH.take (i := 2) (d := some 83) (v := ?_) (by kernel_rfl) rfl rfl HF (fun _ _ _ h => h) (.inl ⟨by rfl, ?_⟩) (by first | assumption | rfl) ?_
        rotate_left
        · intro w hS; try subst hS
          go_simp; try with_reducible rfl
        try simp only [Act.put, List.setIfInBounds_toArray, List.set_cons_zero, List.set_cons_succ]
        refine AnyH.take (i := 3) (d := some 84) (v := ?_) (by kernel_rfl) rfl rfl HF (fun _ _ _ h => h) (.inl ⟨by rfl, ?_⟩) (by first | assumption | rfl) ?_
        rotate_left
        · intro w hS; try subst hS
          go_simp; try with_reducible rfl
        try simp only [Act.put, List.setIfInBounds_toArray, List.set_cons_zero, List.set_cons_succ]
        refine AnyH.take (i := 4) (d := some 85) (v := ?_) (by kernel_rfl) rfl rfl HF (fun _ _ _ h => h) (.inl ⟨by rfl, ?_⟩) (by first | assumption | rfl) ?_
        rotate_left
        · intro w hS; try subst hS
          go_simp; try with_reducible rfl
        try simp only [Act.put, List.setIfInBounds_toArray, List.set_cons_zero, List.set_cons_succ]
        refine AnyH.one (i := 5) (by kernel_rfl) (by kernel_rfl) rfl HF (by rfl) (fun K hK => ?_)
        go_simp
        refine hK _ _ (B0.alloc B0.size _) ?_
        clear hK K
        try simp only [Act.put, List.setIfInBounds_toArray, List.set_cons_zero, List.set_cons_succ]
        refine AnyH.tailL 6 (by kernel_rfl) ?_
        simp only [List.drop_succ_cons, List.drop_zero]
        have HK24 := Lib.hid (KeepT.below (nt := 24) B0); have HK81 := Lib.hid (KeepT.below (nt := 81) B0)
        gi_wp2_with (
          gi_at_builtin
          refine wp_app1In (w0 := wc) (enc := encI) elemI (fun _ => rfl) rfl _ _ rfl rfl HSc.out y1 rfl rfl (by simp [encI, Value.oneCell']) HBY.out HBc.out.size ?_
          intro v2 w2 hS' hg hb'
          replace hg : (wc.alloc (.cells #[.int .i64 y1] 3)).grownBy w2 (Value.slice ra acc.length rc).ownBlock := hg
          obtain ⟨a2, cp2, hv2⟩ := hS'.len
          rw [List.length_append, List.length_singleton] at hv2
          subst hv2
          have x2 := app_other HSc.out hg HXc.out (by decide)
          have c5 := box_cell x2; have f5 := box_frozen x2
          have HN := Lib.hid (cs_app HSc.out HXc.out hg hS' hb' HB4.out)
          clear hS' hg hb' x2)
        obtain ⟨w3, hw3⟩ : ∃ w3, w2.setCell ⟨W.heap.size + 1 + 1, 0, none⟩ (.slice a2 (acc.length + 1) cp2) = w3 := ⟨_, rfl⟩
        rw [hw3] at HN
        refine NP.normal ?_
        rw [hw3]
        have HB3 := Lib.hid (HBc.out.trans HN.out.2.2.2.2)
        have HK1 := Lib.hid (KeepT.trans HK24.out HN.out.2.2.1); have HK2 := Lib.hid (KeepT.trans HK81.out HN.out.2.2.2.1)
        clear hw3 c5 f5 B0
        clear m1 m2 m3 m4 m5 m6 kr
        go_wp2_with fail
        exact ⟨⟨acc ++ [y1], (x1, x2) :: xs', ys', p0 :: ps', qs', _, HR1.out.keep HK1.out, HN1.out.keep HK2.out, HR2'.out.keep HK1.out, HN2.out.2.keep HK2.out, HN.out.1, HN.out.2.1, by rw [← HE.out, HC.out]; simp, by have := HL.out; simp only [List.length_append, List.length_cons, List.length_nil] at *; omega, HB3.out⟩, by simp [lenOf]⟩
      · have HC : Hid (chg ((x1, x2) :: xs') ((y1, y2) :: ys') = chg xs' ys') := Lib.hid (by rw [chg_cons, if_neg h, if_neg h', if_pos hv])
        have hvv : (x2 != y2) = false := by simpa using hv
        clear he hv
        go_wp2_with fail
        refine wp_region_anyNP (Below wr.heap.size wr) (by kernel_rfl) ?_
        have B0 : Below wr.heap.size wr wa.drew := Bwa.drew
        refine AnyH.take (i := 0) (d := some 53) (v := ?_) (by kernel_rfl) rfl rfl HF (fun _ _ _ h => h) (.inl ⟨by rfl, ?_⟩) (by first | assumption | rfl) ?_
        rotate_left
        · intro w hS; try subst hS
          go_simp; try with_reducible rfl
        try simp only [Act.put, List.setIfInBounds_toArray, List.set_cons_zero, List.set_cons_succ]
        refine AnyH.take (i := 1) (d := some 54) (v := ?_) (by kernel_rfl) rfl rfl HF (fun _ _ _ h => h) (.inl ⟨by rfl, ?_⟩) (by first | assumption | rfl) ?_
        rotate_left
        · intro w hS; try subst hS
          go_simp; try with_reducible rfl
        try simp only [Act.put, List.setIfInBounds_toArray, List.set_cons_zero, List.set_cons_succ]
        refine AnyH.take (i := 2) (d := some 55) (v := ?_) (by kernel_rfl) rfl rfl HF (fun _ _ _ h => h) (.inl ⟨by rfl, ?_⟩) (by first | assumption | rfl) ?_
        rotate_left
        · intro w hS; try subst hS
          go_simp; try with_reducible rfl
        try simp only [Act.put, List.setIfInBounds_toArray, List.set_cons_zero, List.set_cons_succ]
        refine AnyH.take (i := 3) (d := some 56) (v := ?_) (by kernel_rfl) rfl rfl HF (fun _ _ _ h => h) (.inl ⟨by rfl, ?_⟩) (by first | assumption | rfl) ?_
        rotate_left
        · intro w hS; try subst hS
          go_simp; try with_reducible rfl
        try simp only [Act.put, List.setIfInBounds_toArray, List.set_cons_zero, List.set_cons_succ]
        refine AnyH.take (i := 4) (d := some 57) (v := ?_) (by kernel_rfl) rfl rfl HF (fun _ _ _ h => h) (.inl ⟨by rfl, ?_⟩) (by first | assumption | rfl) ?_
        rotate_left
        · intro w hS; try subst hS
          go_simp; try with_reducible rfl
        try simp only [Act.put, List.setIfInBounds_toArray, List.set_cons_zero, List.set_cons_succ]
        refine AnyH.take (i := 5) (d := some 58) (v := ?_) (by kernel_rfl) rfl rfl HF (fun _ _ _ h => h) (.inl ⟨by rfl, ?_⟩) (by first | assumption | rfl) ?_
        rotate_left
        · intro w hS; try subst hS
          go_simp; try with_reducible rfl
        try simp only [Act.put, List.setIfInBounds_toArray, List.set_cons_zero, List.set_cons_succ]
        refine AnyH.take (i := 6) (d := some 59) (v := ?_) (by kernel_rfl) rfl rfl HF (fun _ _ _ h => h) (.inl ⟨by rfl, ?_⟩) (by first | assumption | rfl) ?_
        rotate_left
        · intro w hS; try subst hS
          go_simp; try with_reducible rfl
        try simp only [Act.put, List.setIfInBounds_toArray, List.set_cons_zero, List.set_cons_succ]
        refine AnyH.take (i := 7) (d := some 60) (v := ?_) (by kernel_rfl) rfl rfl HF (fun _ _ _ h => h) (.inl ⟨by rfl, ?_⟩) (by first | assumption | rfl) ?_
        rotate_left
        · intro w hS; try subst hS
          go_simp; try with_reducible rfl
        try simp only [Act.put, List.setIfInBounds_toArray, List.set_cons_zero, List.set_cons_succ]
        refine AnyH.take (i := 8) (d := some 61) (v := ?_) (by kernel_rfl) rfl rfl HF (fun _ _ _ h => h) (.inl ⟨by rfl, ?_⟩) (by first | assumption | rfl) ?_
        rotate_left
        · intro w hS; try subst hS
          go_simp; try with_reducible rfl
        try simp only [Act.put, List.setIfInBounds_toArray, List.set_cons_zero, List.set_cons_succ]
        refine AnyH.take (i := 9) (d := some 52) (v := ?_) (by kernel_rfl) rfl rfl HF (fun _ _ _ h => h) (.inl ⟨by rfl, ?_⟩) (by first | assumption | rfl) ?_
        rotate_left
        · intro w hS; try subst hS
          go_simp; try with_reducible rfl
        try simp only [Act.put, List.setIfInBounds_toArray, List.set_cons_zero, List.set_cons_succ]
        refine AnyH.done (by kernel_rfl) ?_
        refine NP.normal ?_
        obtain ⟨wb, hwb⟩ : ∃ w, wa.drew = w := ⟨_, rfl⟩
        rw [hwb] at B0
        rw [hwb]
        have Bwb := B0
        clear hwb B0
        go_wp2_with fail
        refine wp_region_anyNP (Below wr.heap.size wr) (by kernel_rfl) ?_
        have B0 : Below wr.heap.size wr wb.drew := Bwb.drew
        refine AnyH.take (i := 0) (d := some 72) (v := ?_) (by kernel_rfl) rfl rfl HF (fun _ _ _ h => h) (.inl ⟨by rfl, ?_⟩) (by first | assumption | rfl) ?_
        rotate_left
        · intro w hS; try subst hS
          go_simp; try with_reducible rfl
        try simp only [Act.put, List.setIfInBounds_toArray, List.set_cons_zero, List.set_cons_succ]
        refine AnyH.take (i := 1) (d := some 73) (v := ?_) (by kernel_rfl) rfl rfl HF (fun _ _ _ h => h) (.inl ⟨by rfl, ?_⟩) (by first | assumption | rfl) ?_
        rotate_left
        · intro w hS; try subst hS
          go_simp; try with_reducible rfl
        try simp only [Act.put, List.setIfInBounds_toArray, List.set_cons_zero, List.set_cons_succ]
        refine AnyH.take (i := 2) (d := some 74) (v := ?_) (by kernel_rfl) rfl rfl HF (fun _ _ _ h => h) (.inl ⟨by rfl, ?_⟩) (by first | assumption | rfl) ?_
        rotate_left
        · intro w hS; try subst hS
          go_simp; try with_reducible rfl
        try simp only [Act.put, List.setIfInBounds_toArray, List.set_cons_zero, List.set_cons_succ]
        refine AnyH.take (i := 3) (d := some 75) (v := ?_) (by kernel_rfl) rfl rfl HF (fun _ _ _ h => h) (.inl ⟨by rfl, ?_⟩) (by first | assumption | rfl) ?_
        rotate_left
        · intro w hS; try subst hS
          go_simp; try with_reducible rfl
        try simp only [Act.put, List.setIfInBounds_toArray, List.set_cons_zero, List.set_cons_succ]
        refine AnyH.take (i := 4) (d := some 76) (v := ?_) (by kernel_rfl) rfl rfl HF (fun _ _ _ h => h) (.inl ⟨by rfl, ?_⟩) (by first | assumption | rfl) ?_
        rotate_left
        · intro w hS; try subst hS
          go_simp; try with_reducible rfl
        try simp only [Act.put, List.setIfInBounds_toArray, List.set_cons_zero, List.set_cons_succ]
        refine AnyH.take (i := 5) (d := some 77) (v := ?_) (by kernel_rfl) rfl rfl HF (fun _ _ _ h => h) (.inl ⟨by rfl, ?_⟩) (by first | assumption | rfl) ?_
        rotate_left
        · intro w hS; try subst hS
          go_simp; try with_reducible rfl
        try simp only [Act.put, List.setIfInBounds_toArray, List.set_cons_zero, List.set_cons_succ]
        refine AnyH.take (i := 6) (d := some 78) (v := ?_) (by kernel_rfl) rfl rfl HF (fun _ _ _ h => h) (.inl ⟨by rfl, ?_⟩) (by first | assumption | rfl) ?_
        rotate_left
        · intro w hS; try subst hS
          go_simp; try with_reducible rfl
        try simp only [Act.put, List.setIfInBounds_toArray, List.set_cons_zero, List.set_cons_succ]
        refine AnyH.take (i := 7) (d := some 79) (v := ?_) (by kernel_rfl) rfl rfl HF (fun _ _ _ h => h) (.inl ⟨by rfl, ?_⟩) (by first | assumption | rfl) ?_
        rotate_left
        · intro w hS; try subst hS
          go_simp; try with_reducible rfl
        try simp only [Act.put, List.setIfInBounds_toArray, List.set_cons_zero, List.set_cons_succ]
        refine AnyH.take (i := 8) (d := some 80) (v := ?_) (by kernel_rfl) rfl rfl HF (fun _ _ _ h => h) (.inl ⟨by rfl, ?_⟩) (by first | assumption | rfl) ?_
        rotate_left
        · intro w hS; try subst hS
          go_simp; try with_reducible rfl
        try simp only [Act.put, List.setIfInBounds_toArray, List.set_cons_zero, List.set_cons_succ]
        refine AnyH.take (i := 9) (d := some 71) (v := ?_) (by kernel_rfl) rfl rfl HF (fun _ _ _ h => h) (.inl ⟨by rfl, ?_⟩) (by first | assumption | rfl) ?_
        rotate_left
        · intro w hS; try subst hS
          go_simp; try with_reducible rfl
        try simp only [Act.put, List.setIfInBounds_toArray, List.set_cons_zero, List.set_cons_succ]
        refine AnyH.done (by kernel_rfl) ?_
        refine NP.normal ?_
        obtain ⟨wd, hwd⟩ : ∃ w, wb.drew = w := ⟨_, rfl⟩
        rw [hwd] at B0
        rw [hwd]
        have Bwd := B0
        clear hwd B0
        go_wp2_with fail
        refine wp_region_anyNP (Below wr.heap.size wr) (by kernel_rfl) ?_
        have B0 : Below wr.heap.size wr wd.drew := Bwd.drew
        refine AnyH.take (i := 0) (d := some 32) (v := ?_) (by kernel_rfl) rfl rfl HF (fun _ _ _ h => h) (.inl ⟨by rfl, ?_⟩) (by first | assumption | rfl) ?_
        rotate_left
        · intro w hS; try subst hS
          go_simp; try with_reducible rfl
        try simp only [Act.put, List.setIfInBounds_toArray, List.set_cons_zero, List.set_cons_succ]
        refine AnyH.take (i := 1) (d := some 33) (v := ?_) (by kernel_rfl) rfl rfl HF (fun _ _ _ h => h) (.inl ⟨by rfl, ?_⟩) (by first | assumption | rfl) ?_
        rotate_left
        · intro w hS; try subst hS
          go_simp; try with_reducible rfl
        try simp only [Act.put, List.setIfInBounds_toArray, List.set_cons_zero, List.set_cons_succ]
        refine AnyH.take (i := 2) (d := some 34) (v := ?_) (by kernel_rfl) rfl rfl HF (fun _ _ _ h => h) (.inl ⟨by rfl, ?_⟩) (by first | assumption | rfl) ?_
        rotate_left
        · intro w hS; try subst hS
          go_simp; try with_reducible rfl
        try simp only [Act.put, List.setIfInBounds_toArray, List.set_cons_zero, List.set_cons_succ]
        refine AnyH.take (i := 3) (d := some 35) (v := ?_) (by kernel_rfl) rfl rfl HF (fun _ _ _ h => h) (.inl ⟨by rfl, ?_⟩) (by first | assumption | rfl) ?_
        rotate_left
        · intro w hS; try subst hS
          go_simp; try with_reducible rfl
        try simp only [Act.put, List.setIfInBounds_toArray, List.set_cons_zero, List.set_cons_succ]
        refine AnyH.take (i := 4) (d := some 36) (v := ?_) (by kernel_rfl) rfl rfl HF (fun _ _ _ h => h) (.inl ⟨by rfl, ?_⟩) (by first | assumption | rfl) ?_
        rotate_left
        · intro w hS; try subst hS
          go_simp; try with_reducible rfl
        try simp only [Act.put, List.setIfInBounds_toArray, List.set_cons_zero, List.set_cons_succ]
        refine AnyH.take (i := 5) (d := some 37) (v := ?_) (by kernel_rfl) rfl rfl HF (fun _ _ _ h => h) (.inl ⟨by rfl, ?_⟩) (by first | assumption | rfl) ?_
        rotate_left
        · intro w hS; try subst hS
          go_simp; try with_reducible rfl
        try simp only [Act.put, List.setIfInBounds_toArray, List.set_cons_zero, List.set_cons_succ]
        refine AnyH.take (i := 6) (d := some 38) (v := ?_) (by kernel_rfl) rfl rfl HF (fun _ _ _ h => h) (.inl ⟨by rfl, ?_⟩) (by first | assumption | rfl) ?_
        rotate_left
        · intro w hS; try subst hS
          go_simp; try with_reducible rfl
        try simp only [Act.put, List.setIfInBounds_toArray, List.set_cons_zero, List.set_cons_succ]
        refine AnyH.take (i := 7) (d := some 39) (v := ?_) (by kernel_rfl) rfl rfl HF (fun _ _ _ h => h) (.inl ⟨by rfl, ?_⟩) (by first | assumption | rfl) ?_
        rotate_left
        · intro w hS; try subst hS
          go_simp; try with_reducible rfl
        try simp only [Act.put, List.setIfInBounds_toArray, List.set_cons_zero, List.set_cons_succ]
        refine AnyH.take (i := 8) (d := some 40) (v := ?_) (by kernel_rfl) rfl rfl HF (fun _ _ _ h => h) (.inl ⟨by rfl, ?_⟩) (by first | assumption | rfl) ?_
        rotate_left
        · intro w hS; try subst hS
          go_simp; try with_reducible rfl
        try simp only [Act.put, List.setIfInBounds_toArray, List.set_cons_zero, List.set_cons_succ]
        refine AnyH.done (by kernel_rfl) ?_
        refine NP.normal ?_
        obtain ⟨we0, hwe0⟩ : ∃ w, wd.drew = w := ⟨_, rfl⟩
        rw [hwe0] at B0
        rw [hwe0]
        have Bwe0 := B0
        clear hwe0 B0
        go_wp2_with fail
        refine wp_region_anyNP (Below wr.heap.size wr) (by kernel_rfl) ?_
        have B0 : Below wr.heap.size wr we0.drew := Bwe0.drew
        refine AnyH.take (i := 0) (d := some 48) (v := ?_) (by kernel_rfl) rfl rfl HF (fun _ _ _ h => h) (.inl ⟨by rfl, ?_⟩) (by first | assumption | rfl) ?_
        rotate_left
        · intro w hS; try subst hS
          go_simp; try with_reducible rfl
        try simp only [Act.put, List.setIfInBounds_toArray, List.set_cons_zero, List.set_cons_succ]
        refine AnyH.take (i := 1) (d := some 49) (v := ?_) (by kernel_rfl) rfl rfl HF (fun _ _ _ h => h) (.inl ⟨by rfl, ?_⟩) (by first | assumption | rfl) ?_
        rotate_left
        · intro w hS; try subst hS
          go_simp; try with_reducible rfl
        try simp only [Act.put, List.setIfInBounds_toArray, List.set_cons_zero, List.set_cons_succ]
        refine AnyH.take (i := 2) (d := some 50) (v := ?_) (by kernel_rfl) rfl rfl HF (fun _ _ _ h => h) (.inl ⟨by rfl, ?_⟩) (by first | assumption | rfl) ?_
        rotate_left
        · intro w hS; try subst hS
          go_simp; try with_reducible rfl
        try simp only [Act.put, List.setIfInBounds_toArray, List.set_cons_zero, List.set_cons_succ]
        refine AnyH.take (i := 3) (d := some 51) (v := ?_) (by kernel_rfl) rfl rfl HF (fun _ _ _ h => h) (.inl ⟨by rfl, ?_⟩) (by first | assumption | rfl) ?_
        rotate_left
        · intro w hS; try subst hS
          go_simp; try with_reducible rfl
        try simp only [Act.put, List.setIfInBounds_toArray, List.set_cons_zero, List.set_cons_succ]
        refine AnyH.take (i := 4) (d := some 5) (v := ?_) (by kernel_rfl) rfl rfl HF (fun _ _ _ h => h) (.inl ⟨by rfl, ?_⟩) (by first | assumption | rfl) ?_
        rotate_left
        · intro w hS; try subst hS
          go_simp; try with_reducible rfl
        try simp only [Act.put, List.setIfInBounds_toArray, List.set_cons_zero, List.set_cons_succ]
        refine AnyH.take (i := 5) (d := some 6) (v := ?_) (by kernel_rfl) rfl rfl HF (fun _ _ _ h => h) (.inl ⟨by rfl, ?_⟩) (by first | assumption | rfl) ?_
        rotate_left
        · intro w hS; try subst hS
          go_simp; try with_reducible rfl
        try simp only [Act.put, List.setIfInBounds_toArray, List.set_cons_zero, List.set_cons_succ]
        refine AnyH.done (by kernel_rfl) ?_
        refine NP.normal ?_
        obtain ⟨we, hwe⟩ : ∃ w, we0.drew = w := ⟨_, rfl⟩
        rw [hwe] at B0
        rw [hwe]
        have Bwe := B0
        clear hwe B0
        clear m1 m2 m3 m4 m5 m6 kr
        go_wp2_with fail
        have hk1 : KeepT 24 wr we := KeepT.below Bwe
        have hk2 : KeepT 81 wr we := KeepT.below Bwe
        exact ⟨⟨acc, xs', ys', ps', qs', _, HR1'.out.keep hk1, HN1.out.2.keep hk2, HR2'.out.keep hk1, HN2.out.2.keep hk2, box_below Bwe HX.out, HS.out.below Bwe, by rw [← HE.out, HC.out], by have := HL.out; simp only [List.length_append, List.length_cons, List.length_nil] at *; omega, Below.step HB.out Bwe⟩, by simp [lenOf]; omega⟩
      · have HC : Hid (chg ((x1, x2) :: xs') ((y1, y2) :: ys') = x1 :: chg xs' ys') := Lib.hid (by rw [chg_cons, if_neg h, if_neg h', if_neg hv])
        have hvv : (x2 != y2) = true := by simpa using hv
        clear he hv
        go_wp2_with fail
        refine wp_region_anyNP (Below wr.heap.size wr) (by kernel_rfl) ?_
        have B0 : Below wr.heap.size wr wa.drew := Bwa.drew
        refine AnyH.take (i := 0) (d := some 53) (v := ?_) (by kernel_rfl) rfl rfl HF (fun _ _ _ h => h) (.inl ⟨by rfl, ?_⟩) (by first | assumption | rfl) ?_
        rotate_left
        · intro w hS; try subst hS
          go_simp; try with_reducible rfl
        try simp only [Act.put, List.setIfInBounds_toArray, List.set_cons_zero, List.set_cons_succ]
        refine AnyH.take (i := 1) (d := some 54) (v := ?_) (by kernel_rfl) rfl rfl HF (fun _ _ _ h => h) (.inl ⟨by rfl, ?_⟩) (by first | assumption | rfl) ?_
        rotate_left
        · intro w hS; try subst hS
          go_simp; try with_reducible rfl
        try simp only [Act.put, List.setIfInBounds_toArray, List.set_cons_zero, List.set_cons_succ]
        refine AnyH.take (i := 2) (d := some 55) (v := ?_) (by kernel_rfl) rfl rfl HF (fun _ _ _ h => h) (.inl ⟨by rfl, ?_⟩) (by first | assumption | rfl) ?_
        rotate_left
        · intro w hS; try subst hS
          go_simp; try with_reducible rfl
        try simp only [Act.put, List.setIfInBounds_toArray, List.set_cons_zero, List.set_cons_succ]
        refine AnyH.take (i := 3) (d := some 56) (v := ?_) (by kernel_rfl) rfl rfl HF (fun _ _ _ h => h) (.inl ⟨by rfl, ?_⟩) (by first | assumption | rfl) ?_
        rotate_left
        · intro w hS; try subst hS
          go_simp; try with_reducible rfl
        try simp only [Act.put, List.setIfInBounds_toArray, List.set_cons_zero, List.set_cons_succ]
        refine AnyH.take (i := 4) (d := some 57) (v := ?_) (by kernel_rfl) rfl rfl HF (fun _ _ _ h => h) (.inl ⟨by rfl, ?_⟩) (by first | assumption | rfl) ?_
        rotate_left
        · intro w hS; try subst hS
          go_simp; try with_reducible rfl
        try simp only [Act.put, List.setIfInBounds_toArray, List.set_cons_zero, List.set_cons_succ]
        refine AnyH.take (i := 5) (d := some 58) (v := ?_) (by kernel_rfl) rfl rfl HF (fun _ _ _ h => h) (.inl ⟨by rfl, ?_⟩) (by first | assumption | rfl) ?_
        rotate_left
        · intro w hS; try subst hS
          go_simp; try with_reducible rfl
        try simp only [Act.put, List.setIfInBounds_toArray, List.set_cons_zero, List.set_cons_succ]
        refine AnyH.take (i := 6) (d := some 59) (v := ?_) (by kernel_rfl) rfl rfl HF (fun _ _ _ h => h) (.inl ⟨by rfl, ?_⟩) (by first | assumption | rfl) ?_
        rotate_left
        · intro w hS; try subst hS
          go_simp; try with_reducible rfl
        try simp only [Act.put, List.setIfInBounds_toArray, List.set_cons_zero, List.set_cons_succ]
        refine AnyH.take (i := 7) (d := some 60) (v := ?_) (by kernel_rfl) rfl rfl HF (fun _ _ _ h => h) (.inl ⟨by rfl, ?_⟩) (by first | assumption | rfl) ?_
        rotate_left
        · intro w hS; try subst hS
          go_simp; try with_reducible rfl
        try simp only [Act.put, List.setIfInBounds_toArray, List.set_cons_zero, List.set_cons_succ]
        refine AnyH.take (i := 8) (d := some 61) (v := ?_) (by kernel_rfl) rfl rfl HF (fun _ _ _ h => h) (.inl ⟨by rfl, ?_⟩) (by first | assumption | rfl) ?_
        rotate_left
        · intro w hS; try subst hS
          go_simp; try with_reducible rfl
        try simp only [Act.put, List.setIfInBounds_toArray, List.set_cons_zero, List.set_cons_succ]
        refine AnyH.take (i := 9) (d := some 52) (v := ?_) (by kernel_rfl) rfl rfl HF (fun _ _ _ h => h) (.inl ⟨by rfl, ?_⟩) (by first | assumption | rfl) ?_
        rotate_left
        · intro w hS; try subst hS
          go_simp; try with_reducible rfl
        try simp only [Act.put, List.setIfInBounds_toArray, List.set_cons_zero, List.set_cons_succ]
        refine AnyH.done (by kernel_rfl) ?_
        refine NP.normal ?_
        obtain ⟨wb, hwb⟩ : ∃ w, wa.drew = w := ⟨_, rfl⟩
        rw [hwb] at B0
        rw [hwb]
        have Bwb := B0
        clear hwb B0
        go_wp2_with fail
        refine wp_region_anyNP (Below wr.heap.size wr) (by kernel_rfl) ?_
        have B0 : Below wr.heap.size wr wb.drew := Bwb.drew
        refine AnyH.take (i := 0) (d := some 72) (v := ?_) (by kernel_rfl) rfl rfl HF (fun _ _ _ h => h) (.inl ⟨by rfl, ?_⟩) (by first | assumption | rfl) ?_
        rotate_left
        · intro w hS; try subst hS
          go_simp; try with_reducible rfl
        try simp only [Act.put, List.setIfInBounds_toArray, List.set_cons_zero, List.set_cons_succ]
        refine AnyH.take (i := 1) (d := some 73) (v := ?_) (by kernel_rfl) rfl rfl HF (fun _ _ _ h => h) (.inl ⟨by rfl, ?_⟩) (by first | assumption | rfl) ?_
        rotate_left
        · intro w hS; try subst hS
          go_simp; try with_reducible rfl
        try simp only [Act.put, List.setIfInBounds_toArray, List.set_cons_zero, List.set_cons_succ]
        refine AnyH.take (i := 2) (d := some 74) (v := ?_) (by kernel_rfl) rfl rfl HF (fun _ _ _ h => h) (.inl ⟨by rfl, ?_⟩) (by first | assumption | rfl) ?_
        rotate_left
        · intro w hS; try subst hS
          go_simp; try with_reducible rfl
        try simp only [Act.put, List.setIfInBounds_toArray, List.set_cons_zero, List.set_cons_succ]
        refine AnyH.take (i := 3) (d := some 75) (v := ?_) (by kernel_rfl) rfl rfl HF (fun _ _ _ h => h) (.inl ⟨by rfl, ?_⟩) (by first | assumption | rfl) ?_
        rotate_left
        · intro w hS; try subst hS
          go_simp; try with_reducible rfl
        try simp only [Act.put, List.setIfInBounds_toArray, List.set_cons_zero, List.set_cons_succ]
        refine AnyH.take (i := 4) (d := some 76) (v := ?_) (by kernel_rfl) rfl rfl HF (fun _ _ _ h => h) (.inl ⟨by rfl, ?_⟩) (by first | assumption | rfl) ?_
        rotate_left
        · intro w hS; try subst hS
          go_simp; try with_reducible rfl
        try simp only [Act.put, List.setIfInBounds_toArray, List.set_cons_zero, List.set_cons_succ]
        refine AnyH.take (i := 5) (d := some 77) (v := ?_) (by kernel_rfl) rfl rfl HF (fun _ _ _ h => h) (.inl ⟨by rfl, ?_⟩) (by first | assumption | rfl) ?_
        rotate_left
        · intro w hS; try subst hS
          go_simp; try with_reducible rfl
        try simp only [Act.put, List.setIfInBounds_toArray, List.set_cons_zero, List.set_cons_succ]
        refine AnyH.take (i := 6) (d := some 78) (v := ?_) (by kernel_rfl) rfl rfl HF (fun _ _ _ h => h) (.inl ⟨by rfl, ?_⟩) (by first | assumption | rfl) ?_
        rotate_left
        · intro w hS; try subst hS
          go_simp; try with_reducible rfl
        try simp only [Act.put, List.setIfInBounds_toArray, List.set_cons_zero, List.set_cons_succ]
        refine AnyH.take (i := 7) (d := some 79) (v := ?_) (by kernel_rfl) rfl rfl HF (fun _ _ _ h => h) (.inl ⟨by rfl, ?_⟩) (by first | assumption | rfl) ?_
        rotate_left
        · intro w hS; try subst hS
          go_simp; try with_reducible rfl
        try simp only [Act.put, List.setIfInBounds_toArray, List.set_cons_zero, List.set_cons_succ]
        refine AnyH.take (i := 8) (d := some 80) (v := ?_) (by kernel_rfl) rfl rfl HF (fun _ _ _ h => h) (.inl ⟨by rfl, ?_⟩) (by first | assumption | rfl) ?_
        rotate_left
        · intro w hS; try subst hS
          go_simp; try with_reducible rfl
        try simp only [Act.put, List.setIfInBounds_toArray, List.set_cons_zero, List.set_cons_succ]
        refine AnyH.take (i := 9) (d := some 71) (v := ?_) (by kernel_rfl) rfl rfl HF (fun _ _ _ h => h) (.inl ⟨by rfl, ?_⟩) (by first | assumption | rfl) ?_
        rotate_left
        · intro w hS; try subst hS
          go_simp; try with_reducible rfl
        try simp only [Act.put, List.setIfInBounds_toArray, List.set_cons_zero, List.set_cons_succ]
        refine AnyH.done (by kernel_rfl) ?_
        refine NP.normal ?_
        obtain ⟨wd, hwd⟩ : ∃ w, wb.drew = w := ⟨_, rfl⟩
        rw [hwd] at B0
        rw [hwd]
        have Bwd := B0
        clear hwd B0
        go_wp2_with fail
        refine wp_region_anyNP (Below wr.heap.size wr) (by kernel_rfl) ?_
        have B0 : Below wr.heap.size wr wd.drew := Bwd.drew
        refine AnyH.take (i := 0) (d := some 32) (v := ?_) (by kernel_rfl) rfl rfl HF (fun _ _ _ h => h) (.inl ⟨by rfl, ?_⟩) (by first | assumption | rfl) ?_
        rotate_left
        · intro w hS; try subst hS
          go_simp; try with_reducible rfl
        try simp only [Act.put, List.setIfInBounds_toArray, List.set_cons_zero, List.set_cons_succ]
        refine AnyH.take (i := 1) (d := some 33) (v := ?_) (by kernel_rfl) rfl rfl HF (fun _ _ _ h => h) (.inl ⟨by rfl, ?_⟩) (by first | assumption | rfl) ?_
        rotate_left
        · intro w hS; try subst hS
          go_simp; try with_reducible rfl
        try simp only [Act.put, List.setIfInBounds_toArray, List.set_cons_zero, List.set_cons_succ]
        refine AnyH.take (i := 2) (d := some 34) (v := ?_) (by kernel_rfl) rfl rfl HF (fun _ _ _ h => h) (.inl ⟨by rfl, ?_⟩) (by first | assumption | rfl) ?_
        rotate_left
        · intro w hS; try subst hS
          go_simp; try with_reducible rfl
        try simp only [Act.put, List.setIfInBounds_toArray, List.set_cons_zero, List.set_cons_succ]
        refine AnyH.take (i := 3) (d := some 35) (v := ?_) (by kernel_rfl) rfl rfl HF (fun _ _ _ h => h) (.inl ⟨by rfl, ?_⟩) (by first | assumption | rfl) ?_
        rotate_left
        · intro w hS; try subst hS
          go_simp; try with_reducible rfl
        try simp only [Act.put, List.setIfInBounds_toArray, List.set_cons_zero, List.set_cons_succ]
        refine AnyH.take (i := 4) (d := some 36) (v := ?_) (by kernel_rfl) rfl rfl HF (fun _ _ _ h => h) (.inl ⟨by rfl, ?_⟩) (by first | assumption | rfl) ?_
        rotate_left
        · intro w hS; try subst hS
          go_simp; try with_reducible rfl
        try simp only [Act.put, List.setIfInBounds_toArray, List.set_cons_zero, List.set_cons_succ]
        refine AnyH.take (i := 5) (d := some 37) (v := ?_) (by kernel_rfl) rfl rfl HF (fun _ _ _ h => h) (.inl ⟨by rfl, ?_⟩) (by first | assumption | rfl) ?_
        rotate_left
        · intro w hS; try subst hS
          go_simp; try with_reducible rfl
        try simp only [Act.put, List.setIfInBounds_toArray, List.set_cons_zero, List.set_cons_succ]
        refine AnyH.take (i := 6) (d := some 38) (v := ?_) (by kernel_rfl) rfl rfl HF (fun _ _ _ h => h) (.inl ⟨by rfl, ?_⟩) (by first | assumption | rfl) ?_
        rotate_left
        · intro w hS; try subst hS
          go_simp; try with_reducible rfl
        try simp only [Act.put, List.setIfInBounds_toArray, List.set_cons_zero, List.set_cons_succ]
        refine AnyH.take (i := 7) (d := some 39) (v := ?_) (by kernel_rfl) rfl rfl HF (fun _ _ _ h => h) (.inl ⟨by rfl, ?_⟩) (by first | assumption | rfl) ?_
        rotate_left
        · intro w hS; try subst hS
          go_simp; try with_reducible rfl
        try simp only [Act.put, List.setIfInBounds_toArray, List.set_cons_zero, List.set_cons_succ]
        refine AnyH.take (i := 8) (d := some 40) (v := ?_) (by kernel_rfl) rfl rfl HF (fun _ _ _ h => h) (.inl ⟨by rfl, ?_⟩) (by first | assumption | rfl) ?_
        rotate_left
        · intro w hS; try subst hS
          go_simp; try with_reducible rfl
        try simp only [Act.put, List.setIfInBounds_toArray, List.set_cons_zero, List.set_cons_succ]
        refine AnyH.done (by kernel_rfl) ?_
        refine NP.normal ?_
        obtain ⟨we0, hwe0⟩ : ∃ w, wd.drew = w := ⟨_, rfl⟩
        rw [hwe0] at B0
        rw [hwe0]
        have Bwe0 := B0
        clear hwe0 B0
        go_wp2_with fail
        refine wp_region_anyNP (Below wr.heap.size wr) (by kernel_rfl) ?_
        obtain ⟨wc, hwc⟩ : ∃ w, we0.drew = w := ⟨_, rfl⟩
        rw [hwc]
        have B0 : Below wr.heap.size wr wc := by rw [← hwc]; exact Bwe0.drew
        have HSc := Lib.hid (HS.out.below B0); have HXc := Lib.hid (box_below B0 HX.out); have HBc := Lib.hid (Below.step HB.out B0)
        clear hwc
        refine AnyH.take (i := 0) (d := some 41) (v := ?_) (by kernel_rfl) rfl rfl HF (fun _ _ _ h => h) (.inl ⟨by rfl, ?_⟩) (by first | assumption | rfl) ?_
        rotate_left
        · intro w hS; try subst hS
          go_simp; try with_reducible rfl
        try simp only [Act.put, List.setIfInBounds_toArray, List.set_cons_zero, List.set_cons_succ]
        refine AnyH.take (i := 1) (d := some 42) (v := ?_) (by kernel_rfl) rfl rfl HF (fun _ _ _ h => h) (.inl ⟨by rfl, ?_⟩) (by first | assumption | rfl) ?_
        rotate_left
        · intro w hS; try subst hS
          go_simp; try with_reducible rfl
        try simp only [Act.put, List.setIfInBounds_toArray, List.set_cons_zero, List.set_cons_succ]
        refine AnyH.take (i := 2) (d := some 43) (v := ?_) (by kernel_rfl) rfl rfl HF (fun _ _ _ h => h) (.inl ⟨by rfl, ?_⟩) (by first | assumption | rfl) ?_
        rotate_left
        · intro w hS; try subst hS
          go_simp; try with_reducible rfl
        try simp only [Act.put, List.setIfInBounds_toArray, List.set_cons_zero, List.set_cons_succ]
        refine AnyH.take (i := 3) (d := some 44) (v := ?_) (by kernel_rfl) rfl rfl HF (fun _ _ _ h => h) (.inl ⟨by rfl, ?_⟩) (by first | assumption | rfl) ?_
        rotate_left
        · intro w hS; try subst hS
          go_simp; try with_reducible rfl
        try simp only [Act.put, List.setIfInBounds_toArray, List.set_cons_zero, List.set_cons_succ]
        refine AnyH.take (i := 4) (d := some 45) (v := ?_) (by kernel_rfl) rfl rfl HF (fun _ _ _ h => h) (.inl ⟨by rfl, ?_⟩) (by first | assumption | rfl) ?_
        rotate_left
        · intro w hS; try subst hS
          go_simp; try with_reducible rfl
        try simp only [Act.put, List.setIfInBounds_toArray, List.set_cons_zero, List.set_cons_succ]
        refine AnyH.one (i := 5) (by kernel_rfl) (by kernel_rfl) rfl HF (by rfl) (fun K hK => ?_)
        go_simp
        refine hK _ _ (B0.alloc B0.size _) ?_
        clear hK K
        try simp only [Act.put, List.setIfInBounds_toArray, List.set_cons_zero, List.set_cons_succ]
        refine AnyH.tailL 6 (by kernel_rfl) ?_
        simp only [List.drop_succ_cons, List.drop_zero]
        have HK24 := Lib.hid (KeepT.below (nt := 24) B0); have HK81 := Lib.hid (KeepT.below (nt := 81) B0)
        gi_wp2_with (
          gi_at_builtin
          refine wp_app1In (w0 := wc) (enc := encI) elemI (fun _ => rfl) rfl _ _ rfl rfl HSc.out x1 rfl rfl (by simp [encI, Value.oneCell']) HBY.out HBc.out.size ?_
          intro v2 w2 hS' hg hb'
          replace hg : (wc.alloc (.cells #[.int .i64 x1] 3)).grownBy w2 (Value.slice ra acc.length rc).ownBlock := hg
          obtain ⟨a2, cp2, hv2⟩ := hS'.len
          rw [List.length_append, List.length_singleton] at hv2
          subst hv2
          have x2 := app_other HSc.out hg HXc.out (by decide)
          have c5 := box_cell x2; have f5 := box_frozen x2
          have HN := Lib.hid (cs_app HSc.out HXc.out hg hS' hb' HB4.out)
          clear hS' hg hb' x2)
        obtain ⟨w3, hw3⟩ : ∃ w3, w2.setCell ⟨W.heap.size + 1 + 1, 0, none⟩ (.slice a2 (acc.length + 1) cp2) = w3 := ⟨_, rfl⟩
        rw [hw3] at HN
        refine NP.normal ?_
        rw [hw3]
        have HB3 := Lib.hid (HBc.out.trans HN.out.2.2.2.2)
        have HK1 := Lib.hid (KeepT.trans HK24.out HN.out.2.2.1); have HK2 := Lib.hid (KeepT.trans HK81.out HN.out.2.2.2.1)
        clear hw3 c5 f5 B0
        clear m1 m2 m3 m4 m5 m6 kr
        go_wp2_with fail
        refine wp_region_anyNP (Below w3.heap.size w3) (by kernel_rfl) ?_
        have B0 : Below w3.heap.size w3 w3.drew := (Below.refl _ _).drew
        refine AnyH.take (i := 0) (d := some 48) (v := ?_) (by kernel_rfl) rfl rfl HF (fun _ _ _ h => h) (.inl ⟨by rfl, ?_⟩) (by first | assumption | rfl) ?_
        rotate_left
        · intro w hS; try subst hS
          go_simp; try with_reducible rfl
        try simp only [Act.put, List.setIfInBounds_toArray, List.set_cons_zero, List.set_cons_succ]
        refine AnyH.take (i := 1) (d := some 49) (v := ?_) (by kernel_rfl) rfl rfl HF (fun _ _ _ h => h) (.inl ⟨by rfl, ?_⟩) (by first | assumption | rfl) ?_
        rotate_left
        · intro w hS; try subst hS
          go_simp; try with_reducible rfl
        try simp only [Act.put, List.setIfInBounds_toArray, List.set_cons_zero, List.set_cons_succ]
        refine AnyH.take (i := 2) (d := some 50) (v := ?_) (by kernel_rfl) rfl rfl HF (fun _ _ _ h => h) (.inl ⟨by rfl, ?_⟩) (by first | assumption | rfl) ?_
        rotate_left
        · intro w hS; try subst hS
          go_simp; try with_reducible rfl
        try simp only [Act.put, List.setIfInBounds_toArray, List.set_cons_zero, List.set_cons_succ]
        refine AnyH.take (i := 3) (d := some 51) (v := ?_) (by kernel_rfl) rfl rfl HF (fun _ _ _ h => h) (.inl ⟨by rfl, ?_⟩) (by first | assumption | rfl) ?_
        rotate_left
        · intro w hS; try subst hS
          go_simp; try with_reducible rfl
        try simp only [Act.put, List.setIfInBounds_toArray, List.set_cons_zero, List.set_cons_succ]
        refine AnyH.take (i := 4) (d := some 5) (v := ?_) (by kernel_rfl) rfl rfl HF (fun _ _ _ h => h) (.inl ⟨by rfl, ?_⟩) (by first | assumption | rfl) ?_
        rotate_left
        · intro w hS; try subst hS
          go_simp; try with_reducible rfl
        try simp only [Act.put, List.setIfInBounds_toArray, List.set_cons_zero, List.set_cons_succ]
        refine AnyH.take (i := 5) (d := some 6) (v := ?_) (by kernel_rfl) rfl rfl HF (fun _ _ _ h => h) (.inl ⟨by rfl, ?_⟩) (by first | assumption | rfl) ?_
        rotate_left
        · intro w hS; try subst hS
          go_simp; try with_reducible rfl
        try simp only [Act.put, List.setIfInBounds_toArray, List.set_cons_zero, List.set_cons_succ]
        refine AnyH.done (by kernel_rfl) ?_
        refine NP.normal ?_
        go_wp2_with fail
        have hk1 := KeepT.trans HK1.out (KeepT.below B0)
        have hk2 := KeepT.trans HK2.out (KeepT.below B0)
        exact ⟨⟨acc ++ [x1], xs', ys', ps', qs', _, HR1'.out.keep hk1, HN1.out.2.keep hk2, HR2'.out.keep hk1, HN2.out.2.keep hk2, box_below B0 HN.out.1, HN.out.2.1.below B0, by rw [← HE.out, HC.out]; simp, by have := HL.out; simp only [List.length_append, List.length_cons, List.length_nil] at *; omega, Below.step HB3.out B0⟩, by simp [lenOf]; omega⟩
    case neg =>
      have hEE : acc ++ xs.map Prod.fst ++ ys.map Prod.fst = chg S.toList T.toList := by
        rw [← HE.out, List.append_assoc]
        congr 1
        by_cases h : ps = []
        · subst h
          cases xs with
          | nil => rw [chg_nil]; rfl
          | cons _ _ => exact hN1.elim
        · have hq : qs = [] := by
            by_cases h2 : qs = []
            · exact h2
            · exact absurd ⟨h, h2⟩ hgo
          subst hq
          cases ys with
          | nil => rw [chg_nil2]; simp
          | cons _ _ => exact hN2.elim
      have hcase : ¬ (0 : Int) < (ps.length : Int) ∨ ((0 : Int) < (ps.length : Int) ∧ ¬ (0 : Int) < (qs.length : Int)) := by
        by_cases h : ps = []
        · left; subst h; simp
        · right
          have hq : qs = [] := by
            by_cases h2 : qs = []
            · exact h2
            · exact absurd ⟨h, h2⟩ hgo
          subst hq
          have := List.length_pos_iff.2 h
          exact ⟨by omega, by simp⟩
      obtain ⟨oa, oc, ho, hoc1, hoc2⟩ := hR1.len
      obtain ⟨na, nc, hno, hnc1, hnc2⟩ := hR2.len
      have HR1 := Lib.hid hR1; have HR2 := Lib.hid hR2; have HN1 := Lib.hid hN1; have HN2 := Lib.hid hN2; have HEE := Lib.hid hEE
      have hl1 := hN1.len; have hl2 := hN2.len
      have HL1 := Lib.hid hl1; have HL2 := Lib.hid hl2
      subst ho
      subst hno
      clear hR1 hR2 hN1 hN2 hEE hgo kr hl1 hl2
      have fin : ∀ (wo : World) (rz : Option Addr) (n c : Nat) (accz : List Int), wo.heap[W.heap.size + 1 + 1]? = some (.cells #[.slice rz n c] 62 (0, 0)) → SlA W.heap.size wo 3 1 encI (.slice rz n c) accz → Below W.heap.size W wo → accz = chg S.toList T.toList → (wo.setCell ⟨W.heap.size + 1 + 1, 0, none⟩ (.slice rz n c)).cell? ⟨W.heap.size + 1 + 1, 0, none⟩ = some (.slice rz n c) ∧ SlA W.heap.size (wo.setCell ⟨W.heap.size + 1 + 1, 0, none⟩ (.slice rz n c)) 3 1 encI (.slice rz n c) (chg S.toList T.toList) ∧ Below W.heap.size W (wo.setCell ⟨W.heap.size + 1 + 1, 0, none⟩ (.slice rz n c)) := by
        intro wo rz n c accz h1 h2 h3 h4
        subst h4
        exact ⟨box_cell (box_set _ h1), h2.setCell (a := ⟨W.heap.size + 1 + 1, 0, none⟩) _ h1 (by decide), h3.setCell (p := ⟨W.heap.size + 1 + 1, 0, none⟩) (by simp; omega) _⟩
      have HFIN := Lib.hid fin
      clear fin
      rcases hcase with hca | ⟨hca, hcb⟩
      all_goals
        go_wp2_with fail
        obtain ⟨wo, rfl⟩ : ∃ wo : World, wo = wr := ⟨_, rfl⟩
        obtain ⟨acc0, hacc0⟩ : ∃ l : List Int, acc = l := ⟨_, rfl⟩
        have HLb0 : Hid (acc0.length + xs.length + ys.length ≤ 1000000) := Lib.hid (by have h1 := HL.out; have := HLN.out; rw [hacc0] at h1; omega)
        have HLb : Hid (acc0.length + ps.length ≤ 1000000) := Lib.hid (by have := HLb0.out; have := HL1.out; omega)
        have HAC := Lib.hid hacc0
        clear hacc0
        go_loopw [92] (fun c w => ∃ (j : Nat) (acc : List Int) (ra : Option Addr) (rc : Nat), j ≤ ps.length ∧ c = .int .i64 j ∧ acc = acc0 ++ (xs.take j).map Prod.fst ∧ w.heap[W.heap.size + 1 + 1]? = some (.cells #[.slice ra acc.length rc] 62 (0, 0)) ∧ SlA W.heap.size w 3 1 encI (.slice ra acc.length rc) acc ∧ KeepT 24 wo w ∧ KeepT 81 wo w ∧ Below W.heap.size W w) (fun c _ => ps.length - (intOf c).toNat)
        case atStart => exact ⟨0, acc, ra, rc, by omega, rfl, by rw [HAC.out]; simp, HX.out, HS.out, KeepT.refl _ _, KeepT.refl _ _, HB.out⟩
        case round =>
          obtain ⟨j, acc, ra, rc, hj, rfl, hacc, hX, hS, hk1, hk2, hB⟩ := hrel
          have HX := Lib.hid hX; have HS := Lib.hid hS; have HB := Lib.hid hB; have HKa := Lib.hid hk1; have HKb := Lib.hid hk2; have HA := Lib.hid hacc
          have hlen : acc.length ≤ acc0.length + j := by rw [hacc]; simp; omega
          have HLEN := Lib.hid hlen
          clear hacc hX hS hB hk1 hk2 hlen
          by_cases hlt : j < ps.length
          · have hl3 : (j : Int) < (ps.length : Int) := by omega
            have hl4 : (0 : Int) ≤ (j : Int) := by omega
            have HBY : Hid ((acc.length + 1) * 8 ≤ 140737488355328) := Lib.hid (by have := HLEN.out; have := HLb.out; omega)
            have kr : ∀ w, Below wr.heap.size wr w → w.cell? ⟨W.heap.size + 1 + 1, 0, none⟩ = some (.slice ra acc.length rc) := fun w h => box_cell (box_below h HX.out)
            have hxl : j < xs.length := by rw [← HL1.out]; exact hlt
            obtain ⟨b, c, he, hc⟩ := HR1.out.at hlt
            simp only [Value.slice.injEq] at he
            obtain ⟨rfl, -, rfl⟩ := he
            have m1 := hc wr HKa.out
            have hnd := HN1.out.at hlt hxl
            obtain ⟨p0, hp0⟩ : ∃ p0, ps[j] = p0 := ⟨_, rfl⟩
            rw [hp0] at m1 hnd
            have HT : Hid (acc ++ [xs[j].1] = acc0 ++ (xs.take (j + 1)).map Prod.fst) := Lib.hid (by rw [HA.out, List.take_succ_eq_append_getElem hxl, List.map_append, List.append_assoc]; rfl)
            have m3 : ∀ w, Below wr.heap.size wr w → w.cell? ⟨p0, 0, none⟩ = some (.int .i64 xs[j].1) := fun w h => (node_key hnd w (KeepT.trans HKb.out (KeepT.below h))).1
            obtain ⟨k1, hk1⟩ : ∃ k1, xs[j].1 = k1 := ⟨_, rfl⟩
            rw [hk1] at HT m3
            clear hc hnd hp0 hk1
            have Bwr := Below.refl wr.heap.size wr
            go_wp2_with fail
            refine wp_region_anyNP (Below wr.heap.size wr) (by kernel_rfl) ?_
            obtain ⟨wc, hwc⟩ : ∃ w, wr.drew = w := ⟨_, rfl⟩
            rw [hwc]
            have B0 : Below wr.heap.size wr wc := by rw [← hwc]; exact Bwr.drew
            have HSc := Lib.hid (HS.out.below B0); have HXc := Lib.hid (box_below B0 HX.out); have HBc := Lib.hid (Below.step HB.out B0)
            clear hwc
            refine AnyH.take (i := 0) (d := some 96) (v := ?_) (by kernel_rfl) rfl rfl HF (fun _ _ _ h => h) (.inl ⟨by rfl, ?_⟩) (by first | assumption | rfl) ?_
            rotate_left
            · intro w hS; try subst hS
              go_simp; try with_reducible rfl
            try simp only [Act.put, List.setIfInBounds_toArray, List.set_cons_zero, List.set_cons_succ]
            refine AnyH.take (i := 1) (d := some 97) (v := ?_) (by kernel_rfl) rfl rfl HF (fun _ _ _ h => h) (.inl ⟨by rfl, ?_⟩) (by first | assumption | rfl) ?_
            rotate_left
            · intro w hS; try subst hS
              go_simp; try with_reducible rfl
            try simp only [Act.put, List.setIfInBounds_toArray, List.set_cons_zero, List.set_cons_succ]
            refine AnyH.take (i := 2) (d := some 98) (v := ?_) (by kernel_rfl) rfl rfl HF (fun _ _ _ h => h) (.inl ⟨by rfl, ?_⟩) (by first | assumption | rfl) ?_
            rotate_left
            · intro w hS; try subst hS
              go_simp; try with_reducible rfl
            try simp only [Act.put, List.setIfInBounds_toArray, List.set_cons_zero, List.set_cons_succ]
            refine AnyH.take (i := 3) (d := some 99) (v := ?_) (by kernel_rfl) rfl rfl HF (fun _ _ _ h => h) (.inl ⟨by rfl, ?_⟩) (by first | assumption | rfl) ?_
            rotate_left
            · intro w hS; try subst hS
              go_simp; try with_reducible rfl
            try simp only [Act.put, List.setIfInBounds_toArray, List.set_cons_zero, List.set_cons_succ]
            refine AnyH.take (i := 4) (d := some 100) (v := ?_) (by kernel_rfl) rfl rfl HF (fun _ _ _ h => h) (.inl ⟨by rfl, ?_⟩) (by first | assumption | rfl) ?_
            rotate_left
            · intro w hS; try subst hS
              go_simp; try with_reducible rfl
            try simp only [Act.put, List.setIfInBounds_toArray, List.set_cons_zero, List.set_cons_succ]
            refine AnyH.one (i := 5) (by kernel_rfl) (by kernel_rfl) rfl HF (by rfl) (fun K hK => ?_)
            go_simp
            refine hK _ _ (B0.alloc B0.size _) ?_
            clear hK K
            try simp only [Act.put, List.setIfInBounds_toArray, List.set_cons_zero, List.set_cons_succ]
            refine AnyH.tailL 6 (by kernel_rfl) ?_
            simp only [List.drop_succ_cons, List.drop_zero]
            have HK24 := Lib.hid (KeepT.below (nt := 24) B0); have HK81 := Lib.hid (KeepT.below (nt := 81) B0)
            gi_wp2_with (
              gi_at_builtin
              refine wp_app1In (w0 := wc) (enc := encI) elemI (fun _ => rfl) rfl _ _ rfl rfl HSc.out k1 rfl rfl (by simp [encI, Value.oneCell']) HBY.out HBc.out.size ?_
              intro v2 w2 hS' hg hb'
              replace hg : (wc.alloc (.cells #[.int .i64 k1] 3)).grownBy w2 (Value.slice ra acc.length rc).ownBlock := hg
              obtain ⟨a2, cp2, hv2⟩ := hS'.len
              rw [List.length_append, List.length_singleton] at hv2
              subst hv2
              have x2 := app_other HSc.out hg HXc.out (by decide)
              have c5 := box_cell x2; have f5 := box_frozen x2
              have HN := Lib.hid (cs_app HSc.out HXc.out hg hS' hb' HB4.out)
              clear hS' hg hb' x2)
            obtain ⟨w3, hw3⟩ : ∃ w3, w2.setCell ⟨W.heap.size + 1 + 1, 0, none⟩ (.slice a2 (acc.length + 1) cp2) = w3 := ⟨_, rfl⟩
            rw [hw3] at HN
            refine NP.normal ?_
            rw [hw3]
            have HB3 := Lib.hid (HBc.out.trans HN.out.2.2.2.2)
            have HK1 := Lib.hid (KeepT.trans HK24.out HN.out.2.2.1); have HK2 := Lib.hid (KeepT.trans HK81.out HN.out.2.2.2.1)
            clear hw3 c5 f5 B0
            clear m1 m3 kr
            go_wp2_with fail
            go_roundw
            case rel => exact ⟨j + 1, acc ++ [k1], a2, cp2, by omega, by go_num, HT.out, by have := HN.out.1; simpa using this, by have := HN.out.2.1; simpa using this, KeepT.trans HKa.out HK1.out, KeepT.trans HKb.out HK2.out, HB3.out⟩
            case measure => simp [intOf]; omega
          · obtain rfl : j = ps.length := by omega
            have HA2 : Hid (acc = acc0 ++ xs.map Prod.fst) := Lib.hid (by have := HA.out; rwa [List.take_of_length_le (by rw [HL1.out]; exact Nat.le_refl _)] at this)
            have HRq := Lib.hid (HR2.out.keep HKa.out); have HNq := Lib.hid (HN2.out.keep HKb.out)
            have HAC2 : Hid (acc = acc0 ++ xs.map Prod.fst) := HA2
            obtain ⟨accz, haz⟩ : ∃ l, acc0 = l := ⟨_, rfl⟩
            have HACx : Hid (acc = accz ++ xs.map Prod.fst) := Lib.hid (by rw [← haz]; exact HA2.out)
            have HEZ : Hid (accz ++ xs.map Prod.fst ++ ys.map Prod.fst = chg S.toList T.toList) := Lib.hid (by rw [← haz, ← HAC.out]; exact HEE.out)
            clear haz
            have HLx : Hid (acc.length = acc0.length + xs.length) := Lib.hid (by rw [HAC2.out]; simp)
            have HLc : Hid (acc.length + qs.length ≤ 1000000) := Lib.hid (by have := HLx.out; have := HLb0.out; have := HL2.out; omega)
            go_wp2_with fail
            obtain ⟨wo, rfl⟩ : ∃ wo : World, wo = wr := ⟨_, rfl⟩
            obtain ⟨acc0, hacc0⟩ : ∃ l : List Int, acc = l := ⟨_, rfl⟩
            have HLb : Hid (acc0.length + qs.length ≤ 1000000) := Lib.hid (by have := HLc.out; rw [hacc0] at this; exact this)
            have HACy : Hid (acc0 = accz ++ xs.map Prod.fst) := Lib.hid (by rw [← hacc0]; exact HACx.out)
            have HAC := Lib.hid hacc0
            clear hacc0
            go_loopw [106] (fun c w => ∃ (j : Nat) (acc : List Int) (ra : Option Addr) (rc : Nat), j ≤ qs.length ∧ c = .int .i64 j ∧ acc = acc0 ++ (ys.take j).map Prod.fst ∧ w.heap[W.heap.size + 1 + 1]? = some (.cells #[.slice ra acc.length rc] 62 (0, 0)) ∧ SlA W.heap.size w 3 1 encI (.slice ra acc.length rc) acc ∧ KeepT 24 wo w ∧ KeepT 81 wo w ∧ Below W.heap.size W w) (fun c _ => qs.length - (intOf c).toNat)
            case atStart => exact ⟨0, acc, ra, rc, by omega, rfl, by rw [HAC.out]; simp, HX.out, HS.out, KeepT.refl _ _, KeepT.refl _ _, HB.out⟩
            case round =>
              obtain ⟨j, acc, ra, rc, hj, rfl, hacc, hX, hS, hk1, hk2, hB⟩ := hrel
              have HX := Lib.hid hX; have HS := Lib.hid hS; have HB := Lib.hid hB; have HKa := Lib.hid hk1; have HKb := Lib.hid hk2; have HA := Lib.hid hacc
              have hlen : acc.length ≤ acc0.length + j := by rw [hacc]; simp; omega
              have HLEN := Lib.hid hlen
              clear hacc hX hS hB hk1 hk2 hlen
              by_cases hlt : j < qs.length
              · have hl3 : (j : Int) < (qs.length : Int) := by omega
                have hl4 : (0 : Int) ≤ (j : Int) := by omega
                have HBY : Hid ((acc.length + 1) * 8 ≤ 140737488355328) := Lib.hid (by have := HLEN.out; have := HLb.out; omega)
                have kr : ∀ w, Below wr.heap.size wr w → w.cell? ⟨W.heap.size + 1 + 1, 0, none⟩ = some (.slice ra acc.length rc) := fun w h => box_cell (box_below h HX.out)
                have hxl : j < ys.length := by rw [← HL2.out]; exact hlt
                obtain ⟨b, c, he, hc⟩ := HRq.out.at hlt
                simp only [Value.slice.injEq] at he
                obtain ⟨rfl, -, rfl⟩ := he
                have m1 := hc wr HKa.out
                have hnd := HNq.out.at hlt hxl
                obtain ⟨p0, hp0⟩ : ∃ p0, qs[j] = p0 := ⟨_, rfl⟩
                rw [hp0] at m1 hnd
                have HT : Hid (acc ++ [ys[j].1] = acc0 ++ (ys.take (j + 1)).map Prod.fst) := Lib.hid (by rw [HA.out, List.take_succ_eq_append_getElem hxl, List.map_append, List.append_assoc]; rfl)
                have m3 : ∀ w, Below wr.heap.size wr w → w.cell? ⟨p0, 0, none⟩ = some (.int .i64 ys[j].1) := fun w h => (node_key hnd w (KeepT.trans HKb.out (KeepT.below h))).1
                obtain ⟨k1, hk1⟩ : ∃ k1, ys[j].1 = k1 := ⟨_, rfl⟩
                rw [hk1] at HT m3
                clear hc hnd hp0 hk1
                have Bwr := Below.refl wr.heap.size wr
                go_wp2_with fail
                refine wp_region_anyNP (Below wr.heap.size wr) (by kernel_rfl) ?_
                obtain ⟨wc, hwc⟩ : ∃ w, wr.drew = w := ⟨_, rfl⟩
                rw [hwc]
                have B0 : Below wr.heap.size wr wc := by rw [← hwc]; exact Bwr.drew
                have HSc := Lib.hid (HS.out.below B0); have HXc := Lib.hid (box_below B0 HX.out); have HBc := Lib.hid (Below.step HB.out B0)
                clear hwc
                refine AnyH.take (i := 0) (d := some 110) (v := ?_) (by kernel_rfl) rfl rfl HF (fun _ _ _ h => h) (.inl ⟨by rfl, ?_⟩) (by first | assumption | rfl) ?_
                rotate_left
                · intro w hS; try subst hS
                  go_simp; try with_reducible rfl
                try simp only [Act.put, List.setIfInBounds_toArray, List.set_cons_zero, List.set_cons_succ]
                refine AnyH.take (i := 1) (d := some 111) (v := ?_) (by kernel_rfl) rfl rfl HF (fun _ _ _ h => h) (.inl ⟨by rfl, ?_⟩) (by first | assumption | rfl) ?_
                rotate_left
                · intro w hS; try subst hS
                  go_simp; try with_reducible rfl
                try simp only [Act.put, List.setIfInBounds_toArray, List.set_cons_zero, List.set_cons_succ]
                refine AnyH.take (i := 2) (d := some 112) (v := ?_) (by kernel_rfl) rfl rfl HF (fun _ _ _ h => h) (.inl ⟨by rfl, ?_⟩) (by first | assumption | rfl) ?_
                rotate_left
                · intro w hS; try subst hS
                  go_simp; try with_reducible rfl
                try simp only [Act.put, List.setIfInBounds_toArray, List.set_cons_zero, List.set_cons_succ]
                refine AnyH.take (i := 3) (d := some 113) (v := ?_) (by kernel_rfl) rfl rfl HF (fun _ _ _ h => h) (.inl ⟨by rfl, ?_⟩) (by first | assumption | rfl) ?_
                rotate_left
                · intro w hS; try subst hS
                  go_simp; try with_reducible rfl
                try simp only [Act.put, List.setIfInBounds_toArray, List.set_cons_zero, List.set_cons_succ]
                refine AnyH.take (i := 4) (d := some 114) (v := ?_) (by kernel_rfl) rfl rfl HF (fun _ _ _ h => h) (.inl ⟨by rfl, ?_⟩) (by first | assumption | rfl) ?_
                rotate_left
                · intro w hS; try subst hS
                  go_simp; try with_reducible rfl
                try simp only [Act.put, List.setIfInBounds_toArray, List.set_cons_zero, List.set_cons_succ]
                refine AnyH.one (i := 5) (by kernel_rfl) (by kernel_rfl) rfl HF (by rfl) (fun K hK => ?_)
                go_simp
                refine hK _ _ (B0.alloc B0.size _) ?_
                clear hK K
                try simp only [Act.put, List.setIfInBounds_toArray, List.set_cons_zero, List.set_cons_succ]
                refine AnyH.tailL 6 (by kernel_rfl) ?_
                simp only [List.drop_succ_cons, List.drop_zero]
                have HK24 := Lib.hid (KeepT.below (nt := 24) B0); have HK81 := Lib.hid (KeepT.below (nt := 81) B0)
                gi_wp2_with (
                  gi_at_builtin
                  refine wp_app1In (w0 := wc) (enc := encI) elemI (fun _ => rfl) rfl _ _ rfl rfl HSc.out k1 rfl rfl (by simp [encI, Value.oneCell']) HBY.out HBc.out.size ?_
                  intro v2 w2 hS' hg hb'
                  replace hg : (wc.alloc (.cells #[.int .i64 k1] 3)).grownBy w2 (Value.slice ra acc.length rc).ownBlock := hg
                  obtain ⟨a2, cp2, hv2⟩ := hS'.len
                  rw [List.length_append, List.length_singleton] at hv2
                  subst hv2
                  have x2 := app_other HSc.out hg HXc.out (by decide)
                  have c5 := box_cell x2; have f5 := box_frozen x2
                  have HN := Lib.hid (cs_app HSc.out HXc.out hg hS' hb' HB4.out)
                  clear hS' hg hb' x2)
                obtain ⟨w3, hw3⟩ : ∃ w3, w2.setCell ⟨W.heap.size + 1 + 1, 0, none⟩ (.slice a2 (acc.length + 1) cp2) = w3 := ⟨_, rfl⟩
                rw [hw3] at HN
                refine NP.normal ?_
                rw [hw3]
                have HB3 := Lib.hid (HBc.out.trans HN.out.2.2.2.2)
                have HK1 := Lib.hid (KeepT.trans HK24.out HN.out.2.2.1); have HK2 := Lib.hid (KeepT.trans HK81.out HN.out.2.2.2.1)
                clear hw3 c5 f5 B0
                clear m1 m3 kr
                go_wp2_with fail
                go_roundw
                case rel => exact ⟨j + 1, acc ++ [k1], a2, cp2, by omega, by go_num, HT.out, by have := HN.out.1; simpa using this, by have := HN.out.2.1; simpa using this, KeepT.trans HKa.out HK1.out, KeepT.trans HKb.out HK2.out, HB3.out⟩
                case measure => simp [intOf]; omega
              · obtain rfl : j = qs.length := by omega
                have HA2 : Hid (acc = acc0 ++ ys.map Prod.fst) := Lib.hid (by have := HA.out; rwa [List.take_of_length_le (by rw [HL2.out]; exact Nat.le_refl _)] at this)
                have hx := HFIN.out wr ra acc.length rc acc HX.out HS.out HB.out (by rw [HA2.out, HACy.out, HEZ.out])
                have HXX := Lib.hid hx
                have cl := box_cell HX.out; have fl := box_frozen HX.out
                clear hx
                go_wp2_with fail
                refine leaves_cons (f := 58) (args := #[.pointer (some ⟨W.heap.size + 1 + 1, 0, none⟩)]) (by simp) (by simp [go_sem]) ?_
                refine (catch58 ⟨W.heap.size + 1 + 1, 0, none⟩ _).mono ?_
                rintro e u' w'' ⟨rfl, rfl, rfl⟩
                have c5 := HXX.out.1
                simp only [Leaves, settle, results, Try.results27]
                simp [go_sem, c5]
                exact ⟨HXX.out.2.1, HXX.out.2.2⟩
