/- law14's Made: a store with balanced texts; the steps that make them. No walk. -/
import Derived.Test.YtpjcfepngjpfbaaAvlJ
import Derived.Test.YtpjcfepngjpfbaaAppK
import Derived.Test.YtpjcfepngjpfbaaBys
namespace Go.Proofs.Ytpjcfepngjpfbaa
open Go.RowKit Go.Lib
theorem heap_alloc_lt (W : World) (o : Obj) : W.heap.size < (W.alloc o).heap.size := by rw [World.size_alloc]; omega
namespace M
/-- A slice's address, length and capacity. -/
abbrev Slc := Option Addr × Nat × Nat
abbrev slcV (u : Slc) : Value := .slice u.1 u.2.1 u.2.2
def encS (u : Slc) : List Value := [slcV u]
theorem encS_len (u : Slc) : (encS u).length = 1 := rfl
theorem encS_one (u : Slc) : ∀ x ∈ encS u, x.oneCell' = true := by simp [encS, slcV, Value.oneCell']
def encI (n : Nat) : List Value := [.int .i64 n]
theorem encI_len (n : Nat) : (encI n).length = 1 := rfl
theorem encI_one (n : Nat) : ∀ x ∈ encI n, x.oneCell' = true := by simp [encI, Value.oneCell']
abbrev IdW (B : Nat) (W : World) (v : Value) (l : List Nat) : Prop := SlA B W 31 1 encI v l
abbrev ItW (B : Nat) (W : World) (v : Value) (l : List Nat) : Prop := SlA B W 3 1 encI v l
abbrev SlW (B : Nat) (W : World) (v : Value) (l : List Slc) : Prop := SlA B W 32 1 encS v l
theorem elemId : Elem Try.prog 24 31 1 8 := elem_of Try.underlying24 (z := .int .i64 0) (by kernel_rfl) rfl (by decide) (by decide)
theorem elemIt : Elem Try.prog 25 3 1 8 := elem_of Try.underlying25 (z := .int .i64 0) (by kernel_rfl) rfl (by decide) (by decide)
theorem elemSl : Elem Try.prog 26 32 1 24 := elem_of Try.underlying26 (z := .slice none 0 0) (by kernel_rfl) rfl (by decide) (by decide)
/-- An element of such a list. -/
theorem SlA.one {α : Type} {B : Nat} {W : World} {e : TypeId} {enc : α → List Value} (he : ∀ a, (enc a).length = 1) {v : Value} {l : List α} (h : SlA B W e 1 enc v l) {i : Nat} (hi : i < l.length) :
    ∃ g cap, v = .slice (some ⟨g, 0, none⟩) l.length cap ∧ l.length ≤ cap ∧ cap ≤ maxLen ∧ ∀ (W' : World), SlA B W' e 1 enc v l → ∀ i (hi : i < l.length), W'.cell? ⟨g, i, none⟩ = (enc l[i])[0]? := by
  rcases h.shape with ⟨-, rfl⟩ | ⟨g, cap, rfl, h1, h2⟩
  · simp at hi
  · refine ⟨g, cap, rfl, h1, h2, fun W' h' i hi => ?_⟩
    have := SlA.cell he h' hi (j := 0) (by omega)
    rw [Nat.mul_one, Nat.add_zero] at this
    rw [this, List.getElem?_eq_getElem (by rw [he]; omega)]
/-- The block of a Made. -/
def McC (W : World) (g B : Nat) (iv lv tv : Value) : Prop := W.heap[g]? = some (.cells #[.pointer (some ⟨B, 0, none⟩), iv, lv, tv] 28 (0, 0))
section
variable {W : World} {g B : Nat} {iv lv tv : Value}
theorem McC.cells (h : McC W g B iv lv tv) : W.cell? ⟨g, 0, none⟩ = some (.pointer (some ⟨B, 0, none⟩)) ∧ W.cell? ⟨g, 1, none⟩ = some iv ∧ W.cell? ⟨g, 2, none⟩ = some lv ∧ W.cell? ⟨g, 3, none⟩ = some tv := by
  unfold McC at h
  simp [World.cell?, h]
theorem McC.free (h : McC W g B iv lv tv) (i : Nat) : W.frozen? ⟨g, i, none⟩ = false := by
  unfold McC at h
  simp [World.frozen?, h]
theorem McC.set (h : McC W g B iv lv tv) (a b c : Value) : McC (((W.setCell ⟨g, 1, none⟩ a).setCell ⟨g, 2, none⟩ b).setCell ⟨g, 3, none⟩ c) g B a b c := by
  unfold McC at h ⊢
  exact heap_set0 _ (heap_set0 _ (heap_set0 _ h))
theorem McC.keep {C : World} (h : McC W g B iv lv tv) (hk : KeepT 28 W C) : McC C g B iv lv tv := hk _ _ _ h
end
/-- The lengths of texts. -/
def lnF (E : List En) (ids : List Nat) : List Nat := ids.map fun i => (M.txt E i).length
theorem lnF_len (E : List En) (ids : List Nat) : (lnF E ids).length = ids.length := by simp [lnF]
theorem lnF_snoc (E : List En) (ids : List Nat) (i : Nat) : lnF E (ids ++ [i]) = lnF E ids ++ [(M.txt E i).length] := by simp [lnF]
theorem lnF_ext {E E' : List En} (hx : Ext E E') {ids : List Nat} (h : ∀ i ∈ ids, i ≤ E.length) : lnF E' ids = lnF E ids := by
  unfold lnF
  exact List.map_congr_left fun i hi => by rw [hx.txt (h i hi)]
theorem lnF_get {E : List En} {ids : List Nat} {k : Nat} (h : k < (lnF E ids).length) : (lnF E ids)[k] = (M.txt E (ids[k]'(by rw [lnF_len] at h; exact h))).length := by simp [lnF]
/-- What a Made's lists are. -/
structure MdOk (n0 : Nat) (W : World) (E : List En) (ids : List Nat) (T : List Slc) : Prop where
  bal : ∀ i ∈ ids, 0 < i ∧ Bal0 E i (M.txt E i)
  len : T.length = ids.length
  txt : ∀ (k : Nat) (h : k < ids.length) (h2 : k < T.length), (M.txt E ids[k]).length ≤ 4096 → Bys n0 W (slcV T[k]) (M.txt E ids[k])
theorem MdOk.ext {n0 : Nat} {W : World} {E E' : List En} {ids : List Nat} {T : List Slc} (h : MdOk n0 W E ids T) (hx : Ext E E') : MdOk n0 W E' ids T := by
  refine ⟨fun i hi => ?_, h.len, fun k h1 h2 h3 => ?_⟩
  · obtain ⟨a, b⟩ := h.bal i hi
    rw [hx.txt b.le]
    exact ⟨a, b.ext hx⟩
  · obtain ⟨a, b⟩ := h.bal _ (List.getElem_mem h1)
    rw [hx.txt b.le] at h3 ⊢
    exact h.txt k h1 h2 h3
theorem MdOk.keep {n0 : Nat} {W C : World} {E : List En} {ids : List Nat} {T : List Slc} (h : MdOk n0 W E ids T) (hk : KeepT 5 W C) : MdOk n0 C E ids T := ⟨h.bal, h.len, fun k h1 h2 h3 => SlA.keep (h.txt k h1 h2 h3) hk⟩
theorem MdOk.snoc {n0 : Nat} {W : World} {E : List En} {ids : List Nat} {T : List Slc} (h : MdOk n0 W E ids T) {i : Nat} {u : Slc} (h0 : 0 < i) (hb : Bal0 E i (M.txt E i)) (ht : (M.txt E i).length ≤ 4096 → Bys n0 W (slcV u) (M.txt E i)) : MdOk n0 W E (ids ++ [i]) (T ++ [u]) := by
  refine ⟨fun j hj => ?_, by simp [h.len], fun k h1 h2 h3 => ?_⟩
  · rcases List.mem_append.1 hj with g | g
    · exact h.bal j g
    · rw [List.mem_singleton.1 g]; exact ⟨h0, hb⟩
  · by_cases hk : k < ids.length
    · simp only [List.getElem_append_left hk, List.getElem_append_left (show k < T.length by rw [h.len]; exact hk)] at h3 ⊢
      exact h.txt k hk _ h3
    · have e : k = ids.length := by simp at h1; omega
      have e2 : (ids ++ [i])[k] = i := by rw [List.getElem_append_right (by omega)]; simp
      have e3 : (T ++ [u])[k] = u := by rw [List.getElem_append_right (by rw [h.len]; omega)]; simp
      rw [e2] at h3 ⊢
      rw [e3]
      exact ht h3
theorem MdOk.nil (n0 : Nat) (W : World) (E : List En) : MdOk n0 W E [] [] := ⟨fun i h => (by cases h), rfl, fun k h => by cases h⟩
/-- A Made, in its block. -/
def MdAt (n0 : Nat) (W : World) (g B : Nat) (E : List En) (ids : List Nat) (T : List Slc) : Prop := ∃ iv lv tv, McC W g B iv lv tv ∧ IdW n0 W iv ids ∧ ItW n0 W lv (lnF E ids) ∧ SlW n0 W tv T ∧ MdOk n0 W E ids T
/-- What turns while a step is done. -/
abbrev MdT : List TypeId := [31, 3, 32]
/-- The lists as they were, whatever has been appended. -/
def SMd (n0 : Nat) (iv lv tv : Value) (ids ls : List Nat) (T : List Slc) (wq w : World) : Prop := KpL MdT n0 wq w ∧ IdW n0 w iv ids ∧ ItW n0 w lv ls ∧ SlW n0 w tv T ∧ n0 ≤ w.heap.size
section
variable {n0 : Nat} {iv lv tv : Value} {ids ls : List Nat} {T : List Slc} {wq w w' : World}
theorem SMd.below (h : SMd n0 iv lv tv ids ls T wq w) (hb : Below w.heap.size w w') : SMd n0 iv lv tv ids ls T wq w' :=
  ⟨h.1.trans (KpL.of hb h.2.2.2.2), h.2.1.below hb, h.2.2.1.below hb, h.2.2.2.1.below hb, Nat.le_trans h.2.2.2.2 hb.size⟩
theorem SMd.own1 (h : SMd n0 iv lv tv ids ls T wq w) (hg : w.grownBy w' iv.ownBlock) (hi : IdW n0 w' iv ids) : SMd n0 iv lv tv ids ls T wq w' := by
  have hk := KpL.own (ts := MdT) h.2.1 hg h.2.2.2.2 (by simp)
  exact ⟨h.1.trans hk, hi, SlA.keep h.2.2.1 (keep_own h.2.1 hg (by decide)), SlA.keep h.2.2.2.1 (keep_own h.2.1 hg (by decide)), Nat.le_trans h.2.2.2.2 hk.below.size⟩
theorem SMd.own2 (h : SMd n0 iv lv tv ids ls T wq w) (hg : w.grownBy w' lv.ownBlock) (hi : ItW n0 w' lv ls) : SMd n0 iv lv tv ids ls T wq w' := by
  have hk := KpL.own (ts := MdT) h.2.2.1 hg h.2.2.2.2 (by simp)
  exact ⟨h.1.trans hk, SlA.keep h.2.1 (keep_own h.2.2.1 hg (by decide)), hi, SlA.keep h.2.2.2.1 (keep_own h.2.2.1 hg (by decide)), Nat.le_trans h.2.2.2.2 hk.below.size⟩
theorem SMd.own3 (h : SMd n0 iv lv tv ids ls T wq w) (hg : w.grownBy w' tv.ownBlock) (hi : SlW n0 w' tv T) : SMd n0 iv lv tv ids ls T wq w' := by
  have hk := KpL.own (ts := MdT) h.2.2.2.1 hg h.2.2.2.2 (by simp)
  exact ⟨h.1.trans hk, SlA.keep h.2.1 (keep_own h.2.2.2.1 hg (by decide)), SlA.keep h.2.2.1 (keep_own h.2.2.2.1 hg (by decide)), hi, Nat.le_trans h.2.2.2.2 hk.below.size⟩
end
/-- A step: a letter, or the join of two earlier texts. -/
structure Stp where
  join : Bool
  letter : Nat
  a : Nat
  b : Nat
def StpAt (W : World) (p : Addr) (s : Stp) : Prop := W.cell? p = some (.bool s.join) ∧ W.cell? ⟨p.block, p.off + 1, none⟩ = some (.int .u8 s.letter) ∧ W.cell? ⟨p.block, p.off + 2, none⟩ = some (.int .u8 s.a) ∧ W.cell? ⟨p.block, p.off + 3, none⟩ = some (.int .u8 s.b)
theorem adb (b : Addr) (k : Nat) : (b.add k).block = b.block := by unfold Addr.add; split <;> rfl
theorem StpAt.keep {A C : World} {b : Addr} {s : Stp} (h : StpAt A b s) (hb : C.heap[b.block]? = A.heap[b.block]?) : StpAt C b s := by
  obtain ⟨h1, h2, h3, h4⟩ := h
  refine ⟨?_, ?_, ?_, ?_⟩
  · unfold World.cell? at *; rw [hb]; exact h1
  · unfold World.cell? at *; dsimp only at *; rw [hb]; exact h2
  · unfold World.cell? at *; dsimp only at *; rw [hb]; exact h3
  · unfold World.cell? at *; dsimp only at *; rw [hb]; exact h4
/-- The steps of an argument, wherever they lie. -/
def RowStp (W : World) (v : Value) (L : List Stp) : Prop :=
  ∃ a cap, v = .slice a L.length cap ∧ L.length ≤ cap ∧ cap ≤ maxLen ∧ (∀ s ∈ L, s.letter < 256 ∧ s.a < 256 ∧ s.b < 256) ∧ (∀ (i : Nat) (h : i < L.length), ∃ b, a = some b ∧ b.block < W.heap.size ∧ StpAt W (b.add (i * 4)) L[i])
theorem RowStp.under {A C : World} {v : Value} {L : List Stp} {n : Nat} (h : RowStp A v L) (hb : Below n A C) (hn : A.heap.size ≤ n) : RowStp C v L := by
  obtain ⟨a, cap, rfl, h1, h2, h3, h⟩ := h
  exact ⟨a, cap, rfl, h1, h2, h3, fun i hi => (h i hi).imp fun b hh => ⟨hh.1, Nat.lt_of_lt_of_le hh.2.1 hb.size, hh.2.2.keep (by rw [adb]; exact hb.block _ (Nat.lt_of_lt_of_le hh.2.1 hn))⟩⟩
/-- A box into which a step is laid. -/
def SpB (W : World) (g : Nat) (s : Stp) : Prop := W.heap[g]? = some (.cells #[.bool s.join, .int .u8 s.letter, .int .u8 s.a, .int .u8 s.b] 95 (0, 0))
theorem SpB.cells {W : World} {g : Nat} {s : Stp} (h : SpB W g s) : W.cell? ⟨g, 0, none⟩ = some (.bool s.join) ∧ W.cell? ⟨g, 1, none⟩ = some (.int .u8 s.letter) ∧ W.cell? ⟨g, 2, none⟩ = some (.int .u8 s.a) ∧ W.cell? ⟨g, 3, none⟩ = some (.int .u8 s.b) := by
  unfold SpB at h
  simp [World.cell?, h]
theorem SpB.free {W : World} {g : Nat} {s : Stp} (h : SpB W g s) (i : Nat) : W.frozen? ⟨g, i, none⟩ = false := by
  unfold SpB at h
  simp [World.frozen?, h]
theorem SpB.set {W : World} {g : Nat} {s0 : Stp} (h : SpB W g s0) (s : Stp) : SpB ((((W.setCell ⟨g, 0, none⟩ (.bool s.join)).setCell ⟨g, 1, none⟩ (.int .u8 s.letter)).setCell ⟨g, 2, none⟩ (.int .u8 s.a)).setCell ⟨g, 3, none⟩ (.int .u8 s.b)) g s := by
  unfold SpB at h ⊢
  exact heap_set0 _ (heap_set0 _ (heap_set0 _ (heap_set0 _ h)))
/-- What is known of the operations of a step, by their role. -/
def PPm (n0 : Nat) (iv lv tv : Value) (ids : List Nat) (id : Nat) (ls : List Nat) (ln : Nat) (T : List Slc) (bt : Nat) (Z : Slc → World → Prop) (p : Value) (r : Nat) (v : Value) (w : World) : Prop := match r with
  | 0 => v = iv
  | 1 => v = lv
  | 2 => v = tv
  | 3 => ∃ g, v = .slice (some ⟨g, 0, none⟩) 1 1 ∧ IdW n0 w v [id]
  | 4 => IdW n0 w v (ids ++ [id])
  | 5 => ∃ g, v = .slice (some ⟨g, 0, none⟩) 1 1 ∧ ItW n0 w v [ln]
  | 6 => ItW n0 w v (ls ++ [ln])
  | 7 => ∃ g, v = .slice (some ⟨g, 0, none⟩) 1 1 ∧ Bys n0 w v [bt]
  | 8 => ∃ g u, v = .slice (some ⟨g, 0, none⟩) 1 1 ∧ SlW n0 w v [u] ∧ Z u w
  | 9 => ∃ u, SlW n0 w v (T ++ [u]) ∧ Z u w
  | 10 => v = p
  | _ => True
def tyM (r : Nat) : List TypeId := match r with
  | 3 => [31]
  | 4 => [31]
  | 5 => [3]
  | 6 => [3]
  | 7 => [5]
  | 8 => [32, 5]
  | 9 => [32, 5]
  | _ => []
def FRm (r : Nat) (w w' : World) : Prop := match r with
  | 4 => ∀ t, t ≠ 31 → KeepT t w w'
  | 6 => ∀ t, t ≠ 3 → KeepT t w w'
  | 9 => ∀ t, t ≠ 32 → KeepT t w w'
  | _ => Below w.heap.size w w'
theorem PPm.keep {n0 : Nat} {iv lv tv : Value} {ids : List Nat} {id : Nat} {ls : List Nat} {ln : Nat} {T : List Slc} {bt : Nat} {Z : Slc → World → Prop} {p : Value} (hZ : ∀ u w w', Z u w → KeepT 5 w w' → Z u w') {r : Nat} {v : Value} {w w' : World} (h : PPm n0 iv lv tv ids id ls ln T bt Z p r v w) (hk : ∀ t, t ∈ tyM r → KeepT t w w') : PPm n0 iv lv tv ids id ls ln T bt Z p r v w' := by
  match r, h, hk with
  | 0, h, _ => exact h
  | 1, h, _ => exact h
  | 2, h, _ => exact h
  | 3, h, hk =>
    obtain ⟨g, e, k⟩ := h
    exact ⟨g, e, SlA.keep k (hk _ (by simp [tyM]))⟩
  | 4, h, hk => exact SlA.keep (show IdW n0 w v (ids ++ [id]) from h) (hk _ (by simp [tyM]))
  | 5, h, hk =>
    obtain ⟨g, e, k⟩ := h
    exact ⟨g, e, SlA.keep k (hk _ (by simp [tyM]))⟩
  | 6, h, hk => exact SlA.keep (show ItW n0 w v (ls ++ [ln]) from h) (hk _ (by simp [tyM]))
  | 7, h, hk =>
    obtain ⟨g, e, k⟩ := h
    exact ⟨g, e, SlA.keep k (hk _ (by simp [tyM]))⟩
  | 8, h, hk =>
    obtain ⟨g, u, e, k, z⟩ := h
    exact ⟨g, u, e, SlA.keep k (hk _ (by simp [tyM])), hZ _ _ _ z (hk _ (by simp [tyM]))⟩
  | 9, h, hk =>
    obtain ⟨u, k, z⟩ := h
    exact ⟨u, SlA.keep k (hk _ (by simp [tyM])), hZ _ _ _ z (hk _ (by simp [tyM]))⟩
  | 10, h, _ => exact h
  | n + 11, h, _ => exact trivial
/-- A Made that holds nothing. -/
def MzC (W : World) (g : Nat) : Prop := W.heap[g]? = some (.cells #[.pointer none, .slice none 0 0, .slice none 0 0, .slice none 0 0] 28 (0, 0))
theorem MzC.cells {W : World} {g : Nat} (h : MzC W g) : (W.cell? ⟨g, 0, none⟩ = some (.pointer none) ∧ W.cell? ⟨g, 1, none⟩ = some (.slice none 0 0) ∧ W.cell? ⟨g, 2, none⟩ = some (.slice none 0 0) ∧ W.cell? ⟨g, 3, none⟩ = some (.slice none 0 0)) ∧ W.frozen? ⟨g, 0, none⟩ = false ∧ W.frozen? ⟨g, 1, none⟩ = false ∧ W.frozen? ⟨g, 2, none⟩ = false ∧ W.frozen? ⟨g, 3, none⟩ = false := by
  unfold MzC at h
  simp [World.cell?, World.frozen?, h]
/-- The text of a letter, in a block of its own. -/
abbrev ZA (n0 b : Nat) (u : Slc) (w : World) : Prop := ∃ g : Nat, u = (some ⟨g, 0, none⟩, 1, 1) ∧ Bys n0 w (slcV u) [b]
/-- A text that is known if it is short. -/
abbrev ZB (n0 : Nat) (x : Slc) (l : List Nat) (u : Slc) (w : World) : Prop := u = x ∧ (l.length ≤ 4096 → Bys n0 w (slcV u) l)
/-- What Build returns. -/
def B14 (n0 : Nat) (W : World) (e : Ending) (w' : World) : Prop := ∃ (B : Nat) (E : List En) (ids : List Nat) (T : List Slc) (iv lv tv : Value), e = .returned (.tuple #[.agg #[.pointer (some ⟨B, 0, none⟩), iv, lv, tv], .bool true]) ∧ StAt n0 w' B 1048576 E ∧ WfD E ∧ E.length ≤ 23400 ∧ ids.length ≤ 90 ∧ IdW n0 w' iv ids ∧ ItW n0 w' lv (lnF E ids) ∧ SlW n0 w' tv T ∧ MdOk n0 w' E ids T ∧ Below n0 W w'
theorem cell_on3 {A C : World} {a : Addr} {v : Value} (h : A.cell? a = some v) (hb : Below A.heap.size A C) : C.cell? a = some v := by
  have h2 := h
  unfold World.cell? at h ⊢
  cases hh : A.heap[a.block]? with
  | none => rw [hh] at h; cases h
  | some o =>
    rw [hb.block a.block (Array.getElem?_eq_some_iff.1 hh).1]
    exact h
theorem StAt.mono' {n0 n1 B most : Nat} {W : World} {E : List En} (h : StAt n1 W B most E) (hn : n0 ≤ n1) : StAt n0 W B most E := by
  obtain ⟨lv, mb, h1, h2, h3, h4, h5⟩ := h
  exact ⟨lv, mb, h1, SlA.mono h2 hn, h3, Nat.le_trans hn h4, Nat.le_trans hn h5⟩
/-- A box into which an empty Made is laid. -/
theorem newMc (w : World) (B : Nat) : ∃ wz w2, w.alloc (.cells #[.pointer none, .slice none 0 0, .slice none 0 0, .slice none 0 0] 28) = wz ∧
    (((wz.setCell ⟨w.heap.size, 0, none⟩ (.pointer (some ⟨B, 0, none⟩))).setCell ⟨w.heap.size, 1, none⟩ (.slice none 0 0)).setCell ⟨w.heap.size, 2, none⟩ (.slice none 0 0)).setCell ⟨w.heap.size, 3, none⟩ (.slice none 0 0) = w2 ∧
    McC w2 w.heap.size B (.slice none 0 0) (.slice none 0 0) (.slice none 0 0) ∧ Below w.heap.size w w2 ∧ MzC wz w.heap.size := by
  have k0 : MzC (w.alloc (.cells #[.pointer none, .slice none 0 0, .slice none 0 0, .slice none 0 0] 28)) w.heap.size := heap_new' _ _
  have b0 : Below w.heap.size w (w.alloc (.cells #[.pointer none, .slice none 0 0, .slice none 0 0, .slice none 0 0] 28)) := (Below.refl _ _).alloc (Nat.le_refl _) _
  refine ⟨_, _, rfl, rfl, ?_, (((b0.setCell (p := ⟨w.heap.size, 0, none⟩) (Nat.le_refl _) _).setCell (p := ⟨w.heap.size, 1, none⟩) (Nat.le_refl _) _).setCell (p := ⟨w.heap.size, 2, none⟩) (Nat.le_refl _) _).setCell (p := ⟨w.heap.size, 3, none⟩) (Nat.le_refl _) _, k0⟩
  unfold MzC at k0
  exact heap_set0 _ (heap_set0 _ (heap_set0 _ (heap_set0 _ k0)))
end M
end Go.Proofs.Ytpjcfepngjpfbaa
