/- One call on a cursor, whatever it returns; a script of calls. -/
import Derived.Test.YtjbllcakaljpgaaRead
import Derived.Test.YtjbllcakaljpgaaCur2
import Derived.Test.YtjbllcakaljpgaaPick
import Derived.Test.YtjbllcakaljpgaaRefBuild
namespace Go.Proofs.Ytjbllcakaljpgaa
open Go.RowKit Go.Lib
namespace M
attribute [local go_sem] Oper.semAt_some
structure Ac where
  kind : Int
  n : Int
/-- Two cells of a call from an address on. -/
def AcAt (W : World) (b : Addr) (x : Ac) : Prop := W.cell? b = some (.int .i64 x.kind) ∧ W.cell? ⟨b.block, b.off + 1, none⟩ = some (.int .i64 x.n)
theorem AcAt.on {A C : World} {b : Addr} {x : Ac} (h : AcAt A b x) (hb : Below A.heap.size A C) : AcAt C b x := ⟨cell_on h.1 hb, cell_on h.2 hb⟩
/-- A script, wherever it lies. -/
def RowAc (W : World) (v : Value) (L : List Ac) : Prop :=
  ∃ a cap, v = .slice a L.length cap ∧ L.length ≤ cap ∧ cap ≤ maxLen ∧ ∀ (i : Nat) (h : i < L.length), ∃ b, a = some b ∧ AcAt W (b.add (i * 2)) L[i]
theorem RowAc.below {A C : World} {v : Value} {L : List Ac} (h : RowAc A v L) (hb : Below A.heap.size A C) : RowAc C v L := by
  obtain ⟨a, cap, rfl, h1, h2, h⟩ := h
  exact ⟨a, cap, rfl, h1, h2, fun i hi => (h i hi).imp fun b hh => ⟨hh.1, hh.2.on hb⟩⟩
def AcC (W : World) (g : Nat) (x : Ac) : Prop := W.heap[g]? = some (.cells #[.int .i64 x.kind, .int .i64 x.n] 70 (0, 0))
theorem AcC.cells {W : World} {g : Nat} {x : Ac} (h : AcC W g x) : W.cell? ⟨g, 0, none⟩ = some (.int .i64 x.kind) ∧ W.cell? ⟨g, 1, none⟩ = some (.int .i64 x.n) := by
  unfold AcC at h
  simp [World.cell?, h]
theorem AcC.free {W : World} {g : Nat} {x : Ac} (h : AcC W g x) (i : Nat) : W.frozen? ⟨g, i, none⟩ = false := by
  unfold AcC at h
  simp [World.frozen?, h]
/-- A box into which a call is laid. -/
theorem newAc (w : World) (x : Ac) : ∃ wz w2, w.alloc (.cells #[.int .i64 0, .int .i64 0] 70) = wz ∧
    (wz.setCell ⟨w.heap.size, 0, none⟩ (.int .i64 x.kind)).setCell ⟨w.heap.size, 1, none⟩ (.int .i64 x.n) = w2 ∧ AcC w2 w.heap.size x ∧ Below w.heap.size w w2 ∧
    (wz.cell? ⟨w.heap.size, 0, none⟩ = some (.int .i64 0) ∧ wz.cell? ⟨w.heap.size, 1, none⟩ = some (.int .i64 0)) ∧ (wz.frozen? ⟨w.heap.size, 0, none⟩ = false ∧ wz.frozen? ⟨w.heap.size, 1, none⟩ = false) := by
  have k0 : AcC (w.alloc (.cells #[.int .i64 0, .int .i64 0] 70)) w.heap.size ⟨0, 0⟩ := heap_new' _ _
  have b0 : Below w.heap.size w (w.alloc (.cells #[.int .i64 0, .int .i64 0] 70)) := (Below.refl _ _).alloc (Nat.le_refl _) _
  exact ⟨_, _, rfl, rfl, heap_set0 _ (heap_set0 _ k0), (b0.setCell (p := ⟨w.heap.size, 0, none⟩) (Nat.le_refl _) _).setCell (p := ⟨w.heap.size, 1, none⟩) (Nat.le_refl _) _, k0.cells, k0.free 0, k0.free 1⟩
/-- What a call leaves: a cursor within the text, and all else as it was. -/
def ActP (c B id len : Nat) (W : World) (e : Ending) (w' : World) : Prop := (∃ v, e = .returned v) ∧ (∃ k, k ≤ len ∧ CuC w' c B id len k) ∧ BC c W w'
theorem ActP.set {c B id len k0 k : Nat} {W w1 : World} {v : Value} (h : CuC W c B id len k0) (hb : Below W.heap.size W w1) (hk : k ≤ len) : ActP c B id len W (.returned v) (w1.setCell ⟨c, 3, none⟩ (.int .i64 k)) :=
  ⟨⟨v, rfl⟩, ⟨k, hk, CuC.move (below_block hb h) k⟩, (BC.of hb).set (p := ⟨c, 3, none⟩) (.inr rfl) _⟩
theorem ActP.keep {c B id len k : Nat} {W w1 : World} {v : Value} (h : CuC W c B id len k) (hb : Below W.heap.size W w1) (hk : k ≤ len) : ActP c B id len W (.returned v) w1 :=
  ⟨⟨v, rfl⟩, ⟨k, hk, below_block hb h⟩, .of hb⟩
section
variable {n0 B most : Nat} {W : World} {E : List En} {c id len k : Nat}
theorem act_seek (h : CuC W c B id len k) (hk : k ≤ len) (n : Int) : Calls Try.prog 15 #[.pointer (some ⟨c, 0, none⟩), .int .i64 n] W (ActP c B id len W) := by
  refine (seek_any h n).mono ?_
  rintro e w' (⟨h1, h2, rfl, rfl⟩ | ⟨-, rfl, rfl⟩)
  · obtain ⟨a, rfl⟩ : ∃ a : Nat, n = (a : Int) := ⟨n.toNat, by omega⟩
    exact ActP.set h (Below.refl _ _) (by omega)
  · exact ActP.keep h (Below.refl _ _) hk
theorem act_skip (h : CuC W c B id len k) (hk : k ≤ len) (hl : len ≤ 1152921504606846976) (n : Int) : Calls Try.prog 12 #[.pointer (some ⟨c, 0, none⟩), .int .i64 n] W (ActP c B id len W) := by
  refine (skip_any h hk hl n).mono ?_
  rintro e w' ⟨rfl, w1, b1, rfl⟩
  have hin := mv_in hk n
  obtain ⟨a, ha⟩ : ∃ a : Nat, (k : Int) + mv len k n = (a : Int) := ⟨((k : Int) + mv len k n).toNat, by omega⟩
  rw [ha] at hin ⊢
  exact ActP.set h b1 (by omega)
theorem act_next (hs : StAt n0 W B most E) (hwf : Wf E) (hE : E.length ≤ 1048576) (h : CuC W c B id len k) (hid : id ≤ E.length) (hlen : (txt E id).length = len) (hk : k ≤ len) : Calls Try.prog 16 #[.pointer (some ⟨c, 0, none⟩)] W (ActP c B id len W) := by
  have hlb := (hwf.len hid).2
  rcases Nat.lt_or_ge k len with g | g
  · refine (next_some hs hwf hE h hid g (by omega) (List.getElem?_eq_getElem (by omega))).mono ?_
    rintro e w' ⟨rfl, w1, b1, rfl⟩
    exact ActP.set h b1 (by omega)
  · obtain rfl : k = len := by omega
    refine (next_none h).mono ?_
    rintro e w' ⟨rfl, b1⟩
    exact ActP.keep h b1 hk
theorem act_prev (hs : StAt n0 W B most E) (hwf : Wf E) (hE : E.length ≤ 1048576) (h : CuC W c B id len k) (hid : id ≤ E.length) (hlen : (txt E id).length = len) (hk : k ≤ len) : Calls Try.prog 18 #[.pointer (some ⟨c, 0, none⟩)] W (ActP c B id len W) := by
  have hlb := (hwf.len hid).2
  cases k with
  | zero =>
    refine (prev_none h).mono ?_
    rintro e w' ⟨rfl, rfl⟩
    exact ActP.keep h (Below.refl _ _) hk
  | succ j =>
    refine (prev_some hs hwf hE h hid (by omega) (by omega) (List.getElem?_eq_getElem (by omega))).mono ?_
    rintro e w' ⟨rfl, w1, b1, rfl⟩
    exact ActP.set h b1 (by omega)
theorem act_read (hs : StAt n0 W B most E) (hwf : Wf E) (hE : E.length ≤ 1048576) (h : CuC W c B id len k) (hid : id ≤ E.length) (hlen : (txt E id).length = len) (hk : k ≤ len) (n : Int) : Calls Try.prog 21 #[.pointer (some ⟨c, 0, none⟩), .int .i64 n] W (ActP c B id len W) := by
  refine (read_any hs hwf hE h hid hlen hk n).mono ?_
  rintro e w' ⟨v, rfl, -, h2, h3⟩
  exact ⟨⟨v, rfl⟩, ⟨_, by have := (rdN_le len k n).2; omega, h2⟩, h3⟩
theorem act_nextl (hs : StAt n0 W B most E) (hwf : Wf E) (hE : E.length ≤ 1048576) (h : CuC W c B id len k) (hid : id ≤ E.length) (hlen : (txt E id).length = len) (hk : k ≤ len) : Calls Try.prog 25 #[.pointer (some ⟨c, 0, none⟩)] W (ActP c B id len W) := by
  refine (nextl_any hs hwf hE h hid (by omega)).mono ?_
  intro e w' m
  obtain ⟨rfl, h1, h2⟩ := m.bc h
  refine ⟨⟨_, rfl⟩, ⟨_, ?_, h1⟩, h2⟩
  rcases Nat.eq_zero_or_pos (((txt E id).drop k).count 10) with g | g
  · rw [nxF_none g]; exact hk
  · rw [nxF_some (by omega) g, ← hlen]; exact (nx_at (by omega) g).1
theorem act_prevl (hs : StAt n0 W B most E) (hwf : Wf E) (hE : E.length ≤ 1048576) (h : CuC W c B id len k) (hid : id ≤ E.length) (hlen : (txt E id).length = len) (hk : k ≤ len) : Calls Try.prog 26 #[.pointer (some ⟨c, 0, none⟩)] W (ActP c B id len W) := by
  refine (prevl_any hs hwf hE h hid (by omega)).mono ?_
  intro e w' m
  obtain ⟨rfl, h1, h2⟩ := m.bc h
  refine ⟨⟨_, rfl⟩, ⟨_, ?_, h1⟩, h2⟩
  rcases pv_cases (t := txt E id) (a := k) (by omega) with ⟨-, g, -⟩ | ⟨-, -, g, -⟩ | ⟨-, -, -, p, g, hp, -⟩
  · rw [g]; exact hk
  · rw [g]; show k - _ ≤ len; omega
  · rw [g]; show p ≤ len; omega
end
set_option maxRecDepth 100000 in
set_option maxHeartbeats 8000000 in
theorem do_any {n0 B most : Nat} {W : World} {E : List En} {c id len k : Nat} (hs : StAt n0 W B most E) (hwf : Wf E) (hE : E.length ≤ 1048576) (h : CuC W c B id len k) (hid : id ≤ E.length) (hlen : (txt E id).length = len) (hk : k ≤ len) (x : Ac) :
    Calls Try.prog 31 #[.pointer (some ⟨c, 0, none⟩), .agg #[.int .i64 x.kind, .int .i64 x.n]] W fun e w' => e = .returned (.tuple #[]) ∧ (∃ k, k ≤ len ∧ CuC w' c B id len k) ∧ BC c W w' := by
  have hlb := (hwf.len hid).2
  rw [hlen] at hlb
  obtain ⟨W1, hW1⟩ : ∃ w, W.alloc (.cells #[.int .i64 x.kind, .int .i64 x.n] 70) = w := ⟨_, rfl⟩
  have b1 : Below W.heap.size W W1 := by rw [← hW1]; exact (Below.refl _ _).alloc (Nat.le_refl _) _
  have a1 : AcC W1 W.heap.size x := by rw [← hW1]; exact heap_new' _ _
  obtain ⟨x0, x1⟩ := a1.cells
  have k1 : CuC W1 c B id len k := below_block b1 h
  have s1 := hs.below b1
  obtain ⟨q, hq⟩ : ∃ q, x.kind % ((9 : Nat) : Int) = q := ⟨_, rfl⟩
  have hqr : 0 ≤ q ∧ q < 9 := by omega
  have HP := Lib.hid (pick_any W1 x.kind 9 (by omega) (by omega))
  rw [hq] at HP
  have HB := Lib.hid (BC.of (C := c) b1)
  have A0 := Lib.hid (fun n => act_seek k1 hk n)
  have A1 := Lib.hid (fun n => act_skip k1 hk hlb n)
  have A2 := Lib.hid (act_next s1 hwf hE k1 hid hlen hk)
  have A3 := Lib.hid (act_prev s1 hwf hE k1 hid hlen hk)
  have A5 := Lib.hid (fun n => act_read s1 hwf hE k1 hid hlen hk n)
  have A7 := Lib.hid (act_nextl s1 hwf hE k1 hid hlen hk)
  have A8 := Lib.hid (act_prevl s1 hwf hE k1 hid hlen hk)
  have HK : Hid (k ≤ len ∧ CuC W1 c B id len k) := Lib.hid ⟨hk, k1⟩
  clear h hs hwf hq b1 a1 k1 s1 hlb hlen hk
  obtain ⟨hq0, hq9⟩ := hqr
  have hcs : q = 0 ∨ q = 1 ∨ q = 2 ∨ q = 3 ∨ q = 5 ∨ q = 7 ∨ q = 8 ∨ (q = 4 ∨ q = 6) := by omega
  clear hq0 hq9
  rcases hcs with rfl | rfl | rfl | rfl | rfl | rfl | rfl | hq46
  · go_enter Try.func31, Try.ntmps31
    go_wp2_with fail
    refine HP.out.mono ?_; rintro e w ⟨rfl, h⟩; rw [h]; clear h w
    go_wp2_with fail
    refine ((A0.out _)).mono ?_; rintro e w' ⟨⟨v, rfl⟩, hk, hb⟩
    have HX := Lib.hid hk; have HY := Lib.hid hb
    clear hk hb
    go_wp2_with fail
    go_end0
    exact ⟨rfl, HX.out, HB.out.trans HY.out⟩
  · go_enter Try.func31, Try.ntmps31
    go_wp2_with fail
    refine HP.out.mono ?_; rintro e w ⟨rfl, h⟩; rw [h]; clear h w
    go_wp2_with fail
    refine ((A1.out _)).mono ?_; rintro e w' ⟨⟨v, rfl⟩, hk, hb⟩
    have HX := Lib.hid hk; have HY := Lib.hid hb
    clear hk hb
    go_wp2_with fail
    go_end0
    exact ⟨rfl, HX.out, HB.out.trans HY.out⟩
  · go_enter Try.func31, Try.ntmps31
    go_wp2_with fail
    refine HP.out.mono ?_; rintro e w ⟨rfl, h⟩; rw [h]; clear h w
    go_wp2_with fail
    refine (A2.out).mono ?_; rintro e w' ⟨⟨v, rfl⟩, hk, hb⟩
    have HX := Lib.hid hk; have HY := Lib.hid hb
    clear hk hb
    go_wp2_with fail
    go_end0
    exact ⟨rfl, HX.out, HB.out.trans HY.out⟩
  · go_enter Try.func31, Try.ntmps31
    go_wp2_with fail
    refine HP.out.mono ?_; rintro e w ⟨rfl, h⟩; rw [h]; clear h w
    go_wp2_with fail
    refine (A3.out).mono ?_; rintro e w' ⟨⟨v, rfl⟩, hk, hb⟩
    have HX := Lib.hid hk; have HY := Lib.hid hb
    clear hk hb
    go_wp2_with fail
    go_end0
    exact ⟨rfl, HX.out, HB.out.trans HY.out⟩
  · by_cases h100 : (100 : Int) < x.n
    all_goals
      go_enter Try.func31, Try.ntmps31
      go_wp2_with fail
      refine HP.out.mono ?_; rintro e w ⟨rfl, h⟩; rw [h]; clear h w
      go_wp2_with fail
      refine (A5.out _).mono ?_; rintro e w' ⟨⟨v, rfl⟩, hk, hb⟩
      have HX := Lib.hid hk; have HY := Lib.hid hb
      clear hk hb
      go_wp2_with fail
      go_end0
      exact ⟨rfl, HX.out, HB.out.trans HY.out⟩
  · go_enter Try.func31, Try.ntmps31
    go_wp2_with fail
    refine HP.out.mono ?_; rintro e w ⟨rfl, h⟩; rw [h]; clear h w
    go_wp2_with fail
    refine (A7.out).mono ?_; rintro e w' ⟨⟨v, rfl⟩, hk, hb⟩
    have HX := Lib.hid hk; have HY := Lib.hid hb
    clear hk hb
    go_wp2_with fail
    go_end0
    exact ⟨rfl, HX.out, HB.out.trans HY.out⟩
  · go_enter Try.func31, Try.ntmps31
    go_wp2_with fail
    refine HP.out.mono ?_; rintro e w ⟨rfl, h⟩; rw [h]; clear h w
    go_wp2_with fail
    refine (A8.out).mono ?_; rintro e w' ⟨⟨v, rfl⟩, hk, hb⟩
    have HX := Lib.hid hk; have HY := Lib.hid hb
    clear hk hb
    go_wp2_with fail
    go_end0
    exact ⟨rfl, HX.out, HB.out.trans HY.out⟩
  · rcases hq46 with rfl | rfl
    all_goals
      go_enter Try.func31, Try.ntmps31
      go_wp2_with fail
      refine HP.out.mono ?_; rintro e w ⟨rfl, h⟩; rw [h]; clear h w
      go_wp2_with fail
      go_end0
      exact ⟨rfl, ⟨k, HK.out⟩, HB.out⟩
end M
end Go.Proofs.Ytjbllcakaljpgaa
