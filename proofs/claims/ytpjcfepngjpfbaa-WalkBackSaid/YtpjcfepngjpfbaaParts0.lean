/- The stack of ranges: halve, divide. -/
import Derived.Test.YtpjcfepngjpfbaaPla
import Derived.Test.YtpjcfepngjpfbaaAcc
import Derived.Test.YtpjcfepngjpfbaaCom
set_option linter.unusedVariables false
set_option linter.unusedSimpArgs false
namespace Go.Proofs.Ytpjcfepngjpfbaa
open Go.RowKit Go.Lib
/-- append of a list that lies in a block to a list of the call's own. -/
theorem wp_catO {α : Type} {P : Program} {w : World} {ops : Array Oper} {rest : List Oper} {o : Oper} {a : Act} {Q : Exit → Act → World → Prop} {t e : TypeId} {size bytes : Nat} (hE : Elem P t e size bytes) {enc : α → List Value} (he : ∀ a, (enc a).length = size) (h1 : ∀ y, ∀ u ∈ enc y, u.oneCell' = true)
    (hgd : o.guard = none) (s x : Operand) (ho : o.op = .call { callee := .builtin .append, args := #[s, x], argTypes := #[t, t] })
    {B₀ B₁ g cap : Nat} {v : Value} {l l2 : List α} {m : Nat} (hs : a.eval s = v) (hS : SlA B₀ w e size enc v l) (hx : a.eval x = .slice (some ⟨g, 0, none⟩) m cap) (hm : m = l2.length) (hS2 : SlA B₁ w e size enc (.slice (some ⟨g, 0, none⟩) m cap) l2)
    (hbytes : (l.length + l2.length) * bytes ≤ 140737488355328) (hbase : B₀ ≤ w.heap.size)
    (h : ∀ v' w', SlA B₀ w' e size enc v' (l ++ l2) → w.grownBy w' v.ownBlock → Below B₀ w w' → wpList P ops Q rest (a.put o.dst v') w') : wpList P ops Q (o :: rest) a w := by
  obtain ⟨ht, i, z, hi, hz, hsz, hby, hzs, h0, hb0⟩ := hE
  subst hm
  refine wpList_append_own _ hgd s x t ho B₀ e i z size bytes ht hi hz hsz hby hzs h0 v l.length (l.flatMap enc) hs hS ⟨g, 0, none⟩ l2.length cap (l2.flatMap enc) hx (flatMap_len he l2) ?_ ?_ ?_ hbytes hbase ?_
  · intro j u hu
    exact World.ownsRow.cells hS2 (g := g) rfl j u hu
  · intro u hu
    obtain ⟨y, -, hy⟩ := List.mem_flatMap.1 hu
    exact h1 y u hy
  · have : (l.length + l2.length) * 1 ≤ (l.length + l2.length) * bytes := Nat.mul_le_mul_left _ hb0
    simp only [maxLen]; omega
  · intro v' w' hown hg _
    exact h v' w' (SlA.append (l2 := l2) hown rfl rfl rfl) hg (below_own hS hg hbase)
/-- The same inside a fence. -/
theorem wp_catInO {α : Type} {F : Fence} {n : Nat} {P : Program} {w : World} {ops : Array Oper} {rest : List Oper} {o : Oper} {a : Act} {Q : Exit → Act → World → Prop} {t e : TypeId} {size bytes : Nat} (hE : Elem P t e size bytes) {enc : α → List Value} (he : ∀ a, (enc a).length = size) (h1 : ∀ y, ∀ u ∈ enc y, u.oneCell' = true)
    (hgd : o.guard = none) (s x : Operand) (ho : o.op = .call { callee := .builtin .append, args := #[s, x], argTypes := #[t, t] })
    {B₀ B₁ g cap : Nat} {v : Value} {l l2 : List α} {m : Nat} (hs : a.eval s = v) (hS : SlA B₀ w e size enc v l) (hx : a.eval x = .slice (some ⟨g, 0, none⟩) m cap) (hm : m = l2.length) (hS2 : SlA B₁ w e size enc (.slice (some ⟨g, 0, none⟩) m cap) l2)
    (hbytes : (l.length + l2.length) * bytes ≤ 140737488355328) (hbase : B₀ ≤ w.heap.size)
    (h : ∀ v' w', SlA B₀ w' e size enc v' (l ++ l2) → w.grownBy w' v.ownBlock → Below B₀ w w' → wpListIn F n P ops Q rest (a.put o.dst v') w') : wpListIn F n P ops Q (o :: rest) a w := by
  obtain ⟨ht, i, z, hi, hz, hsz, hby, hzs, h0, hb0⟩ := hE
  subst hm
  refine wpListIn_append_own _ hgd s x t ho B₀ e i z size bytes ht hi hz hsz hby hzs h0 v l.length (l.flatMap enc) hs hS ⟨g, 0, none⟩ l2.length cap (l2.flatMap enc) hx (flatMap_len he l2) ?_ ?_ ?_ hbytes hbase ?_
  · intro j u hu
    exact World.ownsRow.cells hS2 (g := g) rfl j u hu
  · intro u hu
    obtain ⟨y, -, hy⟩ := List.mem_flatMap.1 hu
    exact h1 y u hy
  · have : (l.length + l2.length) * 1 ≤ (l.length + l2.length) * bytes := Nat.mul_le_mul_left _ hb0
    simp only [maxLen]; omega
  · intro v' w' hown hg _
    exact h v' w' (SlA.append (l2 := l2) hown rfl rfl rfl) hg (below_own hS hg hbase)
/-- A slice without its last element. -/
theorem SlA.pop {α : Type} {B₀ : Nat} {W : World} {e : TypeId} {size : Nat} {enc : α → List Value} (he : ∀ a, (enc a).length = size) {a : Option Addr} {n cap : Nat} {l : List α} {x : α} (h : SlA B₀ W e size enc (.slice a (n + 1) cap) (l ++ [x])) (hn : l.length = n) : SlA B₀ W e size enc (.slice a n cap) l := by
  subst hn
  refine ⟨flatMap_len he l, ?_⟩
  rcases h.2 with ⟨-, hz⟩ | ⟨g, c, cur, hv, hb, hg, h1, h2, h3, h4⟩
  · simp at hz
  · rw [List.length_append, List.length_singleton] at hv h1 h4
    simp only [Value.slice.injEq] at hv
    obtain ⟨rfl, -, rfl⟩ := hv
    refine .inr ⟨g, cap, cur, rfl, hb, hg, by omega, h2, h3, ?_⟩
    have e1 := congrArg (List.take (l.length * size)) h4
    rw [List.take_take, Nat.min_eq_left (Nat.mul_le_mul_right _ (Nat.le_succ _)), List.flatMap_append] at e1
    rw [e1, List.take_append_of_le_length (by rw [flatMap_len he l]; exact Nat.le_refl _), List.take_of_length_le (by rw [flatMap_len he l]; exact Nat.le_refl _)]
namespace M
attribute [local go_sem] Oper.semAt_some
def encSp (s : Sp) : List Value := [.int .i64 s.id, .int .i64 s.frm, .int .i64 s.n, .int .i64 s.times]
theorem encSp_len (s : Sp) : (encSp s).length = 4 := rfl
theorem encSp_one (s : Sp) : ∀ u ∈ encSp s, u.oneCell' = true := by simp [encSp, Value.oneCell']
abbrev spV (s : Sp) : Value := .agg #[.int .i64 s.id, .int .i64 s.frm, .int .i64 s.n, .int .i64 s.times]
abbrev Sps (B : Nat) (W : World) (v : Value) (l : List Sp) : Prop := SlA B W 158 4 encSp v l
theorem elemSp : Elem Try.prog 159 158 4 32 := elem_of Try.underlying159 (z := .agg #[.int .i64 0, .int .i64 0, .int .i64 0, .int .i64 0]) (by kernel_rfl) rfl (by decide) (by decide)
def SpC (W : World) (g : Nat) (s : Sp) : Prop := W.heap[g]? = some (.cells #[.int .i64 s.id, .int .i64 s.frm, .int .i64 s.n, .int .i64 s.times] 158 (0, 0))
theorem SpC.cells {W : World} {g : Nat} {s : Sp} (h : SpC W g s) : W.cell? ⟨g, 0, none⟩ = some (.int .i64 s.id) ∧ W.cell? ⟨g, 1, none⟩ = some (.int .i64 s.frm) ∧ W.cell? ⟨g, 2, none⟩ = some (.int .i64 s.n) ∧ W.cell? ⟨g, 3, none⟩ = some (.int .i64 s.times) := by
  unfold SpC at h
  simp [World.cell?, h]
theorem SpC.free {W : World} {g : Nat} {s : Sp} (h : SpC W g s) (i : Nat) : W.frozen? ⟨g, i, none⟩ = false := by
  unfold SpC at h
  simp [World.frozen?, h]
theorem SpC.set {W : World} {g : Nat} {s0 : Sp} (h : SpC W g s0) (s : Sp) : SpC ((((W.setCell ⟨g, 0, none⟩ (.int .i64 s.id)).setCell ⟨g, 1, none⟩ (.int .i64 s.frm)).setCell ⟨g, 2, none⟩ (.int .i64 s.n)).setCell ⟨g, 3, none⟩ (.int .i64 s.times)) g s := by
  unfold SpC at h ⊢
  exact heap_set0 _ (heap_set0 _ (heap_set0 _ (heap_set0 _ h)))
/-- A box into which a range is laid. -/
theorem newSp (w : World) (s : Sp) : ∃ wz w2, w.alloc (.cells #[.int .i64 0, .int .i64 0, .int .i64 0, .int .i64 0] 158) = wz ∧
    (((wz.setCell ⟨w.heap.size, 0, none⟩ (.int .i64 s.id)).setCell ⟨w.heap.size, 1, none⟩ (.int .i64 s.frm)).setCell ⟨w.heap.size, 2, none⟩ (.int .i64 s.n)).setCell ⟨w.heap.size, 3, none⟩ (.int .i64 s.times) = w2 ∧
    SpC w2 w.heap.size s ∧ Below w.heap.size w w2 ∧ (wz.cell? ⟨w.heap.size, 0, none⟩ = some (.int .i64 0) ∧ wz.cell? ⟨w.heap.size, 1, none⟩ = some (.int .i64 0) ∧ wz.cell? ⟨w.heap.size, 2, none⟩ = some (.int .i64 0) ∧ wz.cell? ⟨w.heap.size, 3, none⟩ = some (.int .i64 0)) ∧
    (wz.frozen? ⟨w.heap.size, 0, none⟩ = false ∧ wz.frozen? ⟨w.heap.size, 1, none⟩ = false ∧ wz.frozen? ⟨w.heap.size, 2, none⟩ = false ∧ wz.frozen? ⟨w.heap.size, 3, none⟩ = false) := by
  have k0 : SpC (w.alloc (.cells #[.int .i64 0, .int .i64 0, .int .i64 0, .int .i64 0] 158)) w.heap.size ⟨0, 0, 0, 0⟩ := heap_new' _ _
  have b0 : Below w.heap.size w (w.alloc (.cells #[.int .i64 0, .int .i64 0, .int .i64 0, .int .i64 0] 158)) := (Below.refl _ _).alloc (Nat.le_refl _) _
  exact ⟨_, _, rfl, rfl, k0.set s, (((b0.setCell (p := ⟨w.heap.size, 0, none⟩) (Nat.le_refl _) _).setCell (p := ⟨w.heap.size, 1, none⟩) (Nat.le_refl _) _).setCell (p := ⟨w.heap.size, 2, none⟩) (Nat.le_refl _) _).setCell (p := ⟨w.heap.size, 3, none⟩) (Nat.le_refl _) _, k0.cells, k0.free 0, k0.free 1, k0.free 2, k0.free 3⟩
/-- What the work on the stack keeps. -/
structure KpS (n : Nat) (A B : World) : Prop where
  below : Below n A B
  cells : ∀ t, t ≠ 158 → KeepT t A B
  others : KeepsOthers A B
theorem KpS.of {n : Nat} {A B : World} (h : Below A.heap.size A B) (hn : n ≤ A.heap.size) : KpS n A B := ⟨h.mono hn, fun _ _ => KeepT.below h, keepsOthers_below h⟩
theorem KpS.trans {n : Nat} {A B C : World} (h : KpS n A B) (k : KpS n B C) : KpS n A C := ⟨h.below.trans k.below, fun t ht => (h.cells t ht).trans (k.cells t ht), h.others.trans k.others⟩
theorem KpS.own {n : Nat} {A B : World} {v : Value} {l : List Sp} (hS : Sps n A v l) (hg : A.grownBy B v.ownBlock) (hn : n ≤ A.heap.size) : KpS n A B := by
  refine ⟨below_own hS hg hn, fun t ht => keep_own hS hg ht, ⟨hg.size, fun k o hk ho => ?_⟩⟩
  rw [hg.block k (Array.getElem?_eq_some_iff.1 hk).1 ?_]
  · exact hk
  · rcases hS.2 with ⟨rfl, _⟩ | ⟨g, cap, cur, rfl, _, hgb, _⟩
    · simp [Value.ownBlock]
    · intro e'
      obtain rfl : k = g := by simpa [Value.ownBlock] using e'
      rw [hk] at hgb; cases hgb; cases ho
set_option maxRecDepth 100000 in
set_option maxHeartbeats 4000000 in
theorem halve_any {n1 : Nat} {W : World} {v : Value} {L : List Sp} (hS : Sps n1 W v L) (hn1 : n1 ≤ W.heap.size) (r : Ru) {l : Nat} (s : Sp) (hl : l ≤ 1152921504606846976) (hf : s.frm ≤ 1152921504606846976) (hn : s.n ≤ 1152921504606846976) (hL : L.length ≤ 4000000) :
    Calls Try.prog 92 #[v, ruV r, .int .i64 l, spV s] W fun e w' => ∃ v', e = .returned v' ∧ Sps n1 w' v' (L ++ halveS r l s) ∧ KpS n1 W w' := by
  have HF : ∀ f, Fence.wide.fn f := fun _ => trivial
  unfold ruV spV
  obtain ⟨va, vc, rfl⟩ := hS.len
  obtain ⟨W1, hW1⟩ : ∃ w, W.alloc (.cells #[.int .i64 r.kind, .int .u8 r.letter, .int .i64 r.left, .int .i64 r.right, .int .i64 r.times] 59) = w := ⟨_, rfl⟩
  have k1 : RuC W1 W.heap.size r := by rw [← hW1]; exact RuC.new _ _
  have b1 : Below W.heap.size W W1 := by rw [← hW1]; exact (Below.refl _ _).alloc (Nat.le_refl _) _
  have s1 : W1.heap.size = W.heap.size + 1 := by rw [← hW1]; simp
  obtain ⟨W2, hW2⟩ : ∃ w, W1.alloc (.cells #[.int .i64 s.id, .int .i64 s.frm, .int .i64 s.n, .int .i64 s.times] 158) = w := ⟨_, rfl⟩
  have k2 : SpC W2 W1.heap.size s := by rw [← hW2]; exact heap_new' _ _
  have b2 : Below W1.heap.size W1 W2 := by rw [← hW2]; exact (Below.refl _ _).alloc (Nat.le_refl _) _
  rw [s1] at k2
  obtain ⟨c0, c1, c2, c3, c4⟩ := RuC.cells (below_block b2 k1)
  obtain ⟨d0, d1, d2, d3⟩ := k2.cells
  have B2 := Lib.hid (Below.after b1 b2)
  have HS := Lib.hid (hS.below (Below.after b1 b2)); have S1 := Lib.hid s1
  have hcl : (if (l : Int) - (s.frm : Int) < 0 then (0 : Int) else if (l : Int) - (s.frm : Int) > (s.n : Int) then (s.n : Int) else (l : Int) - (s.frm : Int)) = ((min (l - s.frm) s.n : Nat) : Int) := by
    split
    · omega
    · split <;> omega
  have HCL := Lib.hid hcl
  obtain ⟨q, hq⟩ : ∃ q, min (l - s.frm) s.n = q := ⟨_, rfl⟩
  have hqn : q ≤ s.n := by omega
  have HQ := Lib.hid hq
  rw [hq] at HCL
  have HST : Hid (halveS r l s = [⟨r.right, s.frm - l, s.n - q, 1⟩, ⟨r.left, min s.frm l, q, 1⟩]) := Lib.hid (by unfold halveS; rw [hq])
  obtain ⟨p, hp⟩ : ∃ p, s.n - q = p := ⟨_, rfl⟩
  have hw1 : IntKind.i64.wrap ((s.n : Int) - (q : Int)) = (p : Int) := by rw [IntKind.wrap_i64]; omega
  rw [hp] at HST
  clear hS k1 k2 b1 b2 hq hcl hp
  by_cases hflt : s.frm < l
  · have hfl : s.frm ≤ l := by omega
    have e1 : (s.frm : Int) - (l : Int) < 0 := by omega
    have e3 : (s.frm : Int) < (l : Int) := by omega
    have e4 : ¬ (l : Int) < (s.frm : Int) := by omega
    have hw3 : IntKind.i64.wrap ((s.frm : Int) - (l : Int)) = (s.frm : Int) - (l : Int) := by rw [IntKind.wrap_i64]; omega
    have HL2 : Hid (halveS r l s = [⟨r.right, 0, p, 1⟩, ⟨r.left, s.frm, q, 1⟩]) := Lib.hid (by rw [HST.out, show s.frm - l = 0 by omega, Nat.min_eq_left hfl])
    obtain ⟨Wc, hWc⟩ : ∃ w, W2.alloc (.cells #[.int .i64 r.right, .int .i64 0, .int .i64 p, .int .i64 1, .int .i64 r.left, .int .i64 s.frm, .int .i64 q, .int .i64 1] 158) = w := ⟨_, rfl⟩
    have lc : Sps W2.heap.size Wc (.slice (some ⟨W2.heap.size, 0, none⟩) 2 2) [⟨r.right, 0, p, 1⟩, ⟨r.left, s.frm, q, 1⟩] := by rw [← hWc]; exact SlA.lit (l := [⟨r.right, 0, p, 1⟩, ⟨r.left, s.frm, q, 1⟩]) encSp_len rfl (by simp; unfold maxLen; omega)
    have bc : Below W2.heap.size W2 Wc := by rw [← hWc]; exact (Below.refl _ _).alloc (Nat.le_refl _) _
    have HLC := Lib.hid lc
    have HSC := Lib.hid (HS.out.below bc)
    have HBC := Lib.hid (Below.after B2.out bc)
    clear lc bc
    go_enter Try.func92, Try.ntmps92
    go_wp2_with fail
    refine (clip_any W2 ((l : Int) - (s.frm : Int)) 0 (s.n : Int)).mono ?_; rintro e w ⟨rfl, h⟩; rw [h, HCL.out]; clear h w
    go_wp2_with (
      at_builtin
      refine wp_catO (l2 := [⟨r.right, 0, p, 1⟩, ⟨r.left, s.frm, q, 1⟩]) elemSp encSp_len encSp_one rfl _ _ rfl rfl HSC.out rfl rfl HLC.out (by simp; omega) (Nat.le_trans hn1 HBC.out.size) ?_
      intro v3 w3 hS3 hg3 hb3
      have HX1 := Lib.hid hS3
      have HX2 := Lib.hid (KpS.trans (KpS.of HBC.out hn1) (KpS.own HSC.out hg3 (Nat.le_trans hn1 HBC.out.size)))
      clear hS3 hg3 hb3)
    go_ret
    exact ⟨_, rfl, by rw [HL2.out]; exact HX1.out, HX2.out⟩
  · by_cases hfe : s.frm = l
    · have HL2 : Hid (halveS r l s = [⟨r.right, 0, p, 1⟩, ⟨r.left, s.frm, q, 1⟩]) := Lib.hid (by rw [HST.out, show s.frm - l = 0 by omega, Nat.min_eq_left (by omega)])
      have hw3 : IntKind.i64.wrap ((s.frm : Int) - (l : Int)) = 0 := by rw [IntKind.wrap_i64]; omega
      have e1 : ¬ (s.frm : Int) < (l : Int) := by omega
      have e3 : ¬ (l : Int) < (s.frm : Int) := by omega
      have e4 : ¬ s.frm < l := by omega
      have e5 : ¬ l < s.frm := by omega
      clear hflt hfe
      obtain ⟨Wc, hWc⟩ : ∃ w, W2.alloc (.cells #[.int .i64 r.right, .int .i64 0, .int .i64 p, .int .i64 1, .int .i64 r.left, .int .i64 s.frm, .int .i64 q, .int .i64 1] 158) = w := ⟨_, rfl⟩
      have lc : Sps W2.heap.size Wc (.slice (some ⟨W2.heap.size, 0, none⟩) 2 2) [⟨r.right, 0, p, 1⟩, ⟨r.left, s.frm, q, 1⟩] := by rw [← hWc]; exact SlA.lit (l := [⟨r.right, 0, p, 1⟩, ⟨r.left, s.frm, q, 1⟩]) encSp_len rfl (by simp; unfold maxLen; omega)
      have bc : Below W2.heap.size W2 Wc := by rw [← hWc]; exact (Below.refl _ _).alloc (Nat.le_refl _) _
      have HLC := Lib.hid lc
      have HSC := Lib.hid (HS.out.below bc)
      have HBC := Lib.hid (Below.after B2.out bc)
      clear lc bc
      go_enter Try.func92, Try.ntmps92
      go_wp2_with fail
      refine (clip_any W2 ((l : Int) - (s.frm : Int)) 0 (s.n : Int)).mono ?_; rintro e w ⟨rfl, h⟩; rw [h, HCL.out]; clear h w
      go_wp2_with (
        at_builtin
        refine wp_catO (l2 := [⟨r.right, 0, p, 1⟩, ⟨r.left, s.frm, q, 1⟩]) elemSp encSp_len encSp_one rfl _ _ rfl rfl HSC.out rfl rfl HLC.out (by simp; omega) (Nat.le_trans hn1 HBC.out.size) ?_
        intro v3 w3 hS3 hg3 hb3
        have HX1 := Lib.hid hS3
        have HX2 := Lib.hid (KpS.trans (KpS.of HBC.out hn1) (KpS.own HSC.out hg3 (Nat.le_trans hn1 HBC.out.size)))
        clear hS3 hg3 hb3)
      go_ret
      exact ⟨_, rfl, by rw [HL2.out]; exact HX1.out, HX2.out⟩
    · obtain ⟨d, hd⟩ : ∃ d, s.frm - l = d := ⟨_, rfl⟩
      have e3 : ¬ (s.frm : Int) < (l : Int) := by omega
      have e4 : (l : Int) ≤ (s.frm : Int) := by omega
      have hw3 : IntKind.i64.wrap ((s.frm : Int) - (l : Int)) = (d : Int) := by rw [IntKind.wrap_i64]; omega
      have HL2 : Hid (halveS r l s = [⟨r.right, d, p, 1⟩, ⟨r.left, l, q, 1⟩]) := Lib.hid (by rw [HST.out, hd, Nat.min_eq_right (by omega)])
      have e6 : l < s.frm := by omega
      clear hd
      obtain ⟨Wc, hWc⟩ : ∃ w, W2.alloc (.cells #[.int .i64 r.right, .int .i64 (d : Int), .int .i64 p, .int .i64 1, .int .i64 r.left, .int .i64 l, .int .i64 q, .int .i64 1] 158) = w := ⟨_, rfl⟩
      have lc : Sps W2.heap.size Wc (.slice (some ⟨W2.heap.size, 0, none⟩) 2 2) [⟨r.right, d, p, 1⟩, ⟨r.left, l, q, 1⟩] := by rw [← hWc]; exact SlA.lit (l := [⟨r.right, d, p, 1⟩, ⟨r.left, l, q, 1⟩]) encSp_len rfl (by simp; unfold maxLen; omega)
      have bc : Below W2.heap.size W2 Wc := by rw [← hWc]; exact (Below.refl _ _).alloc (Nat.le_refl _) _
      have HLC := Lib.hid lc
      have HSC := Lib.hid (HS.out.below bc)
      have HBC := Lib.hid (Below.after B2.out bc)
      clear lc bc
      go_enter Try.func92, Try.ntmps92
      go_wp2_with fail
      refine (clip_any W2 ((l : Int) - (s.frm : Int)) 0 (s.n : Int)).mono ?_; rintro e w ⟨rfl, h⟩; rw [h, HCL.out]; clear h w
      go_wp2_with (
        at_builtin
        refine wp_catO (l2 := [⟨r.right, d, p, 1⟩, ⟨r.left, l, q, 1⟩]) elemSp encSp_len encSp_one rfl _ _ rfl rfl HSC.out rfl rfl HLC.out (by simp; omega) (Nat.le_trans hn1 HBC.out.size) ?_
        intro v3 w3 hS3 hg3 hb3
        have HX1 := Lib.hid hS3
        have HX2 := Lib.hid (KpS.trans (KpS.of HBC.out hn1) (KpS.own HSC.out hg3 (Nat.le_trans hn1 HBC.out.size)))
        clear hS3 hg3 hb3)
      go_ret
      exact ⟨_, rfl, by rw [HL2.out]; exact HX1.out, HX2.out⟩
set_option maxRecDepth 100000 in
set_option maxHeartbeats 8000000 in
theorem divide_any {n1 : Nat} {W : World} {v : Value} {L : List Sp} (hS : Sps n1 W v L) (hn1 : n1 ≤ W.heap.size) (r : Ru) {l : Nat} (s : Sp) (hl0 : 0 < l) (hl : l ≤ 1152921504606846976) (hf : s.frm ≤ 1152921504606846976) (hn : s.n ≤ 1152921504606846976) (hhead : l < s.frm % l + s.n → (l - s.frm % l) % l ≤ s.n) (hL : L.length ≤ 4000000) :
    Calls Try.prog 93 #[v, ruV r, .int .i64 l, spV s] W fun e w' => ∃ v', e = .returned v' ∧ Sps n1 w' v' (L ++ divideS r l s) ∧ KpS n1 W w' := by
  have HF : ∀ f, Fence.wide.fn f := fun _ => trivial
  unfold ruV spV
  obtain ⟨va, vc, rfl⟩ := hS.len
  obtain ⟨W1, hW1⟩ : ∃ w, W.alloc (.cells #[.int .i64 r.kind, .int .u8 r.letter, .int .i64 r.left, .int .i64 r.right, .int .i64 r.times] 59) = w := ⟨_, rfl⟩
  have k1 : RuC W1 W.heap.size r := by rw [← hW1]; exact RuC.new _ _
  have b1 : Below W.heap.size W W1 := by rw [← hW1]; exact (Below.refl _ _).alloc (Nat.le_refl _) _
  have s1 : W1.heap.size = W.heap.size + 1 := by rw [← hW1]; simp
  obtain ⟨W2, hW2⟩ : ∃ w, W1.alloc (.cells #[.int .i64 s.id, .int .i64 s.frm, .int .i64 s.n, .int .i64 s.times] 158) = w := ⟨_, rfl⟩
  have k2 : SpC W2 W1.heap.size s := by rw [← hW2]; exact heap_new' _ _
  have b2 : Below W1.heap.size W1 W2 := by rw [← hW2]; exact (Below.refl _ _).alloc (Nat.le_refl _) _
  rw [s1] at k2
  have k1' := below_block b2 k1
  obtain ⟨c0, c1, c2, c3, c4⟩ := RuC.cells k1'
  obtain ⟨d0, d1, d2, d3⟩ := k2.cells
  have B2 := Lib.hid (Below.after b1 b2)
  have HS := Lib.hid (hS.below (Below.after b1 b2)); have S1 := Lib.hid s1
  have K1 := Lib.hid (show RuC W2 W.heap.size r from k1'); have K2 := Lib.hid k2
  have hl0b : ((l : Int) == 0) = false := by simp; omega
  have hlz : ¬ l = 0 := by omega
  have ht1 : Int.tmod (s.frm : Int) (l : Int) = ((s.frm % l : Nat) : Int) := rfl
  obtain ⟨f, hf0⟩ : ∃ f, s.frm % l = f := ⟨_, rfl⟩
  have hfl : f < l := by rw [← hf0]; exact Nat.mod_lt _ hl0
  rw [hf0] at ht1 hhead
  have HF0 := Lib.hid hf0
  have hfw : IntKind.i64.wrap (f : Int) = (f : Int) := by rw [IntKind.wrap_i64]; omega
  have hHead := Lib.hid hhead
  clear hS k1 k1' k2 b1 b2 hf0 hhead
  by_cases hin : f + s.n ≤ l
  · have hin2 : (f : Int) + (s.n : Int) ≤ (l : Int) := by omega
    have HL2 : Hid (divideS r l s = [⟨r.left, f, s.n, 1⟩]) := Lib.hid (by unfold divideS; rw [HF0.out, if_pos hin])
    obtain ⟨Wc, hWc⟩ : ∃ w, W2.alloc (.cells #[.int .i64 r.left, .int .i64 f, .int .i64 s.n, .int .i64 1] 158) = w := ⟨_, rfl⟩
    have lc : Sps W2.heap.size Wc (.slice (some ⟨W2.heap.size, 0, none⟩) 1 1) [⟨r.left, f, s.n, 1⟩] := by rw [← hWc]; exact SlA.lit (l := [⟨r.left, f, s.n, 1⟩]) encSp_len rfl (by simp; unfold maxLen; omega)
    have bc : Below W2.heap.size W2 Wc := by rw [← hWc]; exact (Below.refl _ _).alloc (Nat.le_refl _) _
    have HLC := Lib.hid lc
    have HSC := Lib.hid (HS.out.below bc)
    have HBC := Lib.hid (Below.after B2.out bc)
    clear lc bc
    go_enter Try.func93, Try.ntmps93
    go_wp2_with (
      at_builtin
      refine wp_catO (l2 := [⟨r.left, f, s.n, 1⟩]) elemSp encSp_len encSp_one rfl _ _ rfl rfl HSC.out rfl rfl HLC.out (by simp; omega) (Nat.le_trans hn1 HBC.out.size) ?_
      intro v3 w3 hS3 hg3 hb3
      have HX1 := Lib.hid hS3
      have HX2 := Lib.hid (KpS.trans (KpS.of HBC.out hn1) (KpS.own HSC.out hg3 (Nat.le_trans hn1 HBC.out.size)))
      clear hS3 hg3 hb3)
    go_ret
    exact ⟨_, rfl, by rw [HL2.out]; exact HX1.out, HX2.out⟩
  · have hin2 : ¬ (f : Int) + (s.n : Int) ≤ (l : Int) := by omega
    have hw1 : IntKind.i64.wrap ((l : Int) - (f : Int)) = ((l - f : Nat) : Int) := by rw [IntKind.wrap_i64]; omega
    have ht2 : Int.tmod ((l - f : Nat) : Int) (l : Int) = (((l - f) % l : Nat) : Int) := rfl
    obtain ⟨h, hh⟩ : ∃ h, (l - f) % l = h := ⟨_, rfl⟩
    have hhl : h < l := by rw [← hh]; exact Nat.mod_lt _ hl0
    have hhn : h ≤ s.n := by rw [← hh]; exact hHead.out (by omega)
    rw [hh] at ht2
    have hhw : IntKind.i64.wrap (h : Int) = (h : Int) := by rw [IntKind.wrap_i64]; omega
    obtain ⟨m, hm⟩ : ∃ m, s.n - h = m := ⟨_, rfl⟩
    have hmb : m ≤ 1152921504606846976 := by omega
    have hw2 : IntKind.i64.wrap ((s.n : Int) - (h : Int)) = (m : Int) := by rw [IntKind.wrap_i64]; omega
    have ht3 : Int.tmod (m : Int) (l : Int) = ((m % l : Nat) : Int) := rfl
    have ht4 : Int.tdiv (m : Int) (l : Int) = ((m / l : Nat) : Int) := rfl
    obtain ⟨x, hx⟩ : ∃ x, m % l = x := ⟨_, rfl⟩
    obtain ⟨y, hy⟩ : ∃ y, m / l = y := ⟨_, rfl⟩
    have hxl : x < l := by rw [← hx]; exact Nat.mod_lt _ hl0
    have hym : y ≤ m := by rw [← hy]; exact Nat.div_le_self _ _
    have hxw : IntKind.i64.wrap (x : Int) = (x : Int) := by rw [IntKind.wrap_i64]; omega
    have hyw : IntKind.i64.wrap (y : Int) = (y : Int) := by rw [IntKind.wrap_i64]; omega
    rw [hx] at ht3
    rw [hy] at ht4
    have HL2 : Hid (divideS r l s = [⟨r.left, 0, x, 1⟩, ⟨r.left, 0, l, y⟩, ⟨r.left, f, h, 1⟩]) := Lib.hid (by unfold divideS; rw [HF0.out, if_neg hin, hh, hm, hx, hy])
    have n2 : ∀ w, Below W2.heap.size W2 w → w.cell? ⟨W.heap.size, 2, none⟩ = some (.int .i64 r.left) := fun w hw => (RuC.cells (below_block hw K1.out)).2.2.1
    clear hh hm hx hy
    go_enter Try.func93, Try.ntmps93
    go_wp2_with fail
    obtain ⟨w3, hw3⟩ : ∃ w, W2.drew = w := ⟨_, rfl⟩
    have S0 : Below W2.heap.size W2 w3 := by rw [← hw3]; exact (Below.refl _ _).drew
    obtain ⟨Wc, hWc⟩ : ∃ w, w3.alloc (.cells #[.int .i64 r.left, .int .i64 0, .int .i64 x, .int .i64 1, .int .i64 r.left, .int .i64 0, .int .i64 l, .int .i64 y, .int .i64 r.left, .int .i64 f, .int .i64 h, .int .i64 1] 158) = w := ⟨_, rfl⟩
    have lc : Sps w3.heap.size Wc (.slice (some ⟨w3.heap.size, 0, none⟩) 3 3) [⟨r.left, 0, x, 1⟩, ⟨r.left, 0, l, y⟩, ⟨r.left, f, h, 1⟩] := by rw [← hWc]; exact SlA.lit (l := [⟨r.left, 0, x, 1⟩, ⟨r.left, 0, l, y⟩, ⟨r.left, f, h, 1⟩]) encSp_len rfl (by simp; unfold maxLen; omega)
    have bc : Below w3.heap.size w3 Wc := by rw [← hWc]; exact (Below.refl _ _).alloc (Nat.le_refl _) _
    have HLC := Lib.hid lc
    have HSC := Lib.hid ((HS.out.below S0).below bc)
    have HBC := Lib.hid (Below.after (Below.after B2.out S0) bc)
    have SC : Below W2.heap.size W2 Wc := Below.after S0 bc
    clear lc bc
    refine wp_region_anyNP (Below W2.heap.size W2) (by kernel_rfl) ?_
    rw [hw3]
    clear hw3
    refine AnyH.take (i := 0) (d := some 40) (v := ?_) (by kernel_rfl) rfl rfl HF (fun _ _ _ h => h) (.inl ⟨by rfl, ?_⟩) (by first | assumption | rfl) ?_
    rotate_left
    · intro w hS; try subst hS
      go_simp; try with_reducible rfl
    try simp only [Act.put, List.setIfInBounds_toArray, List.set_cons_zero, List.set_cons_succ]
    refine AnyH.take (i := 1) (d := some 41) (v := ?_) (by kernel_rfl) rfl rfl HF (fun _ _ _ h => h) (.inl ⟨by rfl, ?_⟩) (by first | assumption | rfl) ?_
    rotate_left
    · intro w hS; try subst hS
      go_simp; try with_reducible rfl
    try simp only [Act.put, List.setIfInBounds_toArray, List.set_cons_zero, List.set_cons_succ]
    refine AnyH.take (i := 2) (d := some 42) (v := ?_) (by kernel_rfl) rfl rfl HF (fun _ _ _ h => h) (.inl ⟨by rfl, ?_⟩) (by first | assumption | rfl) ?_
    rotate_left
    · intro w hS; try subst hS
      go_simp; try with_reducible rfl
    try simp only [Act.put, List.setIfInBounds_toArray, List.set_cons_zero, List.set_cons_succ]
    refine AnyH.take (i := 3) (d := some 43) (v := ?_) (by kernel_rfl) rfl rfl HF (fun _ _ _ h => h) (.inl ⟨by rfl, ?_⟩) (by first | assumption | rfl) ?_
    rotate_left
    · intro w hS; try subst hS
      go_simp; try with_reducible rfl
    try simp only [Act.put, List.setIfInBounds_toArray, List.set_cons_zero, List.set_cons_succ]
    refine AnyH.take (i := 4) (d := some 44) (v := ?_) (by kernel_rfl) rfl rfl HF (fun _ _ _ h => h) (.inl ⟨by rfl, ?_⟩) (by first | assumption | rfl) ?_
    rotate_left
    · intro w hS; try subst hS
      go_simp; try with_reducible rfl
    try simp only [Act.put, List.setIfInBounds_toArray, List.set_cons_zero, List.set_cons_succ]
    refine AnyH.take (i := 5) (d := some 45) (v := ?_) (by kernel_rfl) rfl rfl HF (fun _ _ _ h => h) (.inl ⟨by rfl, ?_⟩) (by first | assumption | rfl) ?_
    rotate_left
    · intro w hS; try subst hS
      go_simp; try with_reducible rfl
    try simp only [Act.put, List.setIfInBounds_toArray, List.set_cons_zero, List.set_cons_succ]
    refine AnyH.take (i := 6) (d := some 46) (v := ?_) (by kernel_rfl) rfl rfl HF (fun _ _ _ h => h) (.inl ⟨by rfl, ?_⟩) (by first | assumption | rfl) ?_
    rotate_left
    · intro w hS; try subst hS
      go_simp; try with_reducible rfl
    try simp only [Act.put, List.setIfInBounds_toArray, List.set_cons_zero, List.set_cons_succ]
    refine AnyH.take (i := 7) (d := some 47) (v := ?_) (by kernel_rfl) rfl rfl HF (fun _ _ _ h => h) (.inl ⟨by rfl, ?_⟩) (by first | assumption | rfl) ?_
    rotate_left
    · intro w hS; try subst hS
      go_simp; try with_reducible rfl
    try simp only [Act.put, List.setIfInBounds_toArray, List.set_cons_zero, List.set_cons_succ]
    refine AnyH.take (i := 8) (d := some 48) (v := ?_) (by kernel_rfl) rfl rfl HF (fun _ _ _ h => h) (.inl ⟨by rfl, ?_⟩) (by first | assumption | rfl) ?_
    rotate_left
    · intro w hS; try subst hS
      go_simp; try with_reducible rfl
    try simp only [Act.put, List.setIfInBounds_toArray, List.set_cons_zero, List.set_cons_succ]
    refine AnyH.take (i := 9) (d := some 49) (v := ?_) (by kernel_rfl) rfl rfl HF (fun _ _ _ h => h) (.inl ⟨by rfl, ?_⟩) (by first | assumption | rfl) ?_
    rotate_left
    · intro w hS; try subst hS
      go_simp; try with_reducible rfl
    try simp only [Act.put, List.setIfInBounds_toArray, List.set_cons_zero, List.set_cons_succ]
    refine AnyH.take (i := 10) (d := some 50) (v := ?_) (by kernel_rfl) rfl rfl HF (fun _ _ _ h => h) (.inl ⟨by rfl, ?_⟩) (by first | assumption | rfl) ?_
    rotate_left
    · intro w hS; try subst hS
      go_simp; try with_reducible rfl
    try simp only [Act.put, List.setIfInBounds_toArray, List.set_cons_zero, List.set_cons_succ]
    refine AnyH.take (i := 11) (d := some 51) (v := ?_) (by kernel_rfl) rfl rfl HF (fun _ _ _ h => h) (.inl ⟨by rfl, ?_⟩) (by first | assumption | rfl) ?_
    rotate_left
    · intro w hS; try subst hS
      go_simp; try with_reducible rfl
    try simp only [Act.put, List.setIfInBounds_toArray, List.set_cons_zero, List.set_cons_succ]
    refine AnyH.take (i := 12) (d := some 52) (v := ?_) (by kernel_rfl) rfl rfl HF (fun _ _ _ h => h) (.inl ⟨by rfl, ?_⟩) (by first | assumption | rfl) ?_
    rotate_left
    · intro w hS; try subst hS
      go_simp; try with_reducible rfl
    try simp only [Act.put, List.setIfInBounds_toArray, List.set_cons_zero, List.set_cons_succ]
    refine AnyH.take (i := 13) (d := some 53) (v := ?_) (by kernel_rfl) rfl rfl HF (fun _ _ _ h => h) (.inl ⟨by rfl, ?_⟩) (by first | assumption | rfl) ?_
    rotate_left
    · intro w hS; try subst hS
      go_simp; try with_reducible rfl
    try simp only [Act.put, List.setIfInBounds_toArray, List.set_cons_zero, List.set_cons_succ]
    refine AnyH.take (i := 14) (d := some 54) (v := ?_) (by kernel_rfl) rfl rfl HF (fun _ _ _ h => h) (.inl ⟨by rfl, ?_⟩) (by first | assumption | rfl) ?_
    rotate_left
    · intro w hS; try subst hS
      go_simp; try with_reducible rfl
    try simp only [Act.put, List.setIfInBounds_toArray, List.set_cons_zero, List.set_cons_succ]
    refine AnyH.take (i := 15) (d := some 55) (v := ?_) (by kernel_rfl) rfl rfl HF (fun _ _ _ h => h) (.inl ⟨by rfl, ?_⟩) (by first | assumption | rfl) ?_
    rotate_left
    · intro w hS; try subst hS
      go_simp; try with_reducible rfl
    try simp only [Act.put, List.setIfInBounds_toArray, List.set_cons_zero, List.set_cons_succ]
    refine AnyH.take (i := 16) (d := some 56) (v := ?_) (by kernel_rfl) rfl rfl HF (fun _ _ _ h => h) (.inl ⟨by rfl, ?_⟩) (by first | assumption | rfl) ?_
    rotate_left
    · intro w hS; try subst hS
      go_simp; try with_reducible rfl
    try simp only [Act.put, List.setIfInBounds_toArray, List.set_cons_zero, List.set_cons_succ]
    refine AnyH.take (i := 17) (d := some 57) (v := ?_) (by kernel_rfl) rfl rfl HF (fun _ _ _ h => h) (.inl ⟨by rfl, ?_⟩) (by first | assumption | rfl) ?_
    rotate_left
    · intro w hS; try subst hS
      go_simp; try with_reducible rfl
    try simp only [Act.put, List.setIfInBounds_toArray, List.set_cons_zero, List.set_cons_succ]
    refine AnyH.take (i := 18) (d := some 58) (v := ?_) (by kernel_rfl) rfl rfl HF (fun _ _ _ h => h) (.inl ⟨by rfl, ?_⟩) (by first | assumption | rfl) ?_
    rotate_left
    · intro w hS; try subst hS
      go_simp; try with_reducible rfl
    try simp only [Act.put, List.setIfInBounds_toArray, List.set_cons_zero, List.set_cons_succ]
    refine AnyH.one (i := 19) (by kernel_rfl) (by kernel_rfl) rfl HF (by rfl) (fun K hK => ?_)
    go_simp
    refine hK _ _ SC ?_
    clear hK K
    try simp only [Act.put, List.setIfInBounds_toArray, List.set_cons_zero, List.set_cons_succ]
    refine AnyH.tailL 20 (by kernel_rfl) ?_
    simp only [List.drop_succ_cons, List.drop_zero]
    clear n2 S0 SC hWc
    gi_wp2_with (
      gi_at_builtin
      refine wp_catInO (l2 := [⟨r.left, 0, x, 1⟩, ⟨r.left, 0, l, y⟩, ⟨r.left, f, h, 1⟩]) elemSp encSp_len encSp_one rfl _ _ rfl rfl HSC.out rfl rfl HLC.out (by simp; omega) (Nat.le_trans hn1 HBC.out.size) ?_
      intro v3 w4 hS3 hg3 hb3
      have HX1 := Lib.hid hS3
      have HX2 := Lib.hid (KpS.trans (KpS.of HBC.out hn1) (KpS.own HSC.out hg3 (Nat.le_trans hn1 HBC.out.size)))
      clear hS3 hg3 hb3)
    refine NP.normal ?_
    go_wp2_with fail
    go_ret
    exact ⟨_, rfl, by rw [HL2.out]; exact HX1.out, HX2.out⟩
end M
end Go.Proofs.Ytpjcfepngjpfbaa
