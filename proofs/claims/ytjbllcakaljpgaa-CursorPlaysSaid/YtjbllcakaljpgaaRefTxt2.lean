/- The reference's Refs, Expand, Text. -/
import Derived.Test.YtjbllcakaljpgaaBase
import Derived.Test.YtjbllcakaljpgaaMake
import Derived.Test.YtjbllcakaljpgaaRefTxt
import Derived.Test.YtjbllcakaljpgaaRefOne
namespace Go.Proofs.Ytjbllcakaljpgaa
open Go.RowKit

theorem heap_set {W : World} {g : Nat} {cs : Array Value} {t : TypeId} {i : Nat} (v : Value) (h : W.heap[g]? = some (.cells cs t (0, 0))) : (W.setCell ⟨g, i, none⟩ v).heap[g]? = some (.cells (cs.setIfInBounds i v) t (0, 0)) := by
  obtain ⟨hlt, hk⟩ := Array.getElem?_eq_some_iff.1 h
  show (W.heap.modify g _)[g]? = _
  rw [Array.getElem?_eq_getElem (by rw [Array.size_modify]; exact hlt), Array.getElem_modify_self, hk]
  rfl

/-- Block g is a row of n elements; element i is F i where D holds. -/
def Arr {α : Type} (ev : α → Value) (t : TypeId) (w : World) (g n : Nat) (D : Nat → Prop) (F : Nat → α) : Prop :=
  ∃ cs : Array Value, w.heap[g]? = some (.cells cs t (0, 0)) ∧ cs.size = n ∧ ∀ i, i < n → D i → cs[i]? = some (ev (F i))
section
variable {α : Type} {ev : α → Value} {t : TypeId} {w : World} {g n : Nat} {D : Nat → Prop} {F : Nat → α}
theorem Arr.lt (h : Arr ev t w g n D F) : g < w.heap.size := by obtain ⟨cs, h, -⟩ := h; exact (Array.getElem?_eq_some_iff.1 h).1
theorem Arr.cell (h : Arr ev t w g n D F) {i : Nat} (hi : i < n) (hd : D i) : w.cell? ⟨g, i, none⟩ = some (ev (F i)) := by
  obtain ⟨cs, h, -, hc⟩ := h
  simp [World.cell?, h, hc i hi hd]
theorem Arr.held (h : Arr ev t w g n D F) {i : Nat} (hi : i < n) : ∃ u, w.cell? ⟨g, i, none⟩ = some u := by
  obtain ⟨cs, h, hs, -⟩ := h
  exact ⟨cs[i]'(by omega), by simp [World.cell?, h, hs, hi]⟩
theorem Arr.free (h : Arr ev t w g n D F) (i : Nat) : w.frozen? ⟨g, i, none⟩ = false := by
  obtain ⟨cs, h, -⟩ := h
  simp [World.frozen?, h]
theorem Arr.below {w' : World} (h : Arr ev t w g n D F) (hb : Below w.heap.size w w') : Arr ev t w' g n D F := by
  obtain ⟨cs, h, r⟩ := h
  exact ⟨cs, box_below hb h, r⟩
theorem Arr.set (h : Arr ev t w g n D F) {i : Nat} {v : Value} (hv : v = ev (F i)) {D' : Nat → Prop} (hd : ∀ k, D' k → k ≠ i → D k) : Arr ev t (w.setCell ⟨g, i, none⟩ v) g n D' F := by
  subst hv
  obtain ⟨cs, h, hs, hc⟩ := h
  refine ⟨_, heap_set _ h, by simp [hs], fun k hk hdk => ?_⟩
  by_cases e : i = k
  · subst e; rw [Array.getElem?_setIfInBounds_self_of_lt (by omega)]
  · rw [Array.getElem?_setIfInBounds_ne e]; exact hc k hk (hd k hdk (fun x => e x.symm))
theorem Arr.setAny (h : Arr ev t w g n D F) {i : Nat} (v : Value) {D' : Nat → Prop} (hd : ∀ k, D' k → k ≠ i ∧ D k) : Arr ev t (w.setCell ⟨g, i, none⟩ v) g n D' F := by
  obtain ⟨cs, h, hs, hc⟩ := h
  refine ⟨_, heap_set _ h, by simp [hs], fun k hk hdk => ?_⟩
  rw [Array.getElem?_setIfInBounds_ne (fun e => (hd k hdk).1 e.symm)]
  exact hc k hk (hd k hdk).2
theorem Arr.other (h : Arr ev t w g n D F) {a : Addr} (v : Value) (ha : g ≠ a.block) : Arr ev t (w.setCell a v) g n D F := by
  obtain ⟨cs, h, r⟩ := h
  refine ⟨cs, ?_, r⟩
  rw [Below.heap_setCell]
  · exact h
  · exact ha
theorem Arr.made (w : World) (z : Value) (n : Nat) (t : TypeId) (ev : α → Value) (F : Nat → α) : Arr ev t (w.alloc (.cells (madeCells #[z] n) t)) w.heap.size n (fun _ => False) F :=
  ⟨_, heap_new w _, size_madeCells _ _, fun _ _ h => h.elim⟩
theorem Arr.dom (h : Arr ev t w g n D F) {D' : Nat → Prop} (hd : ∀ i, i < n → D' i → D i) : Arr ev t w g n D' F := by
  obtain ⟨cs, h1, h2, h3⟩ := h
  exact ⟨cs, h1, h2, fun i hi hD => h3 i hi (hd i hi hD)⟩
theorem Arr.row (h : Arr ev t w g n D F) (hd : ∀ i, i < n → D i) (hn : n ≤ maxLen) : RowAt ev w (.slice (some ⟨g, 0, none⟩) n n) ((List.range n).map F) := by
  refine ⟨some ⟨g, 0, none⟩, n, by simp, by simp, hn, fun i hi => ⟨_, rfl, ?_⟩⟩
  have hi' : i < n := by simpa using hi
  have e : (⟨g, 0, none⟩ : Addr).add i = ⟨g, i, none⟩ := by unfold Addr.add; split <;> simp_all
  rw [e, h.cell hi' (hd i hi')]
  simp
end
theorem box_other {W : World} {B : Nat} {o : Obj} {a : Addr} (v : Value) (h : W.heap[B]? = some o) (ha : B ≠ a.block) : (W.setCell a v).heap[B]? = some o := by
  rw [Below.heap_setCell]
  · exact h
  · exact ha
end Go.Proofs.Ytjbllcakaljpgaa
namespace Go.Proofs.Ytjbllcakaljpgaa
open Go.RowKit Go.Lib
namespace M
attribute [local go_sem] Oper.semAt_some
def refsL (r : Ru) : List Nat := if r.kind = 2 then [r.left, r.right] else if r.kind = 3 then [r.left] else []
set_option maxRecDepth 100000 in
set_option maxHeartbeats 1000000 in
theorem refs_any (W : World) (r : Ru) : Calls Try.prog 78 #[ruV r] W fun e w' => ∃ v, e = .returned v ∧ Ids W.heap.size w' v (refsL r) ∧ Below W.heap.size W w' := by
  unfold ruV
  obtain ⟨W1, hW1⟩ : ∃ w, W.alloc (.cells #[.int .i64 r.kind, .int .u8 r.letter, .int .i64 r.left, .int .i64 r.right, .int .i64 r.times] 115) = w := ⟨_, rfl⟩
  have k1 : RuC W1 W.heap.size r := by rw [← hW1]; exact RuC.new _ _
  have b1 : Below W.heap.size W W1 := by rw [← hW1]; exact (Below.refl _ _).alloc (Nat.le_refl _) _
  obtain ⟨c0, c1, c2, c3, c4⟩ := k1.cells
  have B1 := Lib.hid b1
  clear k1 b1
  by_cases h2 : r.kind = 2
  · have h2b : ((r.kind : Int) == 2) = true := by simp [h2]
    obtain ⟨W2, hW2⟩ : ∃ w, W1.alloc (.cells #[.int .i64 r.left, .int .i64 r.right] 26) = w := ⟨_, rfl⟩
    have l2 : Ids W1.heap.size W2 (.slice (some ⟨W1.heap.size, 0, none⟩) 2 2) [r.left, r.right] := by rw [← hW2]; exact SlA.lit (l := [r.left, r.right]) encLn_len rfl (by simp; unfold maxLen; omega)
    have HX : Hid (Ids W.heap.size W2 (.slice (some ⟨W1.heap.size, 0, none⟩) 2 2) (refsL r) ∧ Below W.heap.size W W2) := Lib.hid ⟨by unfold refsL; rw [if_pos h2]; exact SlA.mono l2 B1.out.size, by rw [← hW2]; exact B1.out.alloc B1.out.size _⟩
    clear l2 h2
    go_enter Try.func78, Try.ntmps78
    go_wp2_with fail
    go_ret
    exact ⟨_, rfl, HX.out.1, HX.out.2⟩
  · have h2b : ((r.kind : Int) == 2) = false := by simp; omega
    by_cases h3 : r.kind = 3
    · have h3b : ((r.kind : Int) == 3) = true := by simp [h3]
      obtain ⟨W2, hW2⟩ : ∃ w, W1.alloc (.cells #[.int .i64 r.left] 26) = w := ⟨_, rfl⟩
      have l2 : Ids W1.heap.size W2 (.slice (some ⟨W1.heap.size, 0, none⟩) 1 1) [r.left] := by rw [← hW2]; exact SlA.lit (l := [r.left]) encLn_len rfl (by simp; unfold maxLen; omega)
      have HX : Hid (Ids W.heap.size W2 (.slice (some ⟨W1.heap.size, 0, none⟩) 1 1) (refsL r) ∧ Below W.heap.size W W2) := Lib.hid ⟨by unfold refsL; rw [if_neg h2, if_pos h3]; exact SlA.mono l2 B1.out.size, by rw [← hW2]; exact B1.out.alloc B1.out.size _⟩
      clear l2 h2 h3
      go_enter Try.func78, Try.ntmps78
      go_wp2_with fail
      go_ret
      exact ⟨_, rfl, HX.out.1, HX.out.2⟩
    · have h3b : ((r.kind : Int) == 3) = false := by simp; omega
      have HX : Hid (Ids W.heap.size W1 (.slice none 0 0) (refsL r)) := Lib.hid (by unfold refsL; rw [if_neg h2, if_neg h3]; exact SlA.nil _ _ _ _ _)
      clear h2 h3
      go_enter Try.func78, Try.ntmps78
      go_wp2_with fail
      go_ret
      exact ⟨_, rfl, HX.out, B1.out⟩
/-- A length, but no more than 301. -/
def capL (E : List En) (j : Nat) : Nat := min (txt E j).length 301
abbrev LnA (W : World) (g n i : Nat) (E : List En) : Prop := Arr (fun x : Nat => Value.int .i64 x) 3 W g n (· ≤ i) (capL E)
/-- What Expand answers. -/
def ExpP (E : List En) (n : Nat) (W : World) (e : Ending) (w' : World) : Prop := ((txt E n).length ≤ 300 ∧ ∃ v, e = .returned (.tuple #[v, .bool true]) ∧ Bys W.heap.size w' v (txt E n) ∧ Below W.heap.size W w') ∨ (¬ (txt E n).length ≤ 300 ∧ e = .returned (.tuple #[.slice none 0 0, .bool false]) ∧ Below W.heap.size W w')
set_option maxRecDepth 100000 in
set_option maxHeartbeats 8000000 in
theorem expand_any {E : List En} (hwf : Wf E) (hE : E.length ≤ 1048576) {B0 g n cap : Nat} {W : World} (hR : RuN B0 W g n cap E) (hn0 : 0 < n) (hn : n ≤ E.length) :
    Calls Try.prog 51 #[.slice (some ⟨g, 0, none⟩) n cap, .int .i64 300] W (ExpP E n W) := by
  have HF : ∀ f, Fence.wide.fn f := fun _ => trivial
  have HWF := Lib.hid hwf; have HR := Lib.hid hR
  have hmk : ∀ w : World, (Instr.makeSlice 59 (.int .i64 ((n + 1 : Nat) : Int)) (.int .i64 ((n + 1 : Nat) : Int))).run Try.prog w = .ok (.slice (some ⟨w.heap.size, 0, none⟩) (n + 1) (n + 1)) (w.alloc (.cells (madeCells #[.int .i64 0] (n + 1)) 3)) := fun w => by
    have h := mk_run (P := Try.prog) (t := 59) (e := 3) (z := .int .i64 0) (size := 1) (bytes := 8) (by kernel_rfl) (by kernel_rfl) (n + 1) (n + 1) (by omega) (by omega) (by omega) w
    have hz : (Value.int .i64 0).cells = #[Value.int .i64 0] := rfl
    rw [hz] at h
    simpa using h
  have hnw : IntKind.i64.wrap ((n : Int) + 1) = ((n + 1 : Nat) : Int) := by rw [IntKind.wrap_i64]; omega
  have hnb : ((n : Int) == 0) = false := by simp; omega
  obtain ⟨W1, hW1⟩ : ∃ w, W.alloc (.cells (madeCells #[.int .i64 0] (n + 1)) 3) = w := ⟨_, rfl⟩
  have a1 : LnA W1 W.heap.size (n + 1) 0 E := by
    rw [← hW1]
    refine ⟨_, heap_new' _ _, size_madeCells _ _, fun i hi h0 => ?_⟩
    obtain rfl : i = 0 := by omega
    rw [madeCells_get hi]
    have : capL E 0 = 0 := by unfold capL; rw [txt_zero]; rfl
    rw [this]; rfl
  have b1 : Below W.heap.size W W1 := by rw [← hW1]; exact (Below.refl _ _).alloc (Nat.le_refl _) _
  obtain ⟨gl, hgl⟩ : ∃ x, W.heap.size = x := ⟨_, rfl⟩
  have HGL := Lib.hid hgl
  have A1 := Lib.hid a1; have B1 := Lib.hid b1
  rw [hgl] at A1
  clear hwf hR a1 b1
  obtain ⟨n1, hn1⟩ : ∃ x, n + 1 = x := ⟨_, rfl⟩
  rw [hn1] at hmk hnw A1 hW1
  have HN1 := Lib.hid hn1
  clear hn1
  go_enter Try.func51, Try.ntmps51
  go_wp2_with fail
  clear hmk hnw hnb hW1
  go_loopw [7] (fun iv wr => ∃ i : Nat, iv = .int .i64 i ∧ i ≤ n ∧ LnA wr gl n1 i E ∧ Below W.heap.size W wr) (fun iv _ => n - (intOf iv).toNat)
  case atStart => exact ⟨0, rfl, Nat.zero_le _, A1.out, B1.out⟩
  case round =>
    clear A1 B1
    obtain ⟨i, rfl, hi, hA, hB⟩ := hrel
    have HA := Lib.hid hA; have HB := Lib.hid hB
    clear hA hB
    by_cases hlt : i < n
    · have hlt2 : (i : Int) < (n : Int) := by omega
      have hi0 : (0 : Int) ≤ (i : Int) := by omega
      obtain ⟨q0, q1, q2, q3, q4⟩ := RuN.at (HR.out.below HB.out) hn (show 0 < i + 1 by omega) (by omega)
      simp only [Nat.add_sub_cancel] at q0 q1 q2 q3 q4
      have HRL := Lib.hid (HWF.out.rule (i + 1) (by omega) (by omega)).cases
      have HIL : Hid (i + 1 < n1) := Lib.hid (by have := HN1.out; omega)
      have HSET : Hid (∀ (w : World) (m : Nat), LnA w gl n1 i E → m = capL E (i + 1) → LnA (w.setCell ⟨gl, i + 1, none⟩ (.int .i64 m)) gl n1 (i + 1) E) := Lib.hid (fun w m h hm => Arr.set h (by rw [hm]) (fun k hk hne => by omega))
      have HBS : Hid (∀ (w : World) (m : Nat), Below W.heap.size W w → Below W.heap.size W (w.setCell ⟨gl, i + 1, none⟩ (.int .i64 m))) := Lib.hid (fun w m h => h.setCell (p := ⟨gl, i + 1, none⟩) (by have := HGL.out; show W.heap.size ≤ gl; omega) _)
      have hiw : IntKind.i64.wrap ((i : Int) + 1) = ((i + 1 : Nat) : Int) := by rw [IntKind.wrap_i64]; omega
      have hil1 : ((i + 1 : Nat) : Int) < (n1 : Int) := by have := HIL.out; omega
      have hil0 : (0 : Int) ≤ ((i + 1 : Nat) : Int) := by omega
      obtain ⟨r, hr⟩ : ∃ r, (entAt E (i + 1)).ru = r := ⟨_, rfl⟩
      rw [hr] at q0 q1 q2 q3 q4 HRL
      obtain ⟨wz, w1, hz, hs, kr, br, ⟨p0, p1, p2, p3, p4⟩, e0, e1, e2, e3, e4⟩ := newRu wr r
      obtain ⟨gr, hgr⟩ : ∃ x, wr.heap.size = x := ⟨_, rfl⟩
      rw [hgr] at hs p0 p1 p2 p3 p4 e0 e1 e2 e3 e4 kr
      obtain ⟨y0, y1, y2, y3, y4⟩ := kr.cells
      have HRF := Lib.hid (refs_any w1 r)
      unfold ruV at HRF
      have KR1 := Lib.hid kr; have BR1 := Lib.hid br
      have HRR : Hid (∀ x ∈ refsL r, 1 ≤ x ∧ x ≤ i) := Lib.hid (fun x hx => by
        unfold refsL at hx
        rcases HRL.out with ⟨hk, -⟩ | ⟨hk, -, a, b, c, d, -⟩ | ⟨hk, -, a, b, -⟩
        · rw [if_neg (by omega), if_neg (by omega)] at hx; cases hx
        · rw [if_pos hk] at hx
          simp only [List.mem_cons, List.not_mem_nil, or_false] at hx
          omega
        · rw [if_neg (by omega), if_pos hk] at hx
          simp only [List.mem_cons, List.not_mem_nil, or_false] at hx
          omega)
      have HRN : Hid ((refsL r).length ≤ 2) := Lib.hid (by unfold refsL; split <;> (try split) <;> simp)
      clear kr br hr
      go_wp2_with fail
      refine HRF.out.mono ?_
      rintro e w2 ⟨rv, rfl, hrv, b2⟩
      have HRV := Lib.hid hrv
      obtain ⟨ra, rc, rfl⟩ := hrv.len
      obtain ⟨rl, hrl⟩ : ∃ l, (refsL r).length = l := ⟨_, rfl⟩
      have HRLN := Lib.hid hrl
      rw [hrl]
      have KR2 := Lib.hid (show RuC w2 gr r from below_block b2 KR1.out)
      have HB2 := Lib.hid (Below.after HB.out (Below.after BR1.out b2))
      have HA2 := Lib.hid (HA.out.below (Below.after BR1.out b2))
      clear hz hs p0 p1 p2 p3 p4 e0 e1 e2 e3 e4 q0 q1 q2 q3 q4 y0 y1 y2 y3 y4 hgr hrv b2 HRF hrl
      go_wp2_with fail
      go_loopw [10] (fun kv ws => ∃ k : Nat, kv = .int .i64 k ∧ k ≤ rl ∧ w2 = ws) (fun kv _ => rl - (intOf kv).toNat)
      case atStart => exact ⟨0, rfl, Nat.zero_le _, rfl⟩
      case round =>
        obtain ⟨k, rfl, hk, rfl⟩ := hrel
        by_cases hkl : k < rl
        · have hkl2 : (k : Int) < (rl : Int) := by omega
          have hk0 : (0 : Int) ≤ (k : Int) := by omega
          have hkr : k < (refsL r).length := by have := HRLN.out; omega
          obtain ⟨gi, ic, hv, -, -, hc⟩ := Ids.at HRV.out hkr
          rw [HRLN.out] at hv
          simp only [Value.slice.injEq] at hv
          obtain ⟨rfl, -, rfl⟩ := hv
          have x0 := hc _ (Below.refl _ _) k hkr
          obtain ⟨x1, x2⟩ := HRR.out _ (List.getElem_mem hkr)
          generalize (refsL r)[k] = x at *
          have x3 : ¬ (x : Int) < 1 := by omega
          have x4 : ¬ (x : Int) > (i : Int) := by omega
          have hrb := HRN.out
          have hrb2 := HRLN.out
          have hk9 : k ≤ 2 := by omega
          clear hc hkr hrb hrb2
          go_wp2_with fail
          clear x0 x1 x2 x3 x4
          go_roundw
          case rel => exact ⟨k + 1, by go_num, by omega, by first | rfl | trivial⟩
          case measure => first | (simp [intOf]; omega) | simp [intOf]
        · have hkl2 : ¬ (k : Int) < (rl : Int) := by omega
          clear hkl hk
          obtain ⟨z0, z1, z2, z3, z4⟩ := KR2.out.cells
          obtain ⟨u0, hu0⟩ := HA2.out.held (i := i + 1) HIL.out
          have hfz := HA2.out.free (i + 1)
          rcases HRL.out with ⟨hk, -, -, -, -, htx⟩ | ⟨hk, -, l0, l1, r0, r1, -, htx⟩ | ⟨hk, -, l0, l1, -, t2, t3, htx⟩
          · have hk2 : ((r.kind : Int) == 2) = false := by simp [hk]
            have hk3 : ((r.kind : Int) == 3) = false := by simp [hk]
            have hk1 : ((r.kind : Int) != 1) = false := by simp [hk]
            have HX1 : Hid (LnA (w2.setCell ⟨gl, i + 1, none⟩ (.int .i64 ((1 : Nat) : Int))) gl n1 (i + 1) E) := Lib.hid (HSET.out w2 1 HA2.out (by unfold capL; rw [htx]; rfl))
            have HX2 := Lib.hid (HBS.out w2 1 HB2.out)
            clear hk htx
            go_wp2_with fail
            clear hk1 hk2 hk3 z0 z1 z2 z3 z4 hu0 hfz hiw hil1 hil0
            go_roundw
            case rel => exact ⟨i + 1, by go_num, by omega, HX1.out, HX2.out⟩
            case measure => first | (simp [intOf]; omega) | simp [intOf]
          · have hk2 : ((r.kind : Int) == 2) = true := by simp [hk]
            have HL1 := Lib.hid (fun w (hw : Below w2.heap.size w2 w) => Arr.cell (HA2.out.below hw) (i := r.left) (by have := HIL.out; omega) (by omega))
            have HL2 := Lib.hid (fun w (hw : Below w2.heap.size w2 w) => Arr.cell (HA2.out.below hw) (i := r.right) (by have := HIL.out; omega) (by omega))
            obtain ⟨a, ha⟩ : ∃ a, capL E r.left = a := ⟨_, rfl⟩
            obtain ⟨b, hb⟩ : ∃ a, capL E r.right = a := ⟨_, rfl⟩
            rw [ha] at HL1
            rw [hb] at HL2
            have hab : a ≤ 301 ∧ b ≤ 301 := by rw [← ha, ← hb]; unfold capL; omega
            have HCP : Hid (capL E (i + 1) = if a + b ≤ 300 then a + b else 301) := Lib.hid (by
              rw [← ha, ← hb]; unfold capL; rw [htx, List.length_append]
              split <;> omega)
            have hgz : gl < w2.heap.size := HA2.out.lt
            have m1 : ∀ w, Below w2.heap.size w2 w → w.cell? ⟨gl, r.left, none⟩ = some (.int .i64 a) := HL1.out
            have m2 : ∀ w, Below w2.heap.size w2 w → w.cell? ⟨gl, r.right, none⟩ = some (.int .i64 b) := HL2.out
            have m3 : ∀ w, Below w2.heap.size w2 w → w.cell? ⟨gr, 2, none⟩ = some (.int .i64 r.left) := fun w hw => (RuC.cells (below_block hw KR2.out)).2.2.1
            have m4 : ∀ w, Below w2.heap.size w2 w → w.cell? ⟨gr, 3, none⟩ = some (.int .i64 r.right) := fun w hw => (RuC.cells (below_block hw KR2.out)).2.2.2.1
            have g1 : (r.left : Int) < (n1 : Int) := by have := HIL.out; omega
            have g2 : (r.right : Int) < (n1 : Int) := by have := HIL.out; omega
            have g3 : (0 : Int) ≤ (r.left : Int) := by omega
            have g4 : (0 : Int) ≤ (r.right : Int) := by omega
            have hw : IntKind.i64.wrap ((a : Int) + (b : Int)) = ((a + b : Nat) : Int) := by rw [IntKind.wrap_i64]; omega
            clear hk htx ha hb l0 l1 r0 r1 hu0 hfz hiw hil1 hil0
            go_wp2_with fail
            clear z0 z1 z2 z3 z4
            refine wp_region_anyH (Below w2.heap.size w2) (by kernel_rfl) ?_
            obtain ⟨wd, hwd⟩ : ∃ w, w2.drew = w := ⟨_, rfl⟩
            have SD : Below w2.heap.size w2 wd := by rw [← hwd]; exact (Below.refl _ _).drew
            rw [hwd]
            clear hwd
            refine AnyH.take (i := 0) (d := some 53) (v := ?_) (by kernel_rfl) rfl rfl HF (fun _ _ _ h => h) (.inl ⟨by rfl, ?_⟩) (by first | assumption | rfl) ?_
            rotate_left
            · intro w hS; try subst hS
              go_simp; try with_reducible rfl
            try simp only [Act.put, List.setIfInBounds_toArray, List.set_cons_zero, List.set_cons_succ]
            refine AnyH.take (i := 1) (d := some 54) (v := ?_) (by kernel_rfl) rfl rfl HF (fun _ _ _ h => h) (.inl ⟨by rfl, ?_⟩) (by first | assumption | rfl) ?_
            rotate_left
            · intro w hS; try subst hS
              go_simp; try with_reducible rfl
            try simp only [Act.put, List.setIfInBounds_toArray, List.set_cons_zero, List.set_cons_succ]
            refine AnyH.take (i := 2) (d := some 55) (v := ?_) (by kernel_rfl) rfl rfl HF (fun _ _ _ h => h) (.inl ⟨by rfl, ?_⟩) (by first | assumption | rfl) ?_
            rotate_left
            · intro w hS; try subst hS
              go_simp; try with_reducible rfl
            try simp only [Act.put, List.setIfInBounds_toArray, List.set_cons_zero, List.set_cons_succ]
            refine AnyH.take (i := 3) (d := some 56) (v := ?_) (by kernel_rfl) rfl rfl HF (fun _ _ _ h => h) (.inl ⟨by rfl, ?_⟩) (by first | assumption | rfl) ?_
            rotate_left
            · intro w hS; try subst hS
              go_simp; try with_reducible rfl
            try simp only [Act.put, List.setIfInBounds_toArray, List.set_cons_zero, List.set_cons_succ]
            refine AnyH.take (i := 4) (d := some 57) (v := ?_) (by kernel_rfl) rfl rfl HF (fun _ _ _ h => h) (.inl ⟨by rfl, ?_⟩) (by first | assumption | rfl) ?_
            rotate_left
            · intro w hS; try subst hS
              go_simp; try with_reducible rfl
            try simp only [Act.put, List.setIfInBounds_toArray, List.set_cons_zero, List.set_cons_succ]
            refine AnyH.take (i := 5) (d := some 58) (v := ?_) (by kernel_rfl) rfl rfl HF (fun _ _ _ h => h) (.inl ⟨by rfl, ?_⟩) (by first | assumption | rfl) ?_
            rotate_left
            · intro w hS; try subst hS
              go_simp; try with_reducible rfl
            try simp only [Act.put, List.setIfInBounds_toArray, List.set_cons_zero, List.set_cons_succ]
            refine AnyH.take (i := 6) (d := some 59) (v := ?_) (by kernel_rfl) rfl rfl HF (fun _ _ _ h => h) (.inl ⟨by rfl, ?_⟩) (by first | assumption | rfl) ?_
            rotate_left
            · intro w hS; try subst hS
              go_simp; try with_reducible rfl
            try simp only [Act.put, List.setIfInBounds_toArray, List.set_cons_zero, List.set_cons_succ]
            refine AnyH.take (i := 7) (d := some 60) (v := ?_) (by kernel_rfl) rfl rfl HF (fun _ _ _ h => h) (.inl ⟨by rfl, ?_⟩) (by first | assumption | rfl) ?_
            rotate_left
            · intro w hS; try subst hS
              go_simp; try with_reducible rfl
            try simp only [Act.put, List.setIfInBounds_toArray, List.set_cons_zero, List.set_cons_succ]
            refine AnyH.take (i := 8) (d := some 61) (v := ?_) (by kernel_rfl) rfl rfl HF (fun _ _ _ h => h) (.inl ⟨by rfl, ?_⟩) (by first | assumption | rfl) ?_
            rotate_left
            · intro w hS; try subst hS
              go_simp; try with_reducible rfl
            try simp only [Act.put, List.setIfInBounds_toArray, List.set_cons_zero, List.set_cons_succ]
            refine AnyH.take (i := 9) (d := some 62) (v := ?_) (by kernel_rfl) rfl rfl HF (fun _ _ _ h => h) (.inl ⟨by rfl, ?_⟩) (by first | assumption | rfl) ?_
            rotate_left
            · intro w hS; try subst hS
              go_simp; try with_reducible rfl
            try simp only [Act.put, List.setIfInBounds_toArray, List.set_cons_zero, List.set_cons_succ]
            refine AnyH.take (i := 10) (d := some 63) (v := ?_) (by kernel_rfl) rfl rfl HF (fun _ _ _ h => h) (.inl ⟨by rfl, ?_⟩) (by first | assumption | rfl) ?_
            rotate_left
            · intro w hS; try subst hS
              go_simp; try with_reducible rfl
            try simp only [Act.put, List.setIfInBounds_toArray, List.set_cons_zero, List.set_cons_succ]
            refine AnyH.take (i := 11) (d := some 11) (v := ?_) (by kernel_rfl) rfl rfl HF (fun _ _ _ h => h) (.inl ⟨by rfl, ?_⟩) (by first | assumption | rfl) ?_
            rotate_left
            · intro w hS; try subst hS
              go_simp; try with_reducible rfl
            try simp only [Act.put, List.setIfInBounds_toArray, List.set_cons_zero, List.set_cons_succ]
            refine AnyH.done (by kernel_rfl) ?_
            have HA3 := Lib.hid (HA2.out.below SD); have HB3 := Lib.hid (Below.after HB2.out SD)
            obtain ⟨u0, hu0⟩ := HA3.out.held (i := i + 1) HIL.out
            have hfz := HA3.out.free (i + 1)
            have hiw : IntKind.i64.wrap ((i : Int) + 1) = ((i + 1 : Nat) : Int) := by rw [IntKind.wrap_i64]; omega
            have hil1 : ((i + 1 : Nat) : Int) < (n1 : Int) := by have := HIL.out; omega
            have hil0 : (0 : Int) ≤ ((i + 1 : Nat) : Int) := by omega
            clear m1 m2 m3 m4 SD g1 g2 g3 g4 hw
            by_cases hs : a + b ≤ 300
            · have hs2 : ¬ ((a + b : Nat) : Int) > 300 := by omega
              have HX1 := Lib.hid (HSET.out wd (a + b) HA3.out (by rw [HCP.out, if_pos hs]))
              have HX2 := Lib.hid (HBS.out wd (a + b) HB3.out)
              clear hs
              go_wp2_with fail
              clear hu0 hfz hiw hil1 hil0 hs2
              go_roundw
              case rel => exact ⟨i + 1, by go_num, by omega, HX1.out, HX2.out⟩
              case measure => first | (simp [intOf]; omega) | simp [intOf]
            · have hs2 : ((a + b : Nat) : Int) > 300 := by omega
              have HX1 : Hid (LnA (wd.setCell ⟨gl, i + 1, none⟩ (.int .i64 301)) gl n1 (i + 1) E) := Lib.hid (HSET.out wd 301 HA3.out (by rw [HCP.out, if_neg hs]))
              have HX2 : Hid (Below W.heap.size W (wd.setCell ⟨gl, i + 1, none⟩ (.int .i64 301))) := Lib.hid (HBS.out wd 301 HB3.out)
              clear hs
              go_wp2_with fail
              clear hu0 hfz hiw hil1 hil0 hs2
              go_roundw
              case rel => exact ⟨i + 1, by go_num, by omega, HX1.out, HX2.out⟩
              case measure => first | (simp [intOf]; omega) | simp [intOf]
          · have hk2 : ((r.kind : Int) == 2) = false := by simp [hk]
            have hk3 : ((r.kind : Int) == 3) = true := by simp [hk]
            have ht1 : ¬ (r.times : Int) < 1 := by omega
            have ht0 : ¬ (r.times : Int) = 0 := by omega
            have ht00 : ¬ r.times = 0 := by omega
            have htz : ((r.times : Int) == 0) = false := by simp; omega
            have hq : (300 : Int).tdiv (r.times : Int) = ((300 / r.times : Nat) : Int) := rfl
            have HL1 := Lib.hid (fun w (hw : Below w2.heap.size w2 w) => Arr.cell (HA2.out.below hw) (i := r.left) (by have := HIL.out; omega) (by omega))
            obtain ⟨a, ha⟩ : ∃ a, capL E r.left = a := ⟨_, rfl⟩
            rw [ha] at HL1
            have hab : a ≤ 301 := by rw [← ha]; unfold capL; omega
            have htx2 : (txt E (i + 1)).length = r.times * (txt E r.left).length := by rw [htx, rep_length]
            have hcase : (a ≤ 300 / r.times ∧ a * r.times ≤ 300 ∧ capL E (i + 1) = a * r.times) ∨ (¬ a ≤ 300 / r.times ∧ capL E (i + 1) = 301) := by
              have hd : a ≤ 300 / r.times ↔ a * r.times ≤ 300 := Nat.le_div_iff_mul_le (by omega)
              have e1 : r.times * (txt E r.left).length = (txt E r.left).length * r.times := Nat.mul_comm _ _
              by_cases hh : a * r.times ≤ 300
              · left
                have h300 : a ≤ 300 := Nat.le_trans (Nat.le_mul_of_pos_right a (by omega)) hh
                have ea : (txt E r.left).length = a := by rw [← ha] at h300 ⊢; unfold capL at h300 ⊢; omega
                refine ⟨hd.2 hh, hh, ?_⟩
                unfold capL
                rw [htx2, e1, ea]; omega
              · right
                refine ⟨fun h => hh (hd.1 h), ?_⟩
                have ha2 : a ≤ (txt E r.left).length := by rw [← ha]; unfold capL; omega
                have h2 : a * r.times ≤ (txt E r.left).length * r.times := Nat.mul_le_mul_right _ ha2
                unfold capL
                rw [htx2, e1]; omega
            have HCS := Lib.hid hcase
            have m1 : ∀ w, Below w2.heap.size w2 w → w.cell? ⟨gl, r.left, none⟩ = some (.int .i64 a) := HL1.out
            have m3 : ∀ w, Below w2.heap.size w2 w → w.cell? ⟨gr, 2, none⟩ = some (.int .i64 r.left) := fun w hw => (RuC.cells (below_block hw KR2.out)).2.2.1
            have m4 : ∀ w, Below w2.heap.size w2 w → w.cell? ⟨gr, 4, none⟩ = some (.int .i64 r.times) := fun w hw => (RuC.cells (below_block hw KR2.out)).2.2.2.2
            have g1 : (r.left : Int) < (n1 : Int) := by have := HIL.out; omega
            have g3 : (0 : Int) ≤ (r.left : Int) := by omega
            have h31 : IntKind.i64.wrap (300 + 1) = 301 := by rw [IntKind.wrap_i64]; omega
            obtain ⟨qq, hqq⟩ : ∃ q, 300 / r.times = q := ⟨_, rfl⟩
            have hqb : qq ≤ 300 := by rw [← hqq]; exact Nat.div_le_self _ _
            rw [hqq] at hq HCS
            have hqw : IntKind.i64.wrap (qq : Int) = (qq : Int) := by rw [IntKind.wrap_i64]; omega
            clear hk htx htx2 hcase ha l0 l1 hu0 hfz hiw hil1 hil0 hqq
            go_wp2_with fail
            clear z0 z1 z2 z3 z4
            refine wp_region_anyH (Below w2.heap.size w2) (by kernel_rfl) ?_
            obtain ⟨wd, hwd⟩ : ∃ w, w2.drew = w := ⟨_, rfl⟩
            have SD : Below w2.heap.size w2 wd := by rw [← hwd]; exact (Below.refl _ _).drew
            rw [hwd]
            clear hwd
            refine AnyH.take (i := 0) (d := some 72) (v := ?_) (by kernel_rfl) rfl rfl HF (fun _ _ _ h => h) (.inl ⟨by rfl, ?_⟩) (by first | assumption | rfl) ?_
            rotate_left
            · intro w hS; try subst hS
              go_simp; try with_reducible rfl
            try simp only [Act.put, List.setIfInBounds_toArray, List.set_cons_zero, List.set_cons_succ]
            refine AnyH.take (i := 1) (d := some 73) (v := ?_) (by kernel_rfl) rfl rfl HF (fun _ _ _ h => h) (.inl ⟨by rfl, ?_⟩) (by first | assumption | rfl) ?_
            rotate_left
            · intro w hS; try subst hS
              go_simp; try with_reducible rfl
            try simp only [Act.put, List.setIfInBounds_toArray, List.set_cons_zero, List.set_cons_succ]
            refine AnyH.take (i := 2) (d := some 74) (v := ?_) (by kernel_rfl) rfl rfl HF (fun _ _ _ h => h) (.inl ⟨by rfl, ?_⟩) (by first | assumption | rfl) ?_
            rotate_left
            · intro w hS; try subst hS
              go_simp; try with_reducible rfl
            try simp only [Act.put, List.setIfInBounds_toArray, List.set_cons_zero, List.set_cons_succ]
            refine AnyH.take (i := 3) (d := some 75) (v := ?_) (by kernel_rfl) rfl rfl HF (fun _ _ _ h => h) (.inl ⟨by rfl, ?_⟩) (by first | assumption | rfl) ?_
            rotate_left
            · intro w hS; try subst hS
              go_simp; try with_reducible rfl
            try simp only [Act.put, List.setIfInBounds_toArray, List.set_cons_zero, List.set_cons_succ]
            refine AnyH.take (i := 4) (d := some 76) (v := ?_) (by kernel_rfl) rfl rfl HF (fun _ _ _ h => h) (.inl ⟨by rfl, ?_⟩) (by first | assumption | rfl) ?_
            rotate_left
            · intro w hS; try subst hS
              go_simp; try with_reducible rfl
            try simp only [Act.put, List.setIfInBounds_toArray, List.set_cons_zero, List.set_cons_succ]
            refine AnyH.take (i := 5) (d := some 77) (v := ?_) (by kernel_rfl) rfl rfl HF (fun _ _ _ h => h) (.inl ⟨by rfl, ?_⟩) (by first | assumption | rfl) ?_
            rotate_left
            · intro w hS; try subst hS
              go_simp; try with_reducible rfl
            try simp only [Act.put, List.setIfInBounds_toArray, List.set_cons_zero, List.set_cons_succ]
            refine AnyH.take (i := 6) (d := some 78) (v := ?_) (by kernel_rfl) rfl rfl HF (fun _ _ _ h => h) (.inl ⟨by rfl, ?_⟩) (by first | assumption | rfl) ?_
            rotate_left
            · intro w hS; try subst hS
              go_simp; try with_reducible rfl
            try simp only [Act.put, List.setIfInBounds_toArray, List.set_cons_zero, List.set_cons_succ]
            refine AnyH.take (i := 7) (d := some 79) (v := ?_) (by kernel_rfl) rfl rfl HF (fun _ _ _ h => h) (.inl ⟨by rfl, ?_⟩) (by first | assumption | rfl) ?_
            rotate_left
            · intro w hS; try subst hS
              go_simp; try with_reducible rfl
            try simp only [Act.put, List.setIfInBounds_toArray, List.set_cons_zero, List.set_cons_succ]
            refine AnyH.take (i := 8) (d := some 80) (v := ?_) (by kernel_rfl) rfl rfl HF (fun _ _ _ h => h) (.inl ⟨by rfl, ?_⟩) (by first | assumption | rfl) ?_
            rotate_left
            · intro w hS; try subst hS
              go_simp; try with_reducible rfl
            try simp only [Act.put, List.setIfInBounds_toArray, List.set_cons_zero, List.set_cons_succ]
            refine AnyH.take (i := 9) (d := some 81) (v := ?_) (by kernel_rfl) rfl rfl HF (fun _ _ _ h => h) (.inl ⟨by rfl, ?_⟩) (by first | assumption | rfl) ?_
            rotate_left
            · intro w hS; try subst hS
              go_simp; try with_reducible rfl
            try simp only [Act.put, List.setIfInBounds_toArray, List.set_cons_zero, List.set_cons_succ]
            refine AnyH.done (by kernel_rfl) ?_
            rcases HCS.out with ⟨c1, c2, c3⟩ | ⟨c1, c3⟩
            · have c4 : (a : Int) ≤ (qq : Int) := by omega
              obtain ⟨mm, hmm⟩ : ∃ m, a * r.times = m := ⟨_, rfl⟩
              rw [hmm] at c2 c3
              have hmw : IntKind.i64.wrap ((a : Int) * (r.times : Int)) = (mm : Int) := by rw [← Int.natCast_mul, hmm, IntKind.wrap_i64]; omega
              clear hmm
              go_wp2_with fail
              refine wp_region_anyH (Below w2.heap.size w2) (by kernel_rfl) ?_
              obtain ⟨wf, hwf⟩ : ∃ w, wd.drew = w := ⟨_, rfl⟩
              have SF : Below w2.heap.size w2 wf := by rw [← hwf]; exact SD.drew
              rw [hwf]
              clear hwf
              refine AnyH.take (i := 0) (d := some 82) (v := ?_) (by kernel_rfl) rfl rfl HF (fun _ _ _ h => h) (.inl ⟨by rfl, ?_⟩) (by first | assumption | rfl) ?_
              rotate_left
              · intro w hS; try subst hS
                go_simp; try with_reducible rfl
              try simp only [Act.put, List.setIfInBounds_toArray, List.set_cons_zero, List.set_cons_succ]
              refine AnyH.take (i := 1) (d := some 83) (v := ?_) (by kernel_rfl) rfl rfl HF (fun _ _ _ h => h) (.inl ⟨by rfl, ?_⟩) (by first | assumption | rfl) ?_
              rotate_left
              · intro w hS; try subst hS
                go_simp; try with_reducible rfl
              try simp only [Act.put, List.setIfInBounds_toArray, List.set_cons_zero, List.set_cons_succ]
              refine AnyH.take (i := 2) (d := some 84) (v := ?_) (by kernel_rfl) rfl rfl HF (fun _ _ _ h => h) (.inl ⟨by rfl, ?_⟩) (by first | assumption | rfl) ?_
              rotate_left
              · intro w hS; try subst hS
                go_simp; try with_reducible rfl
              try simp only [Act.put, List.setIfInBounds_toArray, List.set_cons_zero, List.set_cons_succ]
              refine AnyH.take (i := 3) (d := some 85) (v := ?_) (by kernel_rfl) rfl rfl HF (fun _ _ _ h => h) (.inl ⟨by rfl, ?_⟩) (by first | assumption | rfl) ?_
              rotate_left
              · intro w hS; try subst hS
                go_simp; try with_reducible rfl
              try simp only [Act.put, List.setIfInBounds_toArray, List.set_cons_zero, List.set_cons_succ]
              refine AnyH.take (i := 4) (d := some 86) (v := ?_) (by kernel_rfl) rfl rfl HF (fun _ _ _ h => h) (.inl ⟨by rfl, ?_⟩) (by first | assumption | rfl) ?_
              rotate_left
              · intro w hS; try subst hS
                go_simp; try with_reducible rfl
              try simp only [Act.put, List.setIfInBounds_toArray, List.set_cons_zero, List.set_cons_succ]
              refine AnyH.take (i := 5) (d := some 87) (v := ?_) (by kernel_rfl) rfl rfl HF (fun _ _ _ h => h) (.inl ⟨by rfl, ?_⟩) (by first | assumption | rfl) ?_
              rotate_left
              · intro w hS; try subst hS
                go_simp; try with_reducible rfl
              try simp only [Act.put, List.setIfInBounds_toArray, List.set_cons_zero, List.set_cons_succ]
              refine AnyH.take (i := 6) (d := some 88) (v := ?_) (by kernel_rfl) rfl rfl HF (fun _ _ _ h => h) (.inl ⟨by rfl, ?_⟩) (by first | assumption | rfl) ?_
              rotate_left
              · intro w hS; try subst hS
                go_simp; try with_reducible rfl
              try simp only [Act.put, List.setIfInBounds_toArray, List.set_cons_zero, List.set_cons_succ]
              refine AnyH.take (i := 7) (d := some 89) (v := ?_) (by kernel_rfl) rfl rfl HF (fun _ _ _ h => h) (.inl ⟨by rfl, ?_⟩) (by first | assumption | rfl) ?_
              rotate_left
              · intro w hS; try subst hS
                go_simp; try with_reducible rfl
              try simp only [Act.put, List.setIfInBounds_toArray, List.set_cons_zero, List.set_cons_succ]
              refine AnyH.take (i := 8) (d := some 11) (v := ?_) (by kernel_rfl) rfl rfl HF (fun _ _ _ h => h) (.inl ⟨by rfl, ?_⟩) (by first | assumption | rfl) ?_
              rotate_left
              · intro w hS; try subst hS
                go_simp; try with_reducible rfl
              try simp only [Act.put, List.setIfInBounds_toArray, List.set_cons_zero, List.set_cons_succ]
              refine AnyH.done (by kernel_rfl) ?_
              have HA3 := Lib.hid (HA2.out.below SF); have HB3 := Lib.hid (Below.after HB2.out SF)
              obtain ⟨u0, hu0⟩ := HA3.out.held (i := i + 1) HIL.out
              have hfz := HA3.out.free (i + 1)
              have hiw : IntKind.i64.wrap ((i : Int) + 1) = ((i + 1 : Nat) : Int) := by rw [IntKind.wrap_i64]; omega
              have hil1 : ((i + 1 : Nat) : Int) < (n1 : Int) := by have := HIL.out; omega
              have hil0 : (0 : Int) ≤ ((i + 1 : Nat) : Int) := by omega
              have HX1 := Lib.hid (HSET.out wf mm HA3.out c3.symm)
              have HX2 := Lib.hid (HBS.out wf mm HB3.out)
              have hs2 : ¬ (mm : Int) > 300 := by omega
              clear m1 m3 m4 SD SF g1 g3 hmw c1 c2 c3 c4 hq hqw
              go_wp2_with fail
              clear hu0 hfz hiw hil1 hil0 hs2
              go_roundw
              case rel => exact ⟨i + 1, by go_num, by omega, HX1.out, HX2.out⟩
              case measure => first | (simp [intOf]; omega) | simp [intOf]
            · have c4 : ¬ (a : Int) ≤ (qq : Int) := by omega
              have HA3 := Lib.hid (HA2.out.below SD); have HB3 := Lib.hid (Below.after HB2.out SD)
              obtain ⟨u0, hu0⟩ := HA3.out.held (i := i + 1) HIL.out
              have hfz := HA3.out.free (i + 1)
              have hiw : IntKind.i64.wrap ((i : Int) + 1) = ((i + 1 : Nat) : Int) := by rw [IntKind.wrap_i64]; omega
              have hil1 : ((i + 1 : Nat) : Int) < (n1 : Int) := by have := HIL.out; omega
              have hil0 : (0 : Int) ≤ ((i + 1 : Nat) : Int) := by omega
              have HX1 : Hid (LnA (wd.setCell ⟨gl, i + 1, none⟩ (.int .i64 301)) gl n1 (i + 1) E) := Lib.hid (HSET.out wd 301 HA3.out c3.symm)
              have HX2 : Hid (Below W.heap.size W (wd.setCell ⟨gl, i + 1, none⟩ (.int .i64 301))) := Lib.hid (HBS.out wd 301 HB3.out)
              clear m1 m3 m4 SD g1 g3 c1 c3 hq hqw
              go_wp2_with fail
              clear hu0 hfz hiw hil1 hil0 c4
              go_roundw
              case rel => exact ⟨i + 1, by go_num, by omega, HX1.out, HX2.out⟩
              case measure => first | (simp [intOf]; omega) | simp [intOf]
    · have hlt2 : ¬ (i : Int) < (n : Int) := by omega
      obtain rfl : i = n := by omega
      have hc := Arr.cell HA.out (i := i) (by have := HN1.out; omega) (Nat.le_refl _)
      have hin : (i : Int) < (n1 : Int) := by have := HN1.out; omega
      have hi0 : (0 : Int) ≤ (i : Int) := by omega
      clear hlt hi
      by_cases h300 : (txt E i).length ≤ 300
      · have e : capL E i = (txt E i).length := by unfold capL; omega
        rw [e] at hc
        have hg : ¬ (((txt E i).length : Nat) : Int) > 300 := by omega
        have HD := Lib.hid (derive_any HWF.out hE i hn0 (HR.out.below HB.out) (Nat.le_refl _) hn (by omega))
        have HZ := Lib.hid (And.intro h300 HB.out.size)
        obtain ⟨tl, htl⟩ : ∃ l, (txt E i).length = l := ⟨_, rfl⟩
        rw [htl] at hc hg
        clear e htl h300
        go_wp2_with fail
        refine HD.out.mono ?_
        rintro e w2 ⟨v, rfl, hv, b2⟩
        have HV := Lib.hid (SlA.mono hv HZ.out.2); have HB2 := Lib.hid (Below.after HB.out b2)
        clear hv b2 HD
        go_wp2_with fail
        go_ret2
        exact .inl ⟨HZ.out.1, v, rfl, HV.out, HB2.out⟩
      · have e : capL E i = 301 := by unfold capL; omega
        rw [e] at hc
        have HZ := Lib.hid h300
        have hg : ((301 : Nat) : Int) > 300 := by omega
        clear e h300
        go_wp2_with fail
        go_ret2
        exact .inr ⟨HZ.out, rfl, HB.out⟩
set_option maxRecDepth 100000 in
theorem expand_zero {E : List En} {W : World} {a : Option Addr} {cap : Nat} :
    Calls Try.prog 51 #[.slice a 0 cap, .int .i64 300] W (ExpP E 0 W) := by
  go_enter Try.func51, Try.ntmps51
  go_wp2_with fail
  go_ret2
  exact .inl ⟨by rw [txt_zero]; simp, _, rfl, by rw [txt_zero]; exact SlA.nil _ _ _ _ _, Below.refl _ _⟩
set_option maxRecDepth 100000 in
set_option maxHeartbeats 2000000 in
/-- The reference's Text. -/
theorem text_any {E : List En} (hwf : Wf E) (hE : E.length ≤ 1048576) {B0 : Nat} {W : World} {v u : Value} (hR : Rus B0 W v (E.map En.ru)) {n : Nat} (hn : n ≤ E.length) :
    Calls Try.prog 28 #[.agg #[v, u], .int .i64 n, .int .i64 300] W (ExpP E n W) := by
  obtain ⟨W1, hW1⟩ : ∃ w, W.alloc (.cells #[v, u] 61) = w := ⟨_, rfl⟩
  have k1 : RsC W1 W.heap.size v u := by rw [← hW1]; exact heap_new' W _
  have b1 : Below W.heap.size W W1 := by rw [← hW1]; exact (Below.refl _ W).alloc (Nat.le_refl _) _
  obtain ⟨c0, c1, -, -⟩ := k1.cells
  have HTR : Hid (∀ e w', ExpP E n W1 e w' → ExpP E n W e w') := Lib.hid (fun e w' h => by
    rcases h with ⟨h1, x, h2, h3, h4⟩ | ⟨h1, h2, h4⟩
    · exact .inl ⟨h1, x, h2, SlA.mono h3 b1.size, Below.after b1 h4⟩
    · exact .inr ⟨h1, h2, Below.after b1 h4⟩)
  have hR1 := hR.below b1
  rcases hR.shape with ⟨hv, hE0⟩ | ⟨g, cap, hv, hl1, hl2⟩
  · have h0 : E.length = 0 := by have := congrArg List.length hE0; simpa using this
    obtain rfl : n = 0 := by omega
    subst hv
    have HX := Lib.hid (expand_zero (E := E) (W := W1) (a := none) (cap := 0))
    clear k1 b1 hR hR1 hE0
    go_enter Try.func28, Try.ntmps28
    go_wp2_with fail
    refine HX.out.mono ?_
    intro e w' h
    have HH := Lib.hid (HTR.out e w' h)
    rcases h with ⟨h1, x, rfl, h3, h4⟩ | ⟨h1, rfl, h4⟩
    · clear h1 h3 h4
      go_wp2_with fail
      go_ret2
      exact HH.out
    · clear h1 h4
      go_wp2_with fail
      go_ret2
      exact HH.out
  · rw [List.length_map] at hv hl1
    subst hv
    obtain ⟨le, hle⟩ : ∃ l, E.length = l := ⟨_, rfl⟩
    have HX : Hid (Calls Try.prog 51 #[.slice (some ⟨g, 0, none⟩) n cap, .int .i64 300] W1 (ExpP E n W1)) := Lib.hid (by
      rcases Nat.eq_zero_or_pos n with rfl | h0
      · exact expand_zero
      · refine expand_any hwf hE (B0 := B0) ?_ h0 hn
        exact SlA.prefix encRu_len hR1 (by rw [List.length_map]; exact hn))
    rw [hle] at c0 hl1 hn hW1 ⊢
    have n1 : (n : Int) ≤ (le : Int) := by omega
    have n2 : (n : Int) ≤ (cap : Int) := by omega
    have n3 : (0 : Int) ≤ (n : Int) := by omega
    have n4 : n ≤ cap := by omega
    clear k1 b1 hR hR1
    go_enter Try.func28, Try.ntmps28
    go_wp2_with fail
    refine HX.out.mono ?_
    intro e w' h
    have HH := Lib.hid (HTR.out e w' h)
    rcases h with ⟨h1, x, rfl, h3, h4⟩ | ⟨h1, rfl, h4⟩
    · clear h1 h3 h4
      go_wp2_with fail
      go_ret2
      exact HH.out
    · clear h1 h4
      go_wp2_with fail
      go_ret2
      exact HH.out
end M
end Go.Proofs.Ytjbllcakaljpgaa
