/- The patch: balanced, Check, Length. -/
import Derived.Test.YtplccefjljdjnaaPla
import Derived.Test.YtplccefjljdjnaaDep
import Derived.Test.YtplccefjljdjnaaCom
set_option linter.unusedVariables false
set_option linter.unusedSimpArgs false
namespace Go.Proofs.Ytplccefjljdjnaa
open Go.RowKit Go.Lib
namespace M
attribute [local go_sem] Oper.semAt_some
def encCh (c : Chg) : List Value := [.int .i64 c.pos, .int .i64 c.n, .int .i64 c.id]
theorem encCh_len (c : Chg) : (encCh c).length = 3 := rfl
theorem encCh_one (c : Chg) : ∀ u ∈ encCh c, u.oneCell' = true := by simp [encCh, Value.oneCell']
abbrev Chs (B : Nat) (W : World) (v : Value) (L : List Chg) : Prop := SlA B W 71 3 encCh v L
theorem elemCh : Elem Try.prog 28 71 3 24 := elem_of Try.underlying28 (z := .agg #[.int .i64 0, .int .i64 0, .int .i64 0]) (by kernel_rfl) rfl (by decide) (by decide)
theorem Chs.at {B : Nat} {W : World} {v : Value} {L : List Chg} (h : Chs B W v L) {i : Nat} (hi : i < L.length) :
    ∃ g cap, v = .slice (some ⟨g, 0, none⟩) L.length cap ∧ L.length ≤ cap ∧ cap ≤ maxLen ∧ ∀ (W' : World), Below W.heap.size W W' → ∀ i (hi : i < L.length), W'.cell? ⟨g, i * 3, none⟩ = some (.int .i64 L[i].pos) ∧ W'.cell? ⟨g, i * 3 + 1, none⟩ = some (.int .i64 L[i].n) ∧ W'.cell? ⟨g, i * 3 + 2, none⟩ = some (.int .i64 L[i].id) := by
  rcases h.shape with ⟨-, rfl⟩ | ⟨g, cap, rfl, h1, h2⟩
  · simp at hi
  · refine ⟨g, cap, rfl, h1, h2, fun W' hb i hi => ?_⟩
    have h' := h.below hb
    have c := fun (j : Nat) (hj : j < 3) => SlA.cell encCh_len h' hi (j := j) hj
    exact ⟨c 0 (by omega), c 1 (by omega), c 2 (by omega)⟩
def ChC (W : World) (g : Nat) (c : Chg) : Prop := W.heap[g]? = some (.cells #[.int .i64 c.pos, .int .i64 c.n, .int .i64 c.id] 71 (0, 0))
theorem ChC.cells {W : World} {g : Nat} {c : Chg} (h : ChC W g c) : W.cell? ⟨g, 0, none⟩ = some (.int .i64 c.pos) ∧ W.cell? ⟨g, 1, none⟩ = some (.int .i64 c.n) ∧ W.cell? ⟨g, 2, none⟩ = some (.int .i64 c.id) := by
  unfold ChC at h
  simp [World.cell?, h]
theorem ChC.free {W : World} {g : Nat} {c : Chg} (h : ChC W g c) (i : Nat) : W.frozen? ⟨g, i, none⟩ = false := by
  unfold ChC at h
  simp [World.frozen?, h]
/-- A box into which a change is laid. -/
theorem newCh (w : World) (c : Chg) : ∃ wz w2, w.alloc (.cells #[.int .i64 0, .int .i64 0, .int .i64 0] 71) = wz ∧
    ((wz.setCell ⟨w.heap.size, 0, none⟩ (.int .i64 c.pos)).setCell ⟨w.heap.size, 1, none⟩ (.int .i64 c.n)).setCell ⟨w.heap.size, 2, none⟩ (.int .i64 c.id) = w2 ∧ ChC w2 w.heap.size c ∧ Below w.heap.size w w2 ∧
    (wz.cell? ⟨w.heap.size, 0, none⟩ = some (.int .i64 0) ∧ wz.cell? ⟨w.heap.size, 1, none⟩ = some (.int .i64 0) ∧ wz.cell? ⟨w.heap.size, 2, none⟩ = some (.int .i64 0)) ∧ (wz.frozen? ⟨w.heap.size, 0, none⟩ = false ∧ wz.frozen? ⟨w.heap.size, 1, none⟩ = false ∧ wz.frozen? ⟨w.heap.size, 2, none⟩ = false) := by
  have k0 : ChC (w.alloc (.cells #[.int .i64 0, .int .i64 0, .int .i64 0] 71)) w.heap.size ⟨0, 0, 0⟩ := heap_new' _ _
  have b0 : Below w.heap.size w (w.alloc (.cells #[.int .i64 0, .int .i64 0, .int .i64 0] 71)) := (Below.refl _ _).alloc (Nat.le_refl _) _
  exact ⟨_, _, rfl, rfl, heap_set0 _ (heap_set0 _ (heap_set0 _ k0)), ((b0.setCell (p := ⟨w.heap.size, 0, none⟩) (Nat.le_refl _) _).setCell (p := ⟨w.heap.size, 1, none⟩) (Nat.le_refl _) _).setCell (p := ⟨w.heap.size, 2, none⟩) (Nat.le_refl _) _, k0.cells, k0.free 0, k0.free 1, k0.free 2⟩
theorem in_nat {n : Nat} (h : n ≤ 9223372036854775807) : IM.In (n : Int) := by
  simp [IM.In, Lit.wf, IntKind.min, IntKind.max, IntKind.signed, IntKind.bits]; omega
set_option maxRecDepth 100000 in
set_option maxHeartbeats 4000000 in
theorem pbalanced_any {n0 B most b0 : Nat} {W : World} {E : List En} (hs : StAt n0 W B most E) (hE : E.length ≤ 1048576) {v : Value} {L : List Chg} (hC : Chs b0 W v L) (hT : Txs E L) (hLb : L.length ≤ 1000000) :
    Calls Try.prog 70 #[.pointer (some ⟨B, 0, none⟩), v] W fun e w' => e = .returned .nilIface ∧ Below W.heap.size W w' := by
  have hmm := @run_makeMap Try.prog
  have HS := Lib.hid hs; have HC := Lib.hid hC; have HT := Lib.hid hT
  obtain ⟨va, vc, rfl⟩ := hC.len
  have hcc : L.length ≤ vc ∧ vc ≤ maxLen ∨ L.length = 0 := by
    rcases hC.shape with ⟨-, h⟩ | ⟨g, c, h, h1, h2⟩
    · right; rw [h]; rfl
    · left; cases h; exact ⟨h1, h2⟩
  obtain ⟨W1, hW1⟩ : ∃ w, W.alloc (.map #[] 0) = w := ⟨_, rfl⟩
  have b1 : Below W.heap.size W W1 := by rw [← hW1]; exact (Below.refl _ _).alloc (Nat.le_refl _) _
  have HM1 : Hid (IM.MapAt Value.bool W1 W.heap.size []) := Lib.hid (by rw [← hW1]; exact IM.MapAt.made Value.bool W)
  have HB1 := Lib.hid b1
  clear hs hC hT b1 hcc
  go_enter Try.func70, Try.ntmps70
  go_wp2_with fail
  clear hW1 hmm
  go_loopw [13] (fun iv wr => ∃ (i : Nat) (l : List (Int × Bool)), iv = .int .i64 i ∧ i ≤ L.length ∧ IM.MapAt Value.bool wr W.heap.size l ∧ l.length ≤ i ∧ Below W.heap.size W wr) (fun iv _ => L.length - (intOf iv).toNat)
  case atStart => exact ⟨0, [], rfl, Nat.zero_le _, HM1.out, Nat.le_refl _, HB1.out⟩
  case round =>
    clear HM1 HB1
    obtain ⟨i, l, rfl, hi, hm, hl, hB⟩ := hrel
    have HM := Lib.hid hm; have HB := Lib.hid hB; have HL := Lib.hid hl
    clear hm hB hl
    by_cases hlt : i < L.length
    · have hlt2 : (i : Int) < (L.length : Int) := by omega
      have hlt3 : (0 : Int) ≤ (i : Int) := by omega
      obtain ⟨g, cap, hv, -, -, hc⟩ := HC.out.at hlt
      simp only [Value.slice.injEq] at hv
      obtain ⟨rfl, -, rfl⟩ := hv
      obtain ⟨q0, q1, q2⟩ := hc wr HB.out i hlt
      obtain ⟨hid, hev⟩ := HT.out L[i] (List.getElem_mem hlt)
      generalize L[i] = c at *
      obtain ⟨wz, w1, hz, hs1, kc, bc, ⟨p0, p1, p2⟩, f0, f1, f2⟩ := newCh wr c
      obtain ⟨gc, hgc⟩ : ∃ x, wr.heap.size = x := ⟨_, rfl⟩
      rw [hgc] at hs1 p0 p1 p2 f0 f1 f2 kc
      obtain ⟨y0, y1, y2⟩ := kc.cells
      have hin : IM.In (c.id : Int) := in_nat (by omega)
      have HM1 := Lib.hid (HM.out.below bc)
      have hzv : ∀ w, (zeroValue 4).run Try.prog w = .ok (.bool false) w := fun w => by kernel_rfl
      obtain ⟨bb, hlk⟩ : ∃ b, (Instr.lookup 162 (.map (some W.heap.size)) (.int .i64 (c.id : Int)) false).run Try.prog w1 = .ok (.bool b) w1 := by
        have h := IM.MapAt.look (P := Try.prog) (t := 162) (k := 65) (e := 4) false HM1.out Try.underlying65 Try.underlying162 (hzv w1) hin
        cases hg : IM.getA (c.id : Int) l with
        | none => exact ⟨false, by rw [hg] at h; simpa using h⟩
        | some a => exact ⟨a, by rw [hg] at h; simpa using h⟩
      have HBL := Lib.hid (fun w hw => balanced_any ((HS.out.below HB.out).below hw) hid hE (W := w))
      rw [hev] at HBL
      have HB1 := Lib.hid (Below.after HB.out bc)
      have HBC := Lib.hid bc; have KC := Lib.hid kc
      have HIN := Lib.hid hin
      clear hc bc kc hev hin
      cases bb with
      | true =>
        go_wp2_with fail
        clear hz hs1 p0 p1 p2 f0 f1 f2 q0 q1 q2 y0 y1 y2 hgc hlk
        go_roundw
        case rel => exact ⟨i + 1, l, by go_num, by omega, HM1.out, by have := HL.out; omega, HB1.out⟩
        case measure => first | (simp [intOf]; omega) | simp [intOf]
      | false =>
        go_wp2_with fail
        refine (HBL.out w1 HBC.out).mono ?_; rintro e w2 ⟨rfl, b2⟩
        have HM2 := Lib.hid (HM1.out.below b2)
        obtain ⟨w3, hup, hm3, hg3, hz3⟩ := IM.MapAt.put (P := Try.prog) (t := 162) (k := 65) (e := 4) HM2.out Try.underlying65 Try.underlying162 (by have := HL.out; unfold maxLen; omega) HIN.out true
        have HX1 := Lib.hid hm3
        have HX2 : Hid (Below W.heap.size W w3) := Lib.hid ((Below.after HB1.out b2).grown hg3 (Below.after HB1.out b2).size (fun k e => by cases e; exact Nat.le_refl _))
        obtain ⟨z0, z1, z2⟩ := ChC.cells (show ChC w2 gc c from below_block b2 KC.out)
        clear hz hs1 p0 p1 p2 f0 f1 f2 q0 q1 q2 y0 y1 y2 hgc hlk b2 hm3 hg3 hz3
        go_wp2_with fail
        clear hup z0 z1 z2
        go_roundw
        case rel => exact ⟨i + 1, _, by go_num, by omega, HX1.out, by have := HL.out; have := (IM.putA_length (s := (c.id : Int)) (a := true) (l := l)).2; omega, HX2.out⟩
        case measure => first | (simp [intOf]; omega) | simp [intOf]
    · have hlt2 : ¬ (i : Int) < (L.length : Int) := by omega
      go_wp2_with fail
      go_ret
      exact ⟨rfl, HB.out⟩
end M
end Go.Proofs.Ytplccefjljdjnaa
