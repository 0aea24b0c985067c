/- What fails: unknown texts, texts that are not balanced, a nil store. -/
import Derived.Test.YtplccefjljdjnaaAll
import Derived.Test.YtplccefjljdjnaaSpan
namespace Go.Proofs.Ytplccefjljdjnaa
open Go.RowKit Go.Lib
namespace M
attribute [local go_sem] Oper.semAt_some
/-- An error, and all as before. -/
def ErrP (W : World) (v : Value) (e : Ending) (w' : World) : Prop := e = .returned v ∧ Below W.heap.size W w'
set_option maxRecDepth 100000 in
theorem unknownU_any {n0 B most : Nat} {W : World} {E : List En} (h : StAt n0 W B most E) {x : Int} (hx : x < 0 ∨ (E.length : Int) < x) :
    Calls Try.prog 69 #[.pointer (some ⟨B, 0, none⟩), .int .i64 x] W fun e w' => e = .returned (.bool true) ∧ w' = W := by
  have HL := Lib.hid (slen_any h)
  by_cases h1 : x < 0
  · clear h
    go_enter Try.func69, Try.ntmps69
    go_wp2_with fail
    go_ret
    exact ⟨rfl, rfl⟩
  · have h2 : x > (E.length : Int) := by omega
    clear h hx
    go_enter Try.func69, Try.ntmps69
    go_wp2_with fail
    refine HL.out.mono ?_; rintro e w ⟨rfl, h⟩; rw [h]; clear h w
    go_wp2_with fail
    go_ret
    exact ⟨rfl, rfl⟩
/-- Changes, one of them with whatever text. -/
def ChI (W : World) (g : Nat) (p n x : Int) : Prop := W.heap[g]? = some (.cells #[.int .i64 p, .int .i64 n, .int .i64 x] 71 (0, 0))
theorem ChI.cells {W : World} {g : Nat} {p n x : Int} (h : ChI W g p n x) : W.cell? ⟨g, 0, none⟩ = some (.int .i64 p) ∧ W.cell? ⟨g, 1, none⟩ = some (.int .i64 n) ∧ W.cell? ⟨g, 2, none⟩ = some (.int .i64 x) := by
  unfold ChI at h
  simp [World.cell?, h]
theorem ChI.free {W : World} {g : Nat} {p n x : Int} (h : ChI W g p n x) (i : Nat) : W.frozen? ⟨g, i, none⟩ = false := by
  unfold ChI at h
  simp [World.frozen?, h]
theorem newChI (w : World) (p n x : Int) : ∃ wz w2, w.alloc (.cells #[.int .i64 0, .int .i64 0, .int .i64 0] 71) = wz ∧
    ((wz.setCell ⟨w.heap.size, 0, none⟩ (.int .i64 p)).setCell ⟨w.heap.size, 1, none⟩ (.int .i64 n)).setCell ⟨w.heap.size, 2, none⟩ (.int .i64 x) = w2 ∧ ChI w2 w.heap.size p n x ∧ Below w.heap.size w w2 ∧
    (wz.cell? ⟨w.heap.size, 0, none⟩ = some (.int .i64 0) ∧ wz.cell? ⟨w.heap.size, 1, none⟩ = some (.int .i64 0) ∧ wz.cell? ⟨w.heap.size, 2, none⟩ = some (.int .i64 0)) ∧ (wz.frozen? ⟨w.heap.size, 0, none⟩ = false ∧ wz.frozen? ⟨w.heap.size, 1, none⟩ = false ∧ wz.frozen? ⟨w.heap.size, 2, none⟩ = false) := by
  have k0 : ChI (w.alloc (.cells #[.int .i64 0, .int .i64 0, .int .i64 0] 71)) w.heap.size 0 0 0 := heap_new' _ _
  have b0 : Below w.heap.size w (w.alloc (.cells #[.int .i64 0, .int .i64 0, .int .i64 0] 71)) := (Below.refl _ _).alloc (Nat.le_refl _) _
  exact ⟨_, _, rfl, rfl, heap_set0 _ (heap_set0 _ (heap_set0 _ k0)), ((b0.setCell (p := ⟨w.heap.size, 0, none⟩) (Nat.le_refl _) _).setCell (p := ⟨w.heap.size, 1, none⟩) (Nat.le_refl _) _).setCell (p := ⟨w.heap.size, 2, none⟩) (Nat.le_refl _) _, k0.cells, k0.free 0, k0.free 1, k0.free 2⟩
/-- Two changes; the second one's text is unknown. -/
def ChU (W : World) (g : Nat) (x : Int) : Prop := W.heap[g]? = some (.cells #[.int .i64 99, .int .i64 (-1), .int .i64 0, .int .i64 2, .int .i64 1, .int .i64 x] 71 (0, 0))
theorem ChU.cells {W : World} {g : Nat} {x : Int} (h : ChU W g x) : (W.cell? ⟨g, 0, none⟩ = some (.int .i64 99) ∧ W.cell? ⟨g, 1, none⟩ = some (.int .i64 (-1)) ∧ W.cell? ⟨g, 2, none⟩ = some (.int .i64 0)) ∧ W.cell? ⟨g, 3, none⟩ = some (.int .i64 2) ∧ W.cell? ⟨g, 4, none⟩ = some (.int .i64 1) ∧ W.cell? ⟨g, 5, none⟩ = some (.int .i64 x) := by
  unfold ChU at h
  simp [World.cell?, h]
set_option maxRecDepth 100000 in
set_option maxHeartbeats 4000000 in
theorem checkU_any {n0 B most g : Nat} {W : World} {E : List En} (hs : StAt n0 W B most E) {x : Int} (hx : x < 0 ∨ (E.length : Int) < x) (hC : ChU W g x) :
    Calls Try.prog 44 #[.pointer (some ⟨B, 0, none⟩), .int .i64 8, .slice (some ⟨g, 0, none⟩) 2 2] W (ErrP W (err 1)) := by
  have HV := Lib.hid (valid_any W 8)
  rw [decide_eq_true (by omega)] at HV
  have HS := Lib.hid hs; have HC := Lib.hid hC; have HX := Lib.hid hx
  clear hs hC hx
  unfold err
  go_enter Try.func44, Try.ntmps44
  go_wp2_with fail
  refine HV.out.mono ?_; rintro e w ⟨rfl, h⟩; rw [h]; clear h w
  go_wp2_with fail
  go_loopw [21] (fun iv wr => ∃ i : Nat, iv = .int .i64 i ∧ i ≤ 1 ∧ Below W.heap.size W wr) (fun iv _ => 2 - (intOf iv).toNat)
  case atStart => exact ⟨0, rfl, by omega, Below.refl _ _⟩
  case round =>
    obtain ⟨i, rfl, hi, hB⟩ := hrel
    have HB := Lib.hid hB
    obtain ⟨⟨c0, c1, c2⟩, c3, c4, c5⟩ := ChU.cells (show ChU wr g x from below_block hB HC.out)
    clear hB
    rcases (show i = 0 ∨ i = 1 by omega) with rfl | rfl
    · obtain ⟨wz, w1, hz, hs1, kc, bc, ⟨p0, p1, p2⟩, f0, f1, f2⟩ := newChI wr 99 (-1) 0
      obtain ⟨gc, hgc⟩ : ∃ x, wr.heap.size = x := ⟨_, rfl⟩
      rw [hgc] at hs1 p0 p1 p2 f0 f1 f2 kc
      obtain ⟨y0, y1, y2⟩ := kc.cells
      have HUK := Lib.hid (unknown_any ((HS.out.below HB.out).below bc) (i := 0) (Nat.zero_le _))
      rw [show ((0 : Nat) : Int) = 0 from rfl] at HUK
      have HB1 := Lib.hid (Below.after HB.out bc)
      clear bc kc
      go_wp2_with fail
      refine HUK.out.mono ?_; rintro e w ⟨rfl, h⟩; rw [h]; clear h w
      clear hz hs1 p0 p1 p2 f0 f1 f2 y0 y1 y2 hgc c0 c1 c2 c3 c4 c5
      go_wp2_with fail
      go_roundw
      case rel => exact ⟨1, by first | rfl | go_num, by omega, HB1.out⟩
      case measure => first | (simp [intOf]; omega) | simp [intOf]
    · obtain ⟨wz, w1, hz, hs1, kc, bc, ⟨p0, p1, p2⟩, f0, f1, f2⟩ := newChI wr 2 1 x
      obtain ⟨gc, hgc⟩ : ∃ x, wr.heap.size = x := ⟨_, rfl⟩
      rw [hgc] at hs1 p0 p1 p2 f0 f1 f2 kc
      obtain ⟨y0, y1, y2⟩ := kc.cells
      have HUK := Lib.hid (unknownU_any ((HS.out.below HB.out).below bc) HX.out)
      have HB1 := Lib.hid (Below.after HB.out bc)
      clear bc kc
      go_wp2_with fail
      refine HUK.out.mono ?_; rintro e w ⟨rfl, h⟩; rw [h]; clear h w
      go_wp2_with fail
      go_ret
      exact ⟨rfl, HB1.out⟩
set_option maxRecDepth 100000 in
set_option maxHeartbeats 4000000 in
theorem checkF_any {n0 B most g : Nat} {W : World} {E : List En} (hs : StAt n0 W B most E) (hE : E.length ≤ 1048576) {id : Nat} (hi0 : 0 < id) (hid : id ≤ E.length) (hev : (entAt E id).even = false) (hC : W.heap[g]? = some (.cells #[.int .i64 2, .int .i64 1, .int .i64 id] 71 (0, 0))) :
    Calls Try.prog 44 #[.pointer (some ⟨B, 0, none⟩), .int .i64 8, .slice (some ⟨g, 0, none⟩) 1 1] W (ErrP W (err 4)) := by
  have HV := Lib.hid (valid_any W 8)
  rw [decide_eq_true (by omega)] at HV
  have HS := Lib.hid hs; have HC := Lib.hid (show ChC W g ⟨2, 1, id⟩ from hC); have HID := Lib.hid (And.intro hid (And.intro hE hev))
  have HPB : Hid (∀ w, Below W.heap.size W w → Calls Try.prog 70 #[.pointer (some ⟨B, 0, none⟩), .slice (some ⟨g, 0, none⟩) 1 1] w (ErrP w (err 4))) := Lib.hid (fun w hw => by
    have hmm := @run_makeMap Try.prog
    obtain ⟨W1, hW1⟩ : ∃ u, w.alloc (.map #[] 0) = u := ⟨_, rfl⟩
    have b1 : Below w.heap.size w W1 := by rw [← hW1]; exact (Below.refl _ _).alloc (Nat.le_refl _) _
    have HM1 : Hid (IM.MapAt Value.bool W1 w.heap.size []) := Lib.hid (by rw [← hW1]; exact IM.MapAt.made Value.bool w)
    have HB1 := Lib.hid b1
    have HW := Lib.hid hw
    unfold err
    clear b1 hs hC hw hid hE hev HV
    go_enter Try.func70, Try.ntmps70
    go_wp2_with fail
    clear hW1 hmm
    go_loopw [13] (fun iv wr => iv = .int .i64 0 ∧ wr = W1) (fun iv _ => 1 - (intOf iv).toNat)
    case atStart => exact ⟨rfl, rfl⟩
    case round =>
      obtain ⟨rfl, rfl⟩ := hrel
      obtain ⟨q0, q1, q2⟩ := ChC.cells (show ChC _ g ⟨2, 1, id⟩ from below_block HB1.out (below_block HW.out HC.out))
      dsimp only at q0 q1 q2
      obtain ⟨wz, w1, hz, hs1, kc, bc, ⟨p0, p1, p2⟩, f0, f1, f2⟩ := newCh wr ⟨2, 1, id⟩
      dsimp only at hs1
      obtain ⟨gc, hgc⟩ : ∃ x, wr.heap.size = x := ⟨_, rfl⟩
      rw [hgc] at hs1 p0 p1 p2 f0 f1 f2 kc
      obtain ⟨y0, y1, y2⟩ := kc.cells
      dsimp only at y0 y1 y2
      have hin : IM.In (id : Int) := in_nat (by have := HID.out.1; have := HID.out.2.1; omega)
      have hm2 := HM1.out.below bc
      have hzv : ∀ w, (zeroValue 4).run Try.prog w = .ok (.bool false) w := fun w => by kernel_rfl
      have hlk : (Instr.lookup 162 (.map (some w.heap.size)) (.int .i64 (id : Int)) false).run Try.prog w1 = .ok (.bool false) w1 := by
        have h := IM.MapAt.look (P := Try.prog) (t := 162) (k := 65) (e := 4) false hm2 Try.underlying65 Try.underlying162 (hzv w1) hin
        rw [show IM.getA (id : Int) ([] : List (Int × Bool)) = none from rfl] at h
        simpa using h
      have HBL := Lib.hid (balanced_any (((HS.out.below HW.out).below HB1.out).below bc) HID.out.1 HID.out.2.1)
      rw [HID.out.2.2] at HBL
      have HB2 := Lib.hid (Below.after HB1.out bc)
      clear kc bc hin hm2
      go_wp2_with fail
      refine HBL.out.mono ?_; rintro e w2 ⟨rfl, b2⟩
      have HB3 := Lib.hid (Below.after HB2.out b2)
      clear b2
      go_wp2_with fail
      go_ret
      exact ⟨rfl, HB3.out⟩)
  have hi1 : ¬ id = 0 := by omega
  clear hs hC hid hE hev
  unfold err at HPB ⊢
  go_enter Try.func44, Try.ntmps44
  go_wp2_with fail
  refine HV.out.mono ?_; rintro e w ⟨rfl, h⟩; rw [h]; clear h w
  go_wp2_with fail
  go_loopw [21] (fun iv wr => ∃ i : Nat, iv = .int .i64 i ∧ i ≤ 1 ∧ Below W.heap.size W wr) (fun iv _ => 1 - (intOf iv).toNat)
  case atStart => exact ⟨0, rfl, by omega, Below.refl _ _⟩
  case round =>
    obtain ⟨i, rfl, hi, hB⟩ := hrel
    have HB := Lib.hid hB
    obtain ⟨q0, q1, q2⟩ := ChC.cells (show ChC wr g ⟨2, 1, id⟩ from below_block hB HC.out)
    dsimp only at q0 q1 q2
    clear hB
    rcases (show i = 0 ∨ i = 1 by omega) with rfl | rfl
    · obtain ⟨wz, w1, hz, hs1, kc, bc, ⟨p0, p1, p2⟩, f0, f1, f2⟩ := newChI wr 2 1 id
      obtain ⟨gc, hgc⟩ : ∃ x, wr.heap.size = x := ⟨_, rfl⟩
      rw [hgc] at hs1 p0 p1 p2 f0 f1 f2 kc
      obtain ⟨y0, y1, y2⟩ := kc.cells
      have HUK := Lib.hid (unknown_any ((HS.out.below HB.out).below bc) HID.out.1)
      have HB1 := Lib.hid (Below.after HB.out bc)
      clear bc kc
      go_wp2_with fail
      refine HUK.out.mono ?_; rintro e w ⟨rfl, h⟩; rw [h]; clear h w
      clear hz hs1 p0 p1 p2 f0 f1 f2 y0 y1 y2 hgc q0 q1 q2
      go_wp2_with fail
      go_roundw
      case rel => exact ⟨1, by first | rfl | go_num, by omega, HB1.out⟩
      case measure => first | (simp [intOf]; omega) | simp [intOf]
    · clear q0 q1 q2
      go_wp2_with fail
      go_loopw [9, 33] (fun lv iv ws => ∃ j : Nat, (j = 0 ∧ lv = .int .i64 (-1) ∧ iv = .int .i64 0 ∨ j = 1 ∧ lv = .int .i64 3 ∧ iv = .int .i64 1) ∧ Below W.heap.size W ws) (fun _ iv _ => 1 - (intOf iv).toNat)
      case atStart => exact ⟨0, .inl ⟨rfl, rfl, rfl⟩, HB.out⟩
      case round =>
        clear HB
        obtain ⟨j, hh, hB⟩ := hrel
        have HB := Lib.hid hB
        obtain ⟨q0, q1, q2⟩ := ChC.cells (show ChC _ g ⟨2, 1, id⟩ from below_block hB HC.out)
        dsimp only at q0 q1 q2
        clear hB
        rcases hh with ⟨-, rfl, rfl⟩ | ⟨-, rfl, rfl⟩
        · obtain ⟨wz, w1, hz, hs1, kc, bc, ⟨p0, p1, p2⟩, f0, f1, f2⟩ := newChI wr 2 1 id
          obtain ⟨gc, hgc⟩ : ∃ x, wr.heap.size = x := ⟨_, rfl⟩
          rw [hgc] at hs1 p0 p1 p2 f0 f1 f2 kc
          obtain ⟨y0, y1, y2⟩ := kc.cells
          have HRG := Lib.hid (rng_any w1 2 1 8)
          rw [show rngB 2 1 8 = true from rfl] at HRG
          have HB1 := Lib.hid (Below.after HB.out bc)
          have hw3 : IntKind.i64.wrap (2 + 1) = 3 := by rw [IntKind.wrap_i64]; omega
          clear bc kc
          go_wp2_with fail
          refine HRG.out.mono ?_; rintro e w ⟨rfl, h⟩; rw [h]; clear h w
          simp only [if_true]
          go_wp2_with fail
          clear hz hs1 p0 p1 p2 f0 f1 f2 y0 y1 y2 q0 q1 q2 hw3 hgc
          go_roundw
          case rel =>
            iterate 37 apply Exists.intro
            exact ⟨⟨1, .inr ⟨rfl, rfl, rfl⟩, HB1.out⟩, rfl⟩
          case measure => first | (simp [intOf]; omega) | simp [intOf]
        · clear q0 q1 q2
          go_wp2_with fail
          refine (HPB.out _ HB.out).mono ?_
          rintro e w2 ⟨rfl, b2⟩
          have HB2 := Lib.hid (Below.after HB.out b2)
          clear b2
          go_wp2_with fail
          go_ret
          exact ⟨rfl, HB2.out⟩
/-- Check's error is Length's. -/
theorem plengthE_any {W : World} {s : Option Addr} {a : Option Addr} {n k : Nat} {c : Int} (h : Calls Try.prog 44 #[.pointer s, .int .i64 8, .slice a n k] W (ErrP W (err c))) :
    Calls Try.prog 24 #[.pointer s, .int .i64 8, .slice a n k] W (ErrP W (.tuple #[.int .i64 0, err c])) := by
  have H := Lib.hid h
  clear h
  unfold err at H ⊢
  go_enter Try.func24, Try.ntmps24
  go_wp2_with fail
  refine H.out.mono ?_; rintro e w0 ⟨rfl, b0'⟩
  have HB0 := Lib.hid b0'
  clear b0' H
  go_wp2_with fail
  go_ret2
  exact ⟨rfl, HB0.out⟩
end M
end Go.Proofs.Ytplccefjljdjnaa
