/- awake: the fixed example of the chapter returns true. -/
import Derived.Test.YtdgclambplipnaaMethis
namespace Go.Proofs.Ytdgclambplipnaa
open Go.RowKit

def exT : Tr Int ByteArray := putF is.lt 5 ⟨#[100]⟩ (putF is.lt 9 ⟨#[99]⟩ (putF is.lt 2 ⟨#[98]⟩ (putF is.lt 5 ⟨#[97]⟩ .nil)))
theorem exT_find : is.getV (findF is.lt 5 exT) = .tuple #[.string ⟨#[100]⟩, .bool true] := by rfl
theorem exT_floor : is.entryV (floorF is.lt 4 .nil exT) = .tuple #[.int .i64 2, .string ⟨#[98]⟩, .bool true] := by rfl
theorem exT_sz : exT.sz = 3 := by rfl

set_option maxHeartbeats 1600000 in
theorem awake_any (W : World) : Calls Try.prog 11 #[] W fun e w' => e = .returned (.bool true) ∧ Below W.heap.size W w' := by
  have hb : Below W.heap.size W (W.alloc (.cells #[.pointer none] 73)) := (Below.refl _ W).alloc (Nat.le_refl _) _
  have hn := heap_new W (.cells #[.pointer none] 73)
  have HB := Lib.hid hb; have HN := Lib.hid hn; clear hb hn
  go_enter Try.func11, Try.ntmps11
  go_wp2_with fail
  refine (is.Put_any (T := .nil) 5 ⟨#[97]⟩ rfl (by decide)).mono ?_; rintro e w1 ⟨q1, rfl, h1, B1⟩
  have H1 := Lib.hid h1; have C1 := Lib.hid B1; clear h1 B1
  go_wp2_with fail
  refine (is.Put_any 2 ⟨#[98]⟩ H1.out (by decide)).mono ?_; rintro e w2 ⟨q2, rfl, h2, B2⟩
  have H2 := Lib.hid h2; have C2 := Lib.hid B2; clear h2 B2
  go_wp2_with fail
  refine (is.Put_any 9 ⟨#[99]⟩ H2.out (by decide)).mono ?_; rintro e w3 ⟨q3, rfl, h3, B3⟩
  have H3 := Lib.hid h3; have C3 := Lib.hid B3; clear h3 B3
  go_wp2_with fail
  refine (is.Put_any 5 ⟨#[100]⟩ H3.out (by decide)).mono ?_; rintro e w4 ⟨q4, rfl, h4, B4⟩
  have b4 := box_below B4 (box_below C3.out (box_below C2.out (box_below C1.out HN.out)))
  have c4 := box_cell b4; have f4 := box_frozen b4
  have b5 := box_set (.pointer q4) b4
  have k5 := KeepT.setCell (nt := 121) (a := ⟨W.heap.size, 0, none⟩) (v := .pointer q4) b4 (by decide)
  have h5 : is.Is (w4.setCell ⟨W.heap.size, 0, none⟩ (.pointer q4)) q4 exT := h4.keep k5
  have B5 : Below W.heap.size W (w4.setCell ⟨W.heap.size, 0, none⟩ (.pointer q4)) := (Below.step (Below.step (Below.step (Below.step HB.out C1.out) C2.out) C3.out) B4).setCell (Nat.le_refl _) _
  have HB5 := Lib.hid B5; have H5 := Lib.hid h5; have K5 := Lib.hid b5
  clear H1 H2 H3 h4 C1 C2 C3 B4 b4 b5 k5 h5 B5 HB HN
  go_wp2_with fail
  refine (is.Get_any 5 H5.out).mono ?_; rintro e w6 ⟨rfl, B6⟩
  have b6 := box_below B6 K5.out
  have c6 := box_cell b6
  have H6 := Lib.hid (H5.out.below B6); have HB6 := Lib.hid (Below.step HB5.out B6); have K6 := Lib.hid b6
  clear b6 B6 H5 HB5 K5 c4 f4
  rw [exT_find]
  go_wp2_with fail
  refine (is.Floor_any 4 H6.out).mono ?_; rintro e w7 ⟨rfl, B7⟩
  have b7 := box_below B7 K6.out
  have c7 := box_cell b7
  have H7 := Lib.hid (H6.out.below B7); have HB7 := Lib.hid (Below.step HB6.out B7)
  clear b7 B7 H6 HB6 K6 c6
  rw [exT_floor]
  go_wp2_with fail
  refine (is.Len_any H7.out).mono ?_; rintro e w8 ⟨rfl, B8⟩
  have HB8 := Lib.hid (Below.step HB7.out B8)
  clear B8 H7 HB7
  rw [exT_sz]
  go_wp2_with fail
  go_ret
  exact ⟨rfl, HB8.out⟩
end Go.Proofs.Ytdgclambplipnaa
