/- The law's awake: an example of chapter 17.
Boxes into which a Made, a value, two numbers are laid; letters of a list; evergreenref01's Clip.
Blocks that stand, as a list; a store through the law's own steps. No walk. -/
import Derived.Test.YtpjcfepngjpfbaaLts
import Derived.Test.YtpjcfepngjpfbaaMds
import Derived.Test.YtpjcfepngjpfbaaSop
import Derived.Test.YtpjcfepngjpfbaaSto
import Derived.Test.YtpjcfepngjpfbaaLtk
import Derived.Shelf.Abstract
import Derived.Test.YtpjcfepngjpfbaaLetIt
import Derived.Test.YtpjcfepngjpfbaaCom
set_option linter.unusedVariables false
set_option linter.unusedSimpArgs false
namespace Go.Proofs.Ytpjcfepngjpfbaa
open Go.RowKit Go.Lib
namespace M
attribute [local go_sem] Oper.semAt_some
theorem eq_nilF (t : TypeId) (ht : t = 38 ∨ t = 48 ∨ t = 56) (f : Fn) (a b : Array Value) (w : World) : (binOp .eql t (.func f a b) .nilFunc).run Try.prog w = .ok (.bool false) w := by
  rcases ht with rfl | rfl | rfl <;> kernel_rfl
theorem bstr_data (l : List Nat) : (bstr l).data = (l.map fun n => UInt8.ofNat n).toArray := by
  have g : ∀ (l : List Nat) (b : ByteArray), ((l.map (fun n : Nat => (n : Int))).foldl (fun r n => r.push (UInt8.ofNat n.toNat)) b).data = b.data ++ (l.map fun n => UInt8.ofNat n).toArray := by
    intro l
    induction l with
    | nil => intro b; simp
    | cons a l ih => intro b; simp only [List.map_cons, List.foldl_cons, ih]; simp [ByteArray.push]
  have := g l ByteArray.empty
  rw [bstr, this]; exact Array.empty_append ..
theorem bstr_snoc (l : List Nat) (x : Nat) : bstr (l ++ [x]) = bstr l ++ bstr [x] := by
  apply ByteArray.ext
  rw [bstr_data, ByteArray.data_append, bstr_data, bstr_data]
  simp
theorem bstr_size (l : List Nat) : (bstr l).size = l.length := by
  show (bstr l).data.size = _
  rw [bstr_data]; simp
/-- The store of the example. -/
def awkE : List En := (pairF (addF (addF [] (letE 97)).1 (letE 98)).1 1 2).1
theorem awkE_eq : (addF [] (letE 97)).2 = 1 ∧ (addF (addF [] (letE 97)).1 (letE 98)).2 = 2 ∧ (pairF (addF (addF [] (letE 97)).1 (letE 98)).1 1 2).2 = (3, 0) := ⟨rfl, rfl, rfl⟩
theorem awkE_txt : txt awkE 3 = [97, 98] ∧ awkE.length = 3 ∧ (entAt awkE 3).even = true := ⟨rfl, rfl, rfl⟩
theorem awkE_wf : Wf awkE := by
  have h0 : Wf [] := .nil
  have h1 := (addF_wf h0 (letE_ok [] (show 97 < 256 by omega))).1
  have h2 := (addF_wf h1 (letE_ok _ (show 98 < 256 by omega))).1
  exact (pairF_wf h2 (show 1 ≤ _ by decide) (show 2 ≤ _ by decide)).1
set_option maxRecDepth 100000 in
set_option maxHeartbeats 4000000 in
theorem awake17_any (W : World) : Calls Try.prog 14 #[] W fun e w' => e = .returned (.bool true) ∧ Below W.heap.size W w' := by
  have HF : ∀ f, Fence.wide.fn f := fun _ => trivial
  have HS := Lib.hid (snew_any W 9 (by omega))
  rw [show ((9 : Nat) : Int) = 9 from rfl] at HS
  refine (callsIn_wide (n := 9)).1 ?_
  refine callsIn_of_wp_marks Try.func14 rfl trivial ?_ rfl
  simp only [Try.ntmps14, List.size_toArray, List.length_cons, List.length_nil, Nat.reduceAdd, Nat.reduceSub, Array.replicate_succ, Array.replicate_zero, List.push_toArray, List.append_toArray, List.nil_append, List.cons_append]
  gi_wp2_with fail
  first | refine callsIn_wide.2 (HS.out.mono ?_) | refine ⟨(fun h => by cases h), callsIn_wide.2 (HS.out.mono ?_)⟩ | refine ⟨trivial, (fun h => by cases h), callsIn_wide.2 (HS.out.mono ?_)⟩
  rintro e w1 ⟨B, rfl, s1, b1⟩
  have HL1 := Lib.hid (letter_any s1 97 (by omega) (by simp) (by simp))
  rw [show ((97 : Nat) : Int) = 97 from rfl, awkE_eq.1] at HL1
  clear HS s1
  gi_wp2_with fail
  first | refine callsIn_wide.2 (HL1.out.mono ?_) | refine ⟨(fun h => by cases h), callsIn_wide.2 (HL1.out.mono ?_)⟩ | refine ⟨trivial, (fun h => by cases h), callsIn_wide.2 (HL1.out.mono ?_)⟩
  rintro e w2 ⟨rfl, s2, b2, -⟩
  have HL2 := Lib.hid (letter_any s2 98 (by omega) (by decide) (by decide))
  rw [show ((98 : Nat) : Int) = 98 from rfl, awkE_eq.2.1] at HL2
  have HB2 := Lib.hid (b1.trans b2)
  clear HL1 s2 b1 b2
  gi_wp2_with fail
  first | refine callsIn_wide.2 (HL2.out.mono ?_) | refine ⟨(fun h => by cases h), callsIn_wide.2 (HL2.out.mono ?_)⟩ | refine ⟨trivial, (fun h => by cases h), callsIn_wide.2 (HL2.out.mono ?_)⟩
  rintro e w3 ⟨rfl, s3, b3, -⟩
  have HL3 := Lib.hid (pair_any s3 (addF_wf (addF_wf .nil (letE_ok [] (show 97 < 256 by omega))).1 (letE_ok _ (show 98 < 256 by omega))).1 (l := 1) (r := 2) (by decide) (by decide) (by decide) (by decide))
  rw [show ((1 : Nat) : Int) = 1 from rfl, show ((2 : Nat) : Int) = 2 from rfl, awkE_eq.2.2] at HL3
  simp only [errV_0] at HL3
  have HB3 := Lib.hid (HB2.out.trans b3)
  clear HL2 s3 b3 HB2
  gi_wp2_with fail
  first | refine callsIn_wide.2 (HL3.out.mono ?_) | refine ⟨(fun h => by cases h), callsIn_wide.2 (HL3.out.mono ?_)⟩ | refine ⟨trivial, (fun h => by cases h), callsIn_wide.2 (HL3.out.mono ?_)⟩
  rintro e w4 ⟨rfl, s4, b4, -⟩
  have HS4 : Hid (StAt W.heap.size w4 B 9 awkE) := Lib.hid s4
  have HB4 := Lib.hid (HB3.out.trans b4)
  obtain ⟨ht, hl, hv⟩ := awkE_txt
  have HLS : Hid (∀ w, StAt W.heap.size w B 9 awkE → Calls Try.prog 16 #[.pointer (some ⟨B, 0, none⟩), .int .i64 3, .int .i64 0] w fun e w' => e = .returned (.func (.func 45) #[] #[.pointer (some ⟨w.heap.size, 0, none⟩), .pointer (some ⟨w.heap.size + 1, 0, none⟩), .pointer (some ⟨w.heap.size + 2, 0, none⟩)]) ∧ LtC w' w.heap.size B 3 0 ∧ Below w.heap.size w w') := Lib.hid (fun w h => by
    have := letters_some h awkE_wf (by rw [hl]; decide) (id := 3) (frm := 0) (by rw [hl]; decide) (by rw [ht]; decide)
    exact this)
  have HBK : Hid (∀ w, StAt W.heap.size w B 9 awkE → Calls Try.prog 26 #[.pointer (some ⟨B, 0, none⟩), .int .i64 3, .int .i64 0] w fun e w' => e = .returned (.func (.func 60) #[] #[]) ∧ Below w.heap.size w w') := Lib.hid (fun w h => by
    have := back_out (W := w) (B := B) (id := 3) (fun w' h' => known1_any (h.below h') (i := 3) (by rw [hl]; decide) (by rw [hl]; decide)) (frm := 0) (.inr (.inl ⟨rfl, by decide⟩))
    exact this)
  have HPC : Hid (∀ w, StAt W.heap.size w B 9 awkE → Calls Try.prog 20 #[.pointer (some ⟨B, 0, none⟩), .int .i64 3, .int .i64 0, .int .i64 1] w fun e w' => ∃ g, e = .returned (.func (.func 52) #[] g) ∧ Below w.heap.size w w') := Lib.hid (fun w h => by
    have := pieces_some h awkE_wf (by rw [hl]; decide) (id := 3) (frm := 0) (n := 1) (by rw [hl]; decide) hv (by rw [ht]; decide)
    refine this.mono ?_
    rintro e w' ⟨h1, -, h2⟩
    exact ⟨_, h1, h2⟩)
  have HRL : Hid (∀ w, StAt W.heap.size w B 9 awkE → Calls Try.prog 22 #[.pointer (some ⟨B, 0, none⟩), .int .i64 3] w fun e w' => ∃ g, e = .returned (.func (.func 55) #[] g) ∧ Below w.heap.size w w') := Lib.hid (fun w h => by
    have := rules_some h (by rw [hl]; decide) (id := 3) (by decide) (by rw [hl]; decide)
    refine this.mono ?_
    rintro e w' ⟨h1, -, h2⟩
    exact ⟨_, h1, h2⟩)
  clear HL3 s4 b4 HB3 ht hl hv
  have hq1 := eq_nilF 38 (.inl rfl)
  have hq2 := eq_nilF 48 (.inr (.inl rfl))
  have hq3 := eq_nilF 56 (.inr (.inr rfl))
  gi_wp2_with fail
  first | refine callsIn_wide.2 ((HLS.out w4 HS4.out).mono ?_) | refine ⟨(fun h => by cases h), callsIn_wide.2 ((HLS.out w4 HS4.out).mono ?_)⟩ | refine ⟨trivial, (fun h => by cases h), callsIn_wide.2 ((HLS.out w4 HS4.out).mono ?_)⟩
  rintro e w5 ⟨rfl, -, b5⟩
  have HS5 := Lib.hid (HS4.out.below b5)
  have HB5 := Lib.hid (HB4.out.trans (b5.mono HB4.out.size))
  clear b5 HB4 HS4
  gi_wp2_with fail
  first | refine callsIn_wide.2 ((HBK.out w5 HS5.out).mono ?_) | refine ⟨(fun h => by cases h), callsIn_wide.2 ((HBK.out w5 HS5.out).mono ?_)⟩ | refine ⟨trivial, (fun h => by cases h), callsIn_wide.2 ((HBK.out w5 HS5.out).mono ?_)⟩
  rintro e w6 ⟨rfl, b6⟩
  have HS6 := Lib.hid (HS5.out.below b6)
  have HB6 := Lib.hid (HB5.out.trans (b6.mono HB5.out.size))
  clear b6 HB5 HS5
  gi_wp2_with fail
  first | refine callsIn_wide.2 ((HPC.out w6 HS6.out).mono ?_) | refine ⟨(fun h => by cases h), callsIn_wide.2 ((HPC.out w6 HS6.out).mono ?_)⟩ | refine ⟨trivial, (fun h => by cases h), callsIn_wide.2 ((HPC.out w6 HS6.out).mono ?_)⟩
  rintro e w7 ⟨g7, rfl, b7⟩
  have HS7 := Lib.hid (HS6.out.below b7)
  have HB7 := Lib.hid (HB6.out.trans (b7.mono HB6.out.size))
  clear b7 HB6 HS6
  gi_wp2_with fail
  first | refine callsIn_wide.2 ((HRL.out w7 HS7.out).mono ?_) | refine ⟨(fun h => by cases h), callsIn_wide.2 ((HRL.out w7 HS7.out).mono ?_)⟩ | refine ⟨trivial, (fun h => by cases h), callsIn_wide.2 ((HRL.out w7 HS7.out).mono ?_)⟩
  rintro e w8 ⟨g8, rfl, b8⟩
  have HS8 := Lib.hid (HS7.out.below b8)
  have HB8 := Lib.hid (HB7.out.trans (b8.mono HB7.out.size))
  clear b8 HB7 HS7
  obtain ⟨w9, hw9⟩ : ∃ y, w8.alloc (.cells #[.string ⟨#[]⟩] 9) = y := ⟨_, rfl⟩
  obtain ⟨w10, hw10⟩ : ∃ y, w9.setCell ⟨w8.heap.size, 0, none⟩ (.string ⟨#[]⟩) = y := ⟨_, rfl⟩
  have k9 : w9.heap[w8.heap.size]? = some (.cells #[.string ⟨#[]⟩] 9 (0, 0)) := by rw [← hw9]; exact heap_new' _ _
  have k10 : w10.heap[w8.heap.size]? = some (.cells #[.string ⟨#[]⟩] 9 (0, 0)) := by rw [← hw10]; exact heap_set0 _ k9
  have b10 : Below w8.heap.size w8 w10 := by rw [← hw10, ← hw9]; exact ((Below.refl _ w8).alloc (Nat.le_refl _) _).setCell (p := ⟨w8.heap.size, 0, none⟩) (Nat.le_refl _) _
  have c9 : w9.cell? ⟨w8.heap.size, 0, none⟩ = some (.string ⟨#[]⟩) := by simp [World.cell?, k9]
  have f9 : w9.frozen? ⟨w8.heap.size, 0, none⟩ = false := by simp [World.frozen?, k9]
  obtain ⟨gs, hgs⟩ : ∃ y, w8.heap.size = y := ⟨_, rfl⟩
  rw [hgs] at hw10 k10 c9 f9
  have HS10 := Lib.hid (HS8.out.below b10)
  have HB10 := Lib.hid (HB8.out.trans (b10.mono HB8.out.size))
  have HK10 := Lib.hid k10
  have HGS : Hid (W.heap.size ≤ gs) := Lib.hid (by rw [← hgs]; exact HB8.out.size)
  clear k9 k10 b10 HS8 HB8
  gi_wp2_with fail
  first | refine callsIn_wide.2 ((HLS.out w10 HS10.out).mono ?_) | refine ⟨(fun h => by cases h), callsIn_wide.2 ((HLS.out w10 HS10.out).mono ?_)⟩ | refine ⟨trivial, (fun h => by cases h), callsIn_wide.2 ((HLS.out w10 HS10.out).mono ?_)⟩
  rintro e w11 ⟨rfl, hlc, b11⟩
  obtain ⟨gl, hgl⟩ : ∃ y, w10.heap.size = y := ⟨_, rfl⟩
  rw [hgl] at hlc ⊢
  have HLC := Lib.hid hlc
  have HS11 := Lib.hid (HS10.out.below b11)
  have HB11 := Lib.hid (HB10.out.trans (b11.mono HB10.out.size))
  have HK11 : Hid (w11.heap[gs]? = some (.cells #[.string ⟨#[]⟩] 9 (0, 0))) := Lib.hid (below_block b11 HK10.out)
  clear hlc b11 HS10 HB10 HK10 hw9 hw10 hgl hgs c9 f9 HLS HBK HPC HRL hq1 hq2 hq3
  gi_wp2_with fail
  refine wpIn_rangeFunc_T rfl (by omega) (gf := 45) (lb := #[.pointer (some ⟨gl, 0, none⟩), .pointer (some ⟨gl + 1, 0, none⟩), .pointer (some ⟨gl + 2, 0, none⟩)]) rfl trivial (enters_of Try.func45 (by kernel_rfl) rfl)
    (letters_stops 8 (M := w11.heap.size) HLC.out HS11.out awkE_wf (by decide) (by decide) (by decide) (by decide) (Nat.le_refl _)) KpI.trans (fun X l o o' hl ho hc _ => KpI.put X l o o' hl ho hc) (Below.refl _ _) (fun _ => rfl)
    (fun pre Y => Y.heap[gs]? = some (.cells #[.string (bstr (pre.map (·.2)))] 9 (0, 0)) ∧ Below W.heap.size W Y)
    (fun _ _ _ => False)
    (fun s A C row hs hg hr => ⟨own_cells hg hr hs.1, own_below hg hr (Nat.le_refl _) HB11.out.size hs.2⟩)
    (fun c s A C row hs => hs.elim)
    (fun s A C hs h => ⟨h.cells _ (by decide) _ _ _ hs.1, hs.2.trans (h.below.mono HB11.out.size)⟩)
    (fun c s A C hs _ => hs.elim)
    ⟨HK11.out, HB11.out⟩ ?round ?done (fun D c pre Y hD hp hx _ => hx.elim)
  case round =>
    intro l pre x Y Yb K hI hlen hK
    have HF : ∀ f, (Fence.wide.inRound l).fn f := fun _ => trivial
    have HK := Lib.hid hK
    clear hK
    gi_wp2_with fail
    refine HK.out _ ?_
    clear HK
    obtain ⟨h1, h2⟩ := hI
    obtain ⟨Y1, hY1⟩ : ∃ y, Yb.alloc (.cells #[.int .u8 x.2] 5) = y := ⟨_, rfl⟩
    have b1 : Below Yb.heap.size Yb Y1 := by rw [← hY1]; exact (Below.refl _ _).alloc (Nat.le_refl _) _
    have hl1 : Bys Yb.heap.size Y1 (.slice (some ⟨Yb.heap.size, 0, none⟩) 1 1) [x.2] := by rw [← hY1]; exact SlA.lit (l := [x.2]) encB_len rfl (by simp; unfold maxLen; omega)
    have hcv := conv_bys hl1
    have k1 := below_block b1 h1
    obtain ⟨s0, hs0⟩ : ∃ y, bstr (pre.map (·.2)) = y := ⟨_, rfl⟩
    obtain ⟨s1, hs1⟩ : ∃ y, bstr [x.2] = y := ⟨_, rfl⟩
    rw [hs0] at h1 k1
    rw [hs1] at hcv
    have c0 : Yb.cell? ⟨gs, 0, none⟩ = some (.string s0) := by simp [World.cell?, h1]
    have c1 : Y1.cell? ⟨gs, 0, none⟩ = some (.string s0) := by simp [World.cell?, k1]
    have f1 : Y1.frozen? ⟨gs, 0, none⟩ = false := by simp [World.frozen?, k1]
    obtain ⟨Y2, hY2⟩ : ∃ y, Y1.setCell ⟨gs, 0, none⟩ (.string (s0 ++ s1)) = y := ⟨_, rfl⟩
    have k2 : Y2.heap[gs]? = some (.cells #[.string (bstr ((pre ++ [x]).map (·.2)))] 9 (0, 0)) := by
      rw [List.map_append, List.map_singleton, bstr_snoc, hs0, hs1, ← hY2]; exact heap_set0 _ k1
    have hko : KeepsOthers Yb Y2 := by rw [← hY2]; exact keepsOthers_setCell (keepsOthers_below b1) _ _
    have hkt : ∀ t, t ≠ 9 → KeepT t Yb Y2 := fun t ht => by rw [← hY2]; exact (KeepT.below b1).trans (KeepT.setCell (a := ⟨gs, 0, none⟩) k1 (Ne.symm ht))
    have hbl : Below W.heap.size W Y2 := by rw [← hY2]; exact (h2.trans (b1.mono h2.size)).setCell (p := ⟨gs, 0, none⟩) HGS.out _
    have HFIN := Lib.hid (And.intro k2 (And.intro hko (And.intro hkt hbl)))
    have hlen2 : pre.length < 2 := by have := hlen.length_le; rw [List.length_append, lzs_length, List.length_drop, awkE_txt.1] at this; simp at this; omega
    have hsz : ¬ 9223372036854775807 < s0.size + s1.size := by rw [← hs0, ← hs1, bstr_size, bstr_size, List.length_map, List.length_singleton]; omega
    clear k2 hko hkt hbl k1 h1 h2 b1 hl1 hs0 hs1
    gi_wp2_with fail
    obtain ⟨k2, hko, hkt, hbl⟩ := HFIN.out
    exact ⟨hko, KpI.of_others (fun t ht => hkt t (by intro e; subst e; revert ht; decide)) hko, k2, hbl⟩
  case done =>
    rintro D xs Y hD rfl ⟨h1, h2⟩ hDc
    have c0 : Y.cell? ⟨gs, 0, none⟩ = some (.string ⟨#[97, 98]⟩) := by
      have e : bstr ((lzs ((txt awkE 3).drop 0) 0).map (·.2)) = ⟨#[97, 98]⟩ := rfl
      rw [e] at h1
      simp [World.cell?, h1]
    have HMK : Hid (Marks w11.heap.size Y [{ target := .collected D, args := #[] }]) := Lib.hid ⟨[D], rfl, List.pairwise_singleton _ _, fun D' h => by rw [List.mem_singleton.1 h]; exact ⟨hD, hDc⟩⟩
    have HB := Lib.hid h2
    have HDS : Hid (D < Y.heap.size) := Lib.hid (Array.getElem?_eq_some_iff.1 hDc).1
    clear h1 h2 hDc
    gi_wp2_with fail
    refine HMK.out.leaves (by have := HDS.out; omega) fun w' hb' => ?_
    refine ⟨.bool true, ?_, rfl, HB.out.trans (hb'.mono (HB11.out.size))⟩
    simp [results, Try.f14, go_sem]
end M
end Go.Proofs.Ytpjcfepngjpfbaa
namespace Go.Proofs.Ytpjcfepngjpfbaa
open Go.RowKit Go.Lib
namespace M
attribute [local go_sem] Oper.semAt_some
theorem lzs_snd : ∀ (l : List Nat) (a : Nat), (lzs l a).map (·.2) = l
  | [], _ => rfl
  | b :: l, a => by show b :: (lzs l (a + 1)).map (·.2) = b :: l; rw [lzs_snd l]
/-- A box into which a Made is laid. -/
theorem newMd (w : World) (B : Nat) (iv lv tv : Value) : ∃ wz w2, w.alloc (.cells #[.pointer none, .slice none 0 0, .slice none 0 0, .slice none 0 0] 28) = wz ∧
    (((wz.setCell ⟨w.heap.size, 0, none⟩ (.pointer (some ⟨B, 0, none⟩))).setCell ⟨w.heap.size, 1, none⟩ iv).setCell ⟨w.heap.size, 2, none⟩ lv).setCell ⟨w.heap.size, 3, none⟩ tv = w2 ∧
    McC w2 w.heap.size B iv lv tv ∧ Below w.heap.size w w2 ∧ MzC wz w.heap.size := by
  have k0 : MzC (w.alloc (.cells #[.pointer none, .slice none 0 0, .slice none 0 0, .slice none 0 0] 28)) w.heap.size := heap_new' _ _
  have b0 : Below w.heap.size w (w.alloc (.cells #[.pointer none, .slice none 0 0, .slice none 0 0, .slice none 0 0] 28)) := (Below.refl _ _).alloc (Nat.le_refl _) _
  refine ⟨_, _, rfl, rfl, ?_, (((b0.setCell (p := ⟨w.heap.size, 0, none⟩) (Nat.le_refl _) _).setCell (p := ⟨w.heap.size, 1, none⟩) (Nat.le_refl _) _).setCell (p := ⟨w.heap.size, 2, none⟩) (Nat.le_refl _) _).setCell (p := ⟨w.heap.size, 3, none⟩) (Nat.le_refl _) _, k0⟩
  unfold MzC at k0
  exact heap_set0 _ (heap_set0 _ (heap_set0 _ (heap_set0 _ k0)))
/-- A box into which a value is laid. -/
theorem newBx (w : World) (t : TypeId) (z v : Value) : ∃ wz w2, w.alloc (.cells #[z] t) = wz ∧ wz.setCell ⟨w.heap.size, 0, none⟩ v = w2 ∧ w2.heap[w.heap.size]? = some (.cells #[v] t (0, 0)) ∧ Below w.heap.size w w2 ∧ wz.cell? ⟨w.heap.size, 0, none⟩ = some z ∧ wz.frozen? ⟨w.heap.size, 0, none⟩ = false := by
  have k0 : (w.alloc (.cells #[z] t)).heap[w.heap.size]? = some (.cells #[z] t (0, 0)) := heap_new' _ _
  have b0 : Below w.heap.size w (w.alloc (.cells #[z] t)) := (Below.refl _ _).alloc (Nat.le_refl _) _
  generalize w.alloc (.cells #[z] t) = wz at k0 b0
  exact ⟨_, _, rfl, rfl, heap_set0 _ k0, b0.setCell (p := ⟨w.heap.size, 0, none⟩) (Nat.le_refl _) _, by simp [World.cell?, k0], by simp [World.frozen?, k0]⟩
theorem newTwo (w : World) : ∃ wz wy wx w2, w.alloc (.cells #[.int .i64 0] 3) = wz ∧ wz.alloc (.cells #[.int .i64 0] 3) = wy ∧ wy.setCell ⟨w.heap.size, 0, none⟩ (.int .i64 0) = wx ∧ wx.setCell ⟨w.heap.size + 1, 0, none⟩ (.int .i64 0) = w2 ∧ wz.heap.size = w.heap.size + 1 ∧
    (wy.cell? ⟨w.heap.size, 0, none⟩ = some (.int .i64 0) ∧ wy.frozen? ⟨w.heap.size, 0, none⟩ = false) ∧ (wx.cell? ⟨w.heap.size + 1, 0, none⟩ = some (.int .i64 0) ∧ wx.frozen? ⟨w.heap.size + 1, 0, none⟩ = false) ∧
    (w2.heap[w.heap.size]? = some (.cells #[.int .i64 0] 3 (0, 0)) ∧ w2.heap[w.heap.size + 1]? = some (.cells #[.int .i64 0] 3 (0, 0))) ∧ Below w.heap.size w w2 := by
  obtain ⟨wz, hz⟩ : ∃ y, w.alloc (.cells #[.int .i64 0] 3) = y := ⟨_, rfl⟩
  obtain ⟨wy, hy⟩ : ∃ y, wz.alloc (.cells #[.int .i64 0] 3) = y := ⟨_, rfl⟩
  obtain ⟨wx, hx⟩ : ∃ y, wy.setCell ⟨w.heap.size, 0, none⟩ (.int .i64 0) = y := ⟨_, rfl⟩
  obtain ⟨w2, h2⟩ : ∃ y, wx.setCell ⟨w.heap.size + 1, 0, none⟩ (.int .i64 0) = y := ⟨_, rfl⟩
  have s1 : wz.heap.size = w.heap.size + 1 := by rw [← hz]; simp
  have b1 : Below w.heap.size w wz := by rw [← hz]; exact (Below.refl _ _).alloc (Nat.le_refl _) _
  have b2 : Below wz.heap.size wz wy := by rw [← hy]; exact (Below.refl _ _).alloc (Nat.le_refl _) _
  have k1 : wz.heap[w.heap.size]? = some (.cells #[.int .i64 0] 3 (0, 0)) := by rw [← hz]; exact heap_new' _ _
  have k2 : wy.heap[w.heap.size]? = some (.cells #[.int .i64 0] 3 (0, 0)) := below_block b2 k1
  have j2 : wy.heap[w.heap.size + 1]? = some (.cells #[.int .i64 0] 3 (0, 0)) := by rw [← hy, ← s1]; exact heap_new' _ _
  have k3 : wx.heap[w.heap.size]? = some (.cells #[.int .i64 0] 3 (0, 0)) := by rw [← hx]; exact heap_set0 _ k2
  have j3 : wx.heap[w.heap.size + 1]? = some (.cells #[.int .i64 0] 3 (0, 0)) := by rw [← hx]; exact set_other (by omega) j2
  have k4 : w2.heap[w.heap.size]? = some (.cells #[.int .i64 0] 3 (0, 0)) := by rw [← h2]; exact set_other (by omega) k3
  have j4 : w2.heap[w.heap.size + 1]? = some (.cells #[.int .i64 0] 3 (0, 0)) := by rw [← h2]; exact heap_set0 _ j3
  refine ⟨wz, wy, wx, w2, hz, hy, hx, h2, s1, ⟨by simp [World.cell?, k2], by simp [World.frozen?, k2]⟩, ⟨by simp [World.cell?, j3], by simp [World.frozen?, j3]⟩, ⟨k4, j4⟩, ?_⟩
  rw [← h2, ← hx]
  exact ((Below.after b1 b2).setCell (p := ⟨w.heap.size, 0, none⟩) (Nat.le_refl _) _).setCell (p := ⟨w.heap.size + 1, 0, none⟩) (by simp) _
set_option maxRecDepth 100000 in
theorem clipR_any (W : World) (n l h : Int) : Calls Try.prog 32 #[.int .i64 n, .int .i64 l, .int .i64 h] W fun e w' => e = .returned (.int .i64 (if n < l then l else if n > h then h else n)) ∧ w' = W := by
  by_cases h1 : n < l
  · rw [if_pos h1]
    go_enter Try.func32, Try.ntmps32
    go_wp2_with fail
    go_ret
    exact ⟨rfl, rfl⟩
  · rw [if_neg h1]
    by_cases h2 : n > h
    · rw [if_pos h2]
      go_enter Try.func32, Try.ntmps32
      go_wp2_with fail
      go_ret
      exact ⟨rfl, rfl⟩
    · rw [if_neg h2]
      go_enter Try.func32, Try.ntmps32
      go_wp2_with fail
      go_ret
      exact ⟨rfl, rfl⟩
end M
end Go.Proofs.Ytpjcfepngjpfbaa
namespace Go.Proofs.Ytpjcfepngjpfbaa
open Go.RowKit Go.Lib
/-- These blocks hold these cells. -/
def SB (l : List (Nat × Array Value × TypeId)) (Y : World) : Prop := ∀ p ∈ l, Y.heap[p.1]? = some (.cells p.2.1 p.2.2 (0, 0))
theorem SB.own {l : List (Nat × Array Value × TypeId)} {D : Nat} {A C : World} {row : Option Nat} (h : SB l A) (hg : A.grownBy C row) (hr : CalmRow D A row) : SB l C := fun p hp => own_cells hg hr (h p hp)
theorem SB.kpl {l : List (Nat × Array Value × TypeId)} {ts : List TypeId} {n : Nat} {A C : World} (h : SB l A) (k : KpL ts n A C) (ht : ∀ p ∈ l, p.2.2 ∉ ts) : SB l C := fun p hp => k.cells _ (ht p hp) _ _ _ (h p hp)
theorem SB.below {l : List (Nat × Array Value × TypeId)} {A C : World} (h : SB l A) (hb : Below A.heap.size A C) : SB l C := fun p hp => below_block hb (h p hp)
theorem SB.set {l : List (Nat × Array Value × TypeId)} {A : World} {g i : Nat} (h : SB l A) (v : Value) (ha : ∀ p ∈ l, p.1 ≠ g) : SB l (A.setCell ⟨g, i, none⟩ v) := fun p hp => M.set_other (ha p hp) (h p hp)
theorem SB.cell {l : List (Nat × Array Value × TypeId)} {A : World} (h : SB l A) {g : Nat} {cs : Array Value} {t : TypeId} (hm : (g, cs, t) ∈ l) (i : Nat) : A.cell? ⟨g, i, none⟩ = cs[i]? ∧ A.frozen? ⟨g, i, none⟩ = false := by
  have := h _ hm
  exact ⟨by simp [World.cell?, this], by simp [World.frozen?, this]⟩
namespace M
theorem StB.own {D n0 M B most : Nat} {A C : World} {E : List En} {row : Option Nat} (hs : StB n0 M A B most E) (hg : A.grownBy C row) (hr : CalmRow D A row) (hM : M ≤ D) : StB n0 M C B most E := by
  obtain ⟨lv, mb, k1, k2, k3, k4, k5, k6⟩ := hs
  refine ⟨lv, mb, own_cells hg hr k1, own_SlA hg hr k2, ?_, k4, k5, k6⟩
  obtain ⟨es, c, h5, h6⟩ := k3
  refine ⟨es, c, ?_, h6⟩
  rw [hg.block mb (Array.getElem?_eq_some_iff.1 h5).1 (fun e => ?_)]
  · exact h5
  · have := (hr mb e.symm).1; omega
/-- What stands while the iterators run. -/
def StJ (ds : List Nat) (ls : List (Nat × Array Value × TypeId)) (W : World) (n0 M B : Nat) (E : List En) (Y : World) : Prop := SB ls Y ∧ StB n0 M Y B 1048576 E ∧ Below W.heap.size W Y ∧ ∀ d ∈ ds, d < M ∧ Y.heap[d]? = some (.deferred (some []))
section
variable {ds : List Nat} {ls : List (Nat × Array Value × TypeId)} {W : World} {n0 M B : Nat} {E : List En} {A C : World}
theorem StJ.own {D : Nat} {row : Option Nat} (h : StJ ds ls W n0 M B E A) (hg : A.grownBy C row) (hr : CalmRow D A row) (hM : M ≤ D) (hz : W.heap.size ≤ D) : StJ ds ls W n0 M B E C :=
  ⟨h.1.own hg hr, h.2.1.own hg hr hM, own_below hg hr (Nat.le_refl _) hz h.2.2.1, fun d hd => ⟨(h.2.2.2 d hd).1, (hg.block d (Array.getElem?_eq_some_iff.1 (h.2.2.2 d hd).2).1 (fun e => by have h1 := (hr d e.symm).1; have h2 := (h.2.2.2 d hd).1; omega)).trans (h.2.2.2 d hd).2⟩⟩
theorem StJ.kpl {ts : List TypeId} {n : Nat} (h : StJ ds ls W n0 M B E A) (k : KpL ts n A C) (ht : ∀ p ∈ ls, p.2.2 ∉ ts) (h1 : 116 ∉ ts) (h2 : 122 ∉ ts) (hz : W.heap.size ≤ n) : StJ ds ls W n0 M B E C :=
  ⟨h.1.kpl k ht, h.2.1.kpl k h1 h2, h.2.2.1.trans (k.below.mono hz), fun d hd => ⟨(h.2.2.2 d hd).1, k.others.same _ _ (h.2.2.2 d hd).2 rfl⟩⟩
theorem StJ.below (h : StJ ds ls W n0 M B E A) (b : Below A.heap.size A C) : StJ ds ls W n0 M B E C :=
  ⟨h.1.below b, h.2.1.kpl (KpL.of (ts := []) b (Nat.le_refl _)) (by simp) (by simp), h.2.2.1.trans (b.mono h.2.2.1.size), fun d hd => ⟨(h.2.2.2 d hd).1, (b.block d (Array.getElem?_eq_some_iff.1 (h.2.2.2 d hd).2).1).trans (h.2.2.2 d hd).2⟩⟩
theorem StJ.set (h : StJ ds ls W n0 M B E A) {g i : Nat} {cs : Array Value} {t : TypeId} (hk : A.heap[g]? = some (.cells cs t (0, 0))) (h1 : t ≠ 116) (h2 : t ≠ 122) (ha : ∀ p ∈ ls, p.1 ≠ g) (hz : W.heap.size ≤ g) (v : Value) : StJ ds ls W n0 M B E (A.setCell ⟨g, i, none⟩ v) :=
  ⟨h.1.set v ha, h.2.1.kpl (KpL.set (ts := [t]) (KpL.of (n := 0) (Below.refl _ _) (Nat.zero_le _)) (p := ⟨g, i, none⟩) hk (by simp) (Nat.zero_le _) v) (by simpa using Ne.symm h1) (by simpa using Ne.symm h2), h.2.2.1.setCell (p := ⟨g, i, none⟩) hz v, fun d hd => ⟨(h.2.2.2 d hd).1, set_other (fun e => by have h3 := (h.2.2.2 d hd).2; rw [e, hk] at h3; cases h3) (h.2.2.2 d hd).2⟩⟩
theorem StJ.b {M' : Nat} (h : StJ ds ls W n0 M B E A) (hM : A.heap.size ≤ M') : StJ ds ls W n0 M' B E A := ⟨h.1, h.2.1.st.b hM, h.2.2.1, fun d hd => ⟨Nat.lt_of_lt_of_le (Array.getElem?_eq_some_iff.1 (h.2.2.2 d hd).2).1 hM, (h.2.2.2 d hd).2⟩⟩
theorem StJ.mark (h : StJ ds ls W n0 M B E A) {D : Nat} (hD : A.heap[D]? = some (.deferred (some []))) (hM : A.heap.size ≤ M) : StJ (D :: ds) ls W n0 M B E A := ⟨h.1, h.2.1, h.2.2.1, fun d hd => by
  rcases List.mem_cons.1 hd with rfl | hd
  · exact ⟨Nat.lt_of_lt_of_le (Array.getElem?_eq_some_iff.1 hD).1 hM, hD⟩
  · exact h.2.2.2 d hd⟩
end
end M
end Go.Proofs.Ytpjcfepngjpfbaa
