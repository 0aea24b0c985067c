/- Keys: a map's keys, in order. -/
import Derived.Test.YtdgclambplipnaaSeqii
import Derived.Test.YtdgclambplipnaaDoii
namespace Go.Proofs.Ytdgclambplipnaa
open Go.RowKit Go.Shelf
namespace ii
attribute [local go_sem] Oper.semAt_some

def encK (k : Int) : List Value := [Value.int .i64 k]
theorem elemK : Elem Try.prog 62 3 1 8 := elem_of (z := Value.int .i64 0) (by kernel_rfl) (by kernel_rfl) rfl (by decide) (by decide)

/-- What the loop keeps. -/
def KI (n0 : Nat) (w : World) (D : Nat) (xs : List Int) (W : World) : Prop :=
  (∃ v, W.heap[D]? = some (.cells #[v] 62 (0, 0)) ∧ SlA n0 W 3 1 encK v xs) ∧ Below n0 w W
theorem KI_own {n0 : Nat} {w : World} {D B : Nat} {xs : List Int} {A C : World} {row : Option Nat} (h : KI n0 w D xs A) (hg : A.grownBy C row) (hr : CalmRow B A row) (hn : n0 ≤ w.heap.size) (hB : n0 ≤ B) : KI n0 w D xs C := by
  obtain ⟨⟨v, hv, hS⟩, hb⟩ := h
  exact ⟨⟨v, own_cells hg hr hv, own_SlA hg hr hS⟩, own_below hg hr hn hB hb⟩

set_option maxRecDepth 100000 in
set_option maxHeartbeats 4000000 in
theorem keys_any {W : World} {p : Option Addr} {T : Tr Int Int} (hT : Is W p T) (hn : T.toList.length ≤ 1000000) :
    Calls Try.prog 45 #[.agg #[.pointer p]] W fun e w' => ∃ v, e = .returned v ∧ SlA W.heap.size w' 3 1 encK v (T.toList.map Prod.fst) ∧ Below W.heap.size W w' := by
  have HF : ∀ f, Fence.wide.fn f := fun _ => trivial
  obtain ⟨hu, i0, z0, hi, hz, hsz, hby, hzs, h0, hb0⟩ := elemK
  have hb1 : Below W.heap.size W (W.alloc (.cells #[.pointer p] 26)) := (Below.refl _ W).alloc (Nat.le_refl _) _
  have HT := Lib.hid hT; have HB1 := Lib.hid hb1; have HN1 := Lib.hid (heap_new W (.cells #[.pointer p] 26))
  have HL := Lib.hid hn
  have HI := Lib.hid (And.intro hu (And.intro hi (And.intro hz (And.intro hsz hby))))
  have hTb := hT.below hb1
  have c1 := box_cell HN1.out
  clear hT hb1 hn hu hi hz hsz hby hzs h0 hb0
  refine (callsIn_wide (n := 9)).1 ?_
  refine callsIn_of_wp_marks Try.func45 rfl trivial ?_ rfl
  simp only [Try.ntmps45, List.size_toArray, List.length_cons, List.length_nil, Nat.reduceAdd, Nat.reduceSub, Array.replicate_succ, Array.replicate_zero, List.push_toArray, List.append_toArray, List.nil_append, List.cons_append]
  gi_wp2_with fail
  refine callsIn_wide.2 ((Len_any hTb).mono ?_)
  rintro e w2 ⟨rfl, b2⟩
  have HB2 := Lib.hid (Below.step HB1.out b2); have HN2 := Lib.hid (box_below b2 HN1.out)
  clear c1 b2
  rw [Tr.sz_eq]
  have hm1 := box_cell HN2.out
  gi_wp2_with (
    gi_at_make
    refine wpListIn_make_own _ rfl _ _ 62 rfl W.heap.size 3 i0 z0 1 HI.out.1 HI.out.2.1 HI.out.2.2.1 HI.out.2.2.2.1 .i64 .i64 _ T.toList.length rfl rfl rfl (by have := HL.out; have := HI.out.2.2.2.2; rw [this]; omega) (by have := HL.out; unfold maxLen; omega) HB2.out.size ?_
    intro w3 hown3 hgrow3
    have b3 : Below w2.heap.size w2 w3 := (Below.refl _ w2).grown hgrow3 (Nat.le_refl _) (fun j hj => by cases hj)
    have hs3 : SlA W.heap.size w3 3 1 encK (.slice (some ⟨w2.heap.size, 0, none⟩) 0 T.toList.length) [] := hown3
    have HS3 := Lib.hid hs3; have HN3 := Lib.hid (box_below b3 HN2.out); have HB3 := Lib.hid (Below.step HB2.out b3)
    clear b3 hs3 hgrow3 hown3 hm1
    have hm3 : ∀ o, (w3.alloc o).cell? ⟨W.heap.size, 0, none⟩ = some (.pointer p) := fun o => box_cell (box_below ((Below.refl _ w3).alloc (Nat.le_refl _) o) HN3.out))
  refine callsIn_wide.2 (all_any.mono ?_)
  rintro e w4 ⟨rfl, rfl⟩
  gi_wp2_with fail
  obtain ⟨W0, hW0⟩ : ∃ W0, ((w3.alloc (.cells #[.slice (some ⟨w2.heap.size, 0, none⟩) 0 T.toList.length] 62)).alloc (.cells #[.pointer p] 26)) = W0 := ⟨_, rfl⟩
  have hbA : Below w3.heap.size w3 W0 := by rw [← hW0]; exact ((Below.refl _ w3).alloc (Nat.le_refl _) _).alloc (by simp) _
  have hB : W0.heap[w3.heap.size + 1]? = some (.cells #[.pointer p] 26 (0, 0)) := by
    rw [← hW0]; have := heap_new (w3.alloc (.cells #[.slice (some ⟨w2.heap.size, 0, none⟩) 0 T.toList.length] 62)) (.cells #[.pointer p] 26); rwa [World.size_alloc] at this
  have hD : W0.heap[w3.heap.size]? = some (.cells #[.slice (some ⟨w2.heap.size, 0, none⟩) 0 T.toList.length] 62 (0, 0)) := by
    rw [← hW0]; exact (Below.heap_alloc _ _ _ (by simp)).trans (heap_new w3 _)
  have hS0 := HS3.out.below hbA
  have hB0 : Below W.heap.size W W0 := Below.step HB3.out hbA
  have hT0 : Is W0 p T := HT.out.below hB0
  have hsz : W.heap.size ≤ w3.heap.size := HB3.out.size
  rw [hW0]
  clear HS3 HB3 HN3 hm3 HB2 HN2 HB1 HN1 HI hTb hbA
  refine wpIn_rangeFunc_ownF rfl (by omega) (gf := 69) (lb := #[.pointer (some ⟨w3.heap.size + 1, 0, none⟩)]) rfl trivial (enters_of Try.func69 (by kernel_rfl) rfl)
    (all_stops 8 (w3.heap.size + 1) p T W0 hB hT0) KeepT.trans (fun W l o o' _ hl ho _ => keep_putObj hl ho) (Below.refl _ _) (fun _ => rfl)
    (fun pre Y => KI W.heap.size W w3.heap.size (pre.map Prod.fst) Y) (fun _ _ _ => False)
    (fun s A C row hs hg hr => KI_own hs hg hr (Nat.le_refl _) hB0.size) (fun _ _ _ _ _ h _ _ => h.elim)
    ⟨⟨_, hD, hS0⟩, hB0⟩
    (fun x => { tmps := #[.agg #[.pointer p], .pointer (some ⟨W.heap.size, 0, none⟩), .slice none 0 0, .pointer (some ⟨w3.heap.size, 0, none⟩), Value.int .i64 x.1, .agg #[.pointer p], .int .i64 T.toList.length, .slice (some ⟨w2.heap.size, 0, none⟩) 0 T.toList.length, .agg #[.pointer p], .func (.func 69) #[] #[.pointer (some ⟨w3.heap.size + 1, 0, none⟩)], Value.int .i64 x.1, Value.int .i64 x.2, undef, undef, undef, undef, undef], defers := [] }) ?assign ?body ?done ?stop
  case assign =>
    intro l x W K hK
    gi_wp2_with fail
    exact hK
  case body =>
    rintro l pre x Y ⟨⟨v, hv, hS⟩, hb⟩ hlen
    have hc := box_cell hv
    have HL1 := HL.out
    clear hW0 hB hD hS0 hB0 hT0
    gi_wp2_with (
      gi_at_builtin
      refine wp_app1In (w0 := Y) elemK (fun _ => rfl) rfl _ _ rfl rfl hS x.1 rfl rfl (by simp [encK, Value.oneCell']) (by simp; omega) hb.size ?_
      intro v' Y' hS' hg hb'
      replace hg : (Y.alloc (.cells #[Value.int .i64 x.1] 3)).grownBy Y' v.ownBlock := hg
      have hv' := app_other hS hg hv (by decide)
      have hkt : KeepT 81 Y Y' := fun _ _ _ h => app_other hS hg h (by decide)
      have hko : KeepsOthers Y Y' := app_keepsOthers hS hg
      obtain ⟨a0, cp, rfl⟩ := hS'.len
      have hc' := box_cell hv'
      have hf' := box_frozen hv'
      clear hc)
    refine ⟨keepsOthers_setCell hko _ _, hkt.trans (KeepT.setCell (a := ⟨w3.heap.size, 0, none⟩) hv' (by decide)), ⟨⟨_, box_set _ hv', ?_⟩, ?_⟩⟩
    · simp only [List.map_append, List.map_cons, List.map_nil]
      have hS2 := hS'.setCell (a := ⟨w3.heap.size, 0, none⟩) (.slice a0 (pre.length + 1) cp) hv' (by decide)
      simpa using hS2
    · exact (hb.trans hb').setCell (p := ⟨w3.heap.size, 0, none⟩) hsz _
  case done =>
    rintro D xs Y hD' rfl ⟨⟨v, hv, hS⟩, hb⟩ hK
    have hc := box_cell hv
    have hs0 := hB0.size
    clear hW0 hB hD hS0 hB0 hT0
    gi_wp2_with fail
    refine ⟨by simp, .inl ⟨_, _, rfl, run_takeDeferred hK, ?_⟩⟩
    have hr : CalmRow W.heap.size Y (some D) := fun r e => by cases e; exact ⟨by omega, _, hK, rfl⟩
    refine ⟨v, ?_, v, rfl, own_SlA (grownBy_putObj' _ _ _) hr hS, own_below (grownBy_putObj' _ _ _) hr (Nat.le_refl _) (Nat.le_refl _) hb⟩
    simp [results, Try.f45, go_sem]
  case stop =>
    rintro D c pre W _ _ hF _
    exact hF.elim
end ii
end Go.Proofs.Ytdgclambplipnaa
