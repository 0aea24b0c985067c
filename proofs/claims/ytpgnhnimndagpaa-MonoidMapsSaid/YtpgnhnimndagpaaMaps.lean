/- MonoidMaps: the walk. -/
import Derived.Test.YtpgnhnimndagpaaMapsC
import Derived.Test.YtpgnhnimndagpaaAwakeM
import Derived.Test.YtpgnhnimndagpaaOwn
import Derived.Laws.AppendOwnNone
namespace Go.Proofs.Ytpgnhnimndagpaa
open Go.RowKit
attribute [local go_sem] Oper.semAt_some

/-- What lies in rows of another type lies on behind an append. -/
theorem SlA.apart {α β : Type} {B B₀ : Nat} {w0 w' : World} {e e2 : TypeId} {size size2 : Nat} {enc : α → List Value} {enc2 : β → List Value} {v v2 : Value} {l : List α} {l2 : List β} {cs : Array Value} (h : SlA B w0 e2 size2 enc2 v2 l2) (hS : SlA B₀ w0 e size enc v l) (hg : (w0.alloc (.cells cs e)).grownBy w' v.ownBlock) (he : e ≠ e2) : SlA B w' e2 size2 enc2 v2 l2 := by
  refine World.ownsRow.kept (row := v.ownBlock) (World.ownsRow.alloc h _) hg ?_
  rcases h.2 with ⟨rfl, _⟩ | ⟨g, cap, cur, rfl, _, hgg, _⟩
  · left; rfl
  · right
    rcases hS.2 with ⟨rfl, _⟩ | ⟨g', cap', cur', rfl, _, hgg', _⟩
    · simp [Value.ownBlock]
    · intro e'
      obtain rfl : g = g' := by simpa [Value.ownBlock] using e'
      rw [hgg] at hgg'; simp only [Option.some.injEq, Obj.cells.injEq] at hgg'; exact he hgg'.2.1.symm

/-- The copies that have been made. -/
def MapsAt (B : Nat) (w : World) (s : Value) (Ls : List (List Int)) (j : Nat) : Prop :=
  ∃ vs : List Value, SlA B w 63 1 (fun v => [v]) s vs ∧ vs.length = j ∧ ∀ (i : Nat) (h : i < vs.length) (h' : i < Ls.length), SlA B w 3 1 encI vs[i] Ls[i]
theorem MapsAt.below {B : Nat} {A C : World} {s : Value} {Ls : List (List Int)} {j : Nat} (h : MapsAt B A s Ls j) (hb : Below A.heap.size A C) : MapsAt B C s Ls j := by
  obtain ⟨vs, h1, h2, h3⟩ := h
  exact ⟨vs, h1.below hb, h2, fun i a b => (h3 i a b).below hb⟩
theorem MapsAt.rows {B : Nat} {w : World} {s : Value} {Ls : List (List Int)} (h : MapsAt B w s Ls Ls.length) : RowsAt w s Ls := by
  obtain ⟨vs, h1, h2, h3⟩ := h
  exact ⟨vs, SlA.row (ev := fun u : Value => u) h1, h2, fun i a b => ⟨SlA.row (ev := Value.int .i64) (h3 i a b), fun n c e => by
    rcases (h3 i a b).shape with ⟨e1, -⟩ | ⟨g, cp, e1, -⟩
    · rw [e1] at e; cases e; rfl
    · rw [e1] at e; cases e⟩⟩
theorem MapsAt.len {B : Nat} {w : World} {s : Value} {Ls : List (List Int)} {j : Nat} (h : MapsAt B w s Ls j) : ∃ a cap, s = .slice a j cap := by
  obtain ⟨vs, h1, h2, -⟩ := h
  obtain ⟨a, c, hv⟩ := h1.len
  exact ⟨a, c, by rw [hv, h2]⟩
theorem elemMap : Elem Try.prog 62 63 1 24 := elem_of (z := .slice none 0 0) (by kernel_rfl) (by kernel_rfl) rfl (by decide) (by decide)

theorem MapsAt.snoc {B : Nat} {w4 w5 : World} {s v' v3 : Value} {Ls : List (List Int)} {j : Nat} {vs : List Value} {cs : Array Value} (hvs : SlA B w4 63 1 (fun v => [v]) s vs) (hl : vs.length = j) (hr : ∀ (i : Nat) (h : i < vs.length) (h' : i < Ls.length), SlA B w4 3 1 encI vs[i] Ls[i]) (hj : j < Ls.length) (h3 : SlA B w4 3 1 encI v3 Ls[j]) (hS' : SlA B w5 63 1 (fun v => [v]) v' (vs ++ [v3])) (hg : (w4.alloc (.cells cs 63)).grownBy w5 s.ownBlock) : MapsAt B w5 v' Ls (j + 1) := by
  refine ⟨vs ++ [v3], hS', by simp [hl], fun i h h' => ?_⟩
  by_cases hi : i < vs.length
  · rw [List.getElem_append_left hi]
    exact (hr i hi h').apart hvs hg (by decide)
  · obtain rfl : i = vs.length := by simp at h; omega
    rw [List.getElem_append_right (Nat.le_refl _)]
    simp only [Nat.sub_self, List.getElem_cons_zero]
    subst hl
    exact h3.apart hvs hg (by decide)
theorem flat_encI (f : List Int) : f.flatMap encI = f.map (Value.int .i64) := by
  induction f with
  | nil => rfl
  | cons a f ih => simp only [List.flatMap_cons, List.map_cons, ih]; rfl

set_option maxRecDepth 100000 in
set_option maxHeartbeats 4000000 in
theorem maps_any {W : World} {v : Value} {Ls : List (List Int)} (hL : RowsAt W v Ls) (n : Int) (hn0 : -9223372036854775808 ≤ n) (hn1 : n ≤ 9223372036854775807) (hcap : ∀ f ∈ Ls, f.length * 8 ≤ 140737488351232) :
    Calls Try.prog 8 #[v, .int .i64 n] W fun e w' => e = .returned (.bool true) ∧ Below W.heap.size W w' := by
  have H := Lib.hid hL; have HCAP := Lib.hid hcap
  obtain ⟨a, cap, rfl, hc1, hc2⟩ := hL.len
  clear hcap
  have big : ∀ (_ : 40 < n ∨ (¬ 40 < n ∧ 40 < Ls.length)), Calls Try.prog 8 #[.slice a Ls.length cap, .int .i64 n] W fun e w' => e = .returned (.bool true) ∧ Below W.heap.size W w' := by
    intro h
    rcases h with h | ⟨h, h2⟩
    · go_enter Try.func8, Try.ntmps8
      go_wp2_with fail
      refine (awake_any _).mono ?_; rintro e w1 ⟨rfl, b1⟩
      have HB1 := Lib.hid b1; clear b1
      go_wp2_with fail
      refine (awake_any _).mono ?_; rintro e w2 ⟨rfl, b2⟩
      have HB2 := Lib.hid (Below.step HB1.out b2); clear b2
      go_wp2_with fail
      go_ret
      exact ⟨rfl, HB2.out⟩
    · have h3 : (40 : Int) < (Ls.length : Int) := by omega
      go_enter Try.func8, Try.ntmps8
      go_wp2_with fail
      refine (awake_any _).mono ?_; rintro e w1 ⟨rfl, b1⟩
      have HB1 := Lib.hid b1; clear b1
      go_wp2_with fail
      refine (awake_any _).mono ?_; rintro e w2 ⟨rfl, b2⟩
      have HB2 := Lib.hid (Below.step HB1.out b2); clear b2
      go_wp2_with fail
      go_ret
      exact ⟨rfl, HB2.out⟩
  by_cases hn : 40 < n
  · exact big (.inl hn)
  by_cases hl : 40 < Ls.length
  · exact big (.inr ⟨hn, hl⟩)
  clear big
  have hl2 : ¬ (40 : Int) < (Ls.length : Int) := by omega
  have hl3 : decide ((40 : Int) < (Ls.length : Int)) = false := decide_eq_false hl2
  obtain ⟨m, hm, hm40⟩ : ∃ m : Nat, ((n = m ∧ 0 < m) ∨ (n ≤ 0 ∧ m = 0)) ∧ m ≤ 40 := ⟨n.toNat, by omega, by omega⟩
  have HM := Lib.hid hm
  clear hm
  go_enter Try.func8, Try.ntmps8
  go_wp2_with fail
  refine (awake_any _).mono ?_; rintro e w1 ⟨rfl, b1⟩
  have HB1 := Lib.hid b1; clear b1
  obtain ⟨w2, hw2⟩ : ∃ w2, w1.alloc (.cells #[.int .i64 n] 61) = w2 := ⟨_, rfl⟩
  have hb2 : Below w1.heap.size w1 w2 := by rw [← hw2]; exact (Below.refl _ _).alloc (Nat.le_refl _) _
  have n5 : w2.heap[w1.heap.size]? = some (.cells #[.int .i64 n] 61 (0, 0)) := by rw [← hw2]; exact heap_new _ _
  have HB2 := Lib.hid (Below.step HB1.out hb2); have HN5 := Lib.hid n5
  clear hb2 n5
  go_wp2_with fail
  clear hw2
  go_loopw [6, 31] (fun s c wr => ∃ j : Nat, j ≤ Ls.length ∧ c = .int .i64 j ∧ MapsAt w2.heap.size wr s Ls j ∧ Below w2.heap.size w2 wr) (fun _ c _ => Ls.length - (intOf c).toNat)
  case atStart => exact ⟨0, by omega, rfl, ⟨[], SlA.nil _ _ _ _ _, rfl, fun i h => by cases h⟩, Below.refl _ _⟩
  case round =>
    obtain ⟨j, hj, rfl, hS, hB⟩ := hrel
    have HS := Lib.hid hS; have HB := Lib.hid hB
    clear hS hB
    by_cases hlt : j < Ls.length
    · have hl4 : (j : Int) < (Ls.length : Int) := by omega
      have hl5 : (0 : Int) ≤ (j : Int) := by omega
      obtain ⟨b, cp, a2, n2, c2, he, hc, hr, hn2, hnil⟩ := H.out.at hlt
      simp only [Value.slice.injEq] at he
      obtain ⟨rfl, -, rfl⟩ := he
      have hbw := Below.step HB2.out HB.out
      have m1 := hc wr hbw
      have HR := Lib.hid (hr.below hbw)
      have hcf := HCAP.out _ (List.getElem_mem hlt)
      have HCF := Lib.hid hcf
      obtain ⟨a1, cp1, hv⟩ := HS.out.len
      subst hv
      obtain ⟨w3, hw3⟩ : ∃ w3, wr.alloc (.cells #[] 3) = w3 := ⟨_, rfl⟩
      have hrun0 : ((Sem.run Try.prog (pure #[]) w3).andThen fun (a : Array Value) w' => (Sem.run Try.prog (storeCells ⟨wr.heap.size, 0, none⟩ a.toList) w').andThen fun _ w' => Result.ok (Value.slice (some ⟨wr.heap.size, 0, none⟩) 0 0) w') = Result.ok (Value.slice (some ⟨wr.heap.size, 0, none⟩) 0 0) w3 := rfl
      have hb3 : Below wr.heap.size wr w3 := by rw [← hw3]; exact (Below.refl _ _).alloc (Nat.le_refl _) _
      have hown : w3.ownsRow wr.heap.size 3 1 (.slice (some ⟨wr.heap.size, 0, none⟩) 0 0) 0 ([] : List Value) := by
        refine ⟨by simp, .inr ⟨wr.heap.size, 0, #[], rfl, Nat.le_refl _, ?_, Nat.le_refl _, by unfold maxLen; omega, rfl, rfl⟩⟩
        rw [← hw3]; exact heap_new _ _
      have HB3 := Lib.hid hb3; have HOWN := Lib.hid hown
      have HFC := Lib.hid (HR.out.below hb3)
      obtain ⟨f, hf⟩ : ∃ f, Ls[j] = f := ⟨_, rfl⟩
      have HLF := Lib.hid hf
      rw [hf] at HR HFC HCF hn2
      have HN2 := Lib.hid hn2
      clear hc hr hbw hcf hb3 hown hf hn2
      have fin : ∀ (v3 : Value) (w4 : World), SlA wr.heap.size w4 3 1 encI v3 f → Below wr.heap.size wr w4 → MapsAt w2.heap.size w4 (.slice a1 j cp1) Ls j ∧ SlA w2.heap.size w4 3 1 encI v3 Ls[j] ∧ Below w2.heap.size w2 w4 := fun v3 w4 h1 h2 => ⟨HS.out.below h2, by rw [HLF.out]; exact h1.mono HB.out.size, Below.step HB.out h2⟩
      have HFIN := Lib.hid fin
      clear fin
      cases a2 with
      | none =>
        obtain ⟨rfl, rfl⟩ := hnil rfl
        have hf0 : f = [] := List.eq_nil_of_length_eq_zero HN2.out.symm
        have hv3 : SlA wr.heap.size w3 3 1 encI (.slice (some ⟨wr.heap.size, 0, none⟩) 0 0) f := by rw [hf0]; exact HOWN.out
        obtain ⟨h1, h2, h3⟩ := HFIN.out _ w3 hv3 HB3.out
        obtain ⟨vs, hvs, hvl, hvr⟩ := h1
        have HVS := Lib.hid hvs; have HVL := Lib.hid hvl; have HVR := Lib.hid hvr; have H2 := Lib.hid h2; have H3 := Lib.hid h3
        clear hf0 hv3 h2 h3 hvs hvl hvr hnil
        go_wp2_with (
          refine wp_app1G (w0 := w3) elemMap (fun _ => rfl) rfl (.tmp 35) (.tmp 39) rfl rfl HVS.out (.slice (some ⟨wr.heap.size, 0, none⟩) 0 0) rfl rfl (by simp [Value.oneCell']) (by rw [HVL.out]; omega) H3.out.size ?_
          intro v' w5 hS' hg hb'
          have HM5 := Lib.hid (MapsAt.snoc HVS.out HVL.out HVR.out hlt H2.out hS' hg); have HB5 := Lib.hid (H3.out.trans hb')
          clear hS' hg hb')
        go_roundw
        case rel => exact ⟨j + 1, by omega, by go_num, HM5.out, HB5.out⟩
        case measure => simp [intOf]; omega
      | some ad =>
        obtain rfl := HN2.out
        obtain ⟨ht, i0, z0, hi, hz, hsz, hby, hzs, h0, hb0⟩ := elemI
        have HT := Lib.hid ht; have HI := Lib.hid hi; have HZ := Lib.hid hz; have HSZ := Lib.hid hsz; have HBY := Lib.hid hby; have HZS := Lib.hid hzs
        obtain ⟨aa, cc, hee, -, -, hcell⟩ := HFC.out
        cases hee
        have HCELL := Lib.hid hcell
        have hz3 : wr.heap.size ≤ w3.heap.size := HB3.out.size
        clear ht hi hz hsz hby hzs h0 hb0 hcell hnil
        go_wp2_with (
          first
          | (
              refine wpList_append_own _ rfl (.tmp 36) (.tmp 37) 40 rfl wr.heap.size 3 i0 z0 1 8 HT.out HI.out HZ.out HSZ.out HBY.out HZS.out Nat.one_pos (.slice (some ⟨wr.heap.size, 0, none⟩) 0 0) 0 [] rfl HOWN.out ad f.length c2 (f.map (Value.int .i64)) rfl ?hl ?hnews ?h1 ?h63 ?hbytes hz3 ?_
              case hl => simp
              case hnews =>
                intro j u hu
                obtain ⟨hj, rfl⟩ := List.getElem?_eq_some_iff.1 hu
                obtain ⟨ad', e, hc⟩ := HCELL.out j (by simpa using hj)
                cases e
                simpa using hc
              case h1 =>
                intro u hu
                obtain ⟨x, -, rfl⟩ := List.mem_map.1 hu; rfl
              case h63 => have := HCF.out; unfold maxLen; omega
              case hbytes => have := HCF.out; omega
              intro v3 w4 hown' hg _
              have hv3 : SlA wr.heap.size w4 3 1 encI v3 f := by
                have := hown'; rw [Nat.zero_add, List.nil_append, ← flat_encI] at this; exact this
              have hb4 : Below wr.heap.size wr w4 := HB3.out.trans ((Below.refl _ w3).grown hg hz3 (fun k e => by cases e; exact Nat.le_refl _))
              obtain ⟨h1, h2, h3⟩ := HFIN.out v3 w4 hv3 hb4
              obtain ⟨vs, hvs, hvl, hvr⟩ := h1
              obtain ⟨a3, c3, hv3'⟩ := hv3.len
              subst hv3'
              have HVS := Lib.hid hvs; have HVL := Lib.hid hvl; have HVR := Lib.hid hvr; have H2 := Lib.hid h2; have H3 := Lib.hid h3
              clear hown' hg hv3 hb4 h2 h3 hvs hvl hvr)
          | (
              refine wp_app1G (w0 := w4) elemMap (fun _ => rfl) rfl (.tmp 35) (.tmp 39) rfl rfl HVS.out (.slice a3 f.length c3) rfl rfl (by simp [Value.oneCell']) (by rw [HVL.out]; omega) H3.out.size ?_
              intro v' w5 hS' hg hb'
              have HM5 := Lib.hid (MapsAt.snoc HVS.out HVL.out HVR.out hlt H2.out hS' hg); have HB5 := Lib.hid (H3.out.trans hb')
              clear hS' hg hb'))
        go_roundw
        case rel => exact ⟨j + 1, by omega, by go_num, HM5.out, HB5.out⟩
        case measure => simp [intOf]; omega
    · obtain rfl : j = Ls.length := by omega
      obtain ⟨a1, cp1, hv⟩ := HS.out.len
      subst hv
      have HS0 := Lib.hid HS.out.rows; have HBr := Lib.hid (Below.step HB2.out HB.out); have HN6 := Lib.hid (box_below HB.out HN5.out)
      have H6 := Lib.hid (H.out.below HBr.out)
      have c6 := box_cell HN6.out
      clear HS HB HCAP
      go_wp2_with fail
      refine (maps_unit HM.out (by omega) _).mono ?_
      rintro e w4 ⟨b4, rfl, hr, -, b4b⟩
      have HR4 : Hid (RowAt (Value.int .i64) w4 (.slice (some ⟨b4, 0, none⟩) m m) (idL m)) := Lib.hid (by
        have := hr.row (by rw [idL_len]; unfold maxLen; omega)
        rwa [idL_len] at this)
      have HB4 := Lib.hid (Below.step HBr.out b4b); have HS4 := Lib.hid (HS0.out.below b4b); have HN7 := Lib.hid (box_below b4b HN6.out); have H7 := Lib.hid (H6.out.below b4b)
      clear hr b4b c6 HS0 HBr HN6 H6
      go_wp2_with fail
      go_loopw [9, 46] (fun g c w => ∃ (k : Nat) (a : Option Addr) (x y : Nat), k ≤ Ls.length ∧ c = .int .i64 k ∧ g = .slice a x y ∧ RowAt (Value.int .i64) w (.slice a x y) ((Ls.take k).foldl (joinL m) (idL m)) ∧ Below w4.heap.size w4 w) (fun _ c _ => Ls.length - (intOf c).toNat)
      case atStart => exact ⟨0, _, _, _, by omega, rfl, rfl, HR4.out, Below.refl _ _⟩
      case round =>
        obtain ⟨k, a8, x8, y8, hk, rfl, rfl, hR, hB⟩ := hrel
        have HRk := Lib.hid hR; have HBk := Lib.hid hB
        clear hR hB
        by_cases hlt2 : k < Ls.length
        · have hk3 : (k : Int) < (Ls.length : Int) := by omega
          have hk4 : (0 : Int) ≤ (k : Int) := by omega
          obtain ⟨b', cp', a4, n4, c4, he, hc, hr, hn4, -⟩ := HS4.out.at hlt2
          simp only [Value.slice.injEq] at he
          obtain ⟨rfl, -, rfl⟩ := he
          have m1 := hc wr HBk.out
          have HRe := Lib.hid (hr.below HBk.out)
          have c7 := box_cell (box_below HBk.out HN7.out)
          have HT : Hid ((Ls.take (k + 1)).foldl (joinL m) (idL m) = joinL m ((Ls.take k).foldl (joinL m) (idL m)) Ls[k]) := Lib.hid (by rw [List.take_succ_eq_append_getElem hlt2, List.foldl_append]; rfl)
          clear hc hr hn4
          go_wp2_with fail
          refine (maps_join HRk.out HRe.out HM.out hn0 (by omega)).mono ?_
          rintro e w5 ⟨b5, rfl, hblk, -, bb5⟩
          have hnj : (joinL m ((Ls.take k).foldl (joinL m) (idL m)) Ls[k]).length = m := by
            unfold joinL; rw [thenL_len]; split
            · rename_i h; exact h.1
            · exact idL_len m
          have HR5 : Hid (RowAt (Value.int .i64) w5 (.slice (some ⟨b5, 0, none⟩) m m) ((Ls.take (k + 1)).foldl (joinL m) (idL m))) := Lib.hid (by
            have := hblk.row (by rw [hnj]; unfold maxLen; omega)
            rw [hnj] at this
            rw [HT.out]; exact this)
          have HB5 := Lib.hid (Below.step HBk.out bb5)
          clear hblk bb5 hnj m1 c7
          go_wp2_with fail
          go_roundw
          case rel => exact ⟨k + 1, _, _, _, by omega, by go_num, rfl, HR5.out, HB5.out⟩
          case measure => simp [intOf]; omega
        · obtain rfl : k = Ls.length := by omega
          rw [List.take_length, fold_comp] at HRk
          have HN8 := Lib.hid (box_below HBk.out HN7.out); have H8 := Lib.hid (H7.out.below HBk.out); have HS8 := Lib.hid (HS4.out.below HBk.out); have HB8 := Lib.hid (Below.step HB4.out HBk.out)
          clear HBk HR4 HS4 H7 HN7 HB4
          go_wp2_with fail
          refine (ref_comp H8.out HM.out hn0 (by omega) (by omega)).mono ?_
          rintro e w9 ⟨r9, rfl, hS9, b9⟩
          obtain ⟨a9, cp9, hv9⟩ := hS9.len
          subst hv9
          have HW9 := Lib.hid (SlA.row (ev := Value.int .i64) hS9); have HRg := Lib.hid (HRk.out.below b9)
          have HN9 := Lib.hid (box_below b9 HN8.out); have H9 := Lib.hid (H8.out.below b9); have HS9 := Lib.hid (HS8.out.below b9); have HB9 := Lib.hid (Below.step HB8.out b9)
          clear hS9 b9 HRk HN8 H8 HS8 HB8
          go_wp2_with fail
          refine (same_eq HRg.out HW9.out).mono ?_
          rintro e w10 ⟨rfl, b10⟩
          have HN10 := Lib.hid (box_below b10 HN9.out); have H10 := Lib.hid (H9.out.below b10); have HS10 := Lib.hid (HS9.out.below b10); have HB10 := Lib.hid (Below.step HB9.out b10); have HW10 := Lib.hid (HW9.out.below b10)
          have c10 := box_cell HN10.out
          clear b10 HRg HN9 H9 HS9 HB9 HW9
          go_wp2_with fail
          refine (maps_unit HM.out (by omega) _).mono ?_
          rintro e w11 ⟨b11, rfl, hr11, -, bb11⟩
          have HR11 : Hid (RowAt (Value.int .i64) w11 (.slice (some ⟨b11, 0, none⟩) m m) (idL m)) := Lib.hid (by
            have := hr11.row (by rw [idL_len]; unfold maxLen; omega)
            rwa [idL_len] at this)
          have HN11 := Lib.hid (box_below bb11 HN10.out); have H11 := Lib.hid (H10.out.below bb11); have HS11 := Lib.hid (HS10.out.below bb11); have HB11 := Lib.hid (Below.step HB10.out bb11); have HW11 := Lib.hid (HW10.out.below bb11)
          clear bb11 hr11 HN10 H10 HS10 HB10 HW10 c10
          go_wp2_with fail
          refine (ref_comp (Ls := []) (RowsAt.nil _) HM.out hn0 (by omega) (by simp)).mono ?_
          rintro e w12 ⟨r12, rfl, hS12, b12⟩
          have hc0 : compL m [] = idL m := by simp [compL, idL]
          rw [hc0] at hS12
          obtain ⟨a12, cp12, hv12⟩ := hS12.len
          subst hv12
          have HW12 := Lib.hid (SlA.row (ev := Value.int .i64) hS12); have HR12 := Lib.hid (HR11.out.below b12)
          have HN12 := Lib.hid (box_below b12 HN11.out); have H12 := Lib.hid (H11.out.below b12); have HS12 := Lib.hid (HS11.out.below b12); have HB12 := Lib.hid (Below.step HB11.out b12); have HWw := Lib.hid (HW11.out.below b12)
          clear hS12 b12 hc0 HN11 H11 HS11 HB11 HR11 HW11
          go_wp2_with fail
          refine (same_eq HR12.out HW12.out).mono ?_
          rintro e w13 ⟨rfl, b13⟩
          have HN13 := Lib.hid (box_below b13 HN12.out); have H13 := Lib.hid (H12.out.below b13); have HS13 := Lib.hid (HS12.out.below b13); have HB13 := Lib.hid (Below.step HB12.out b13); have HW13 := Lib.hid (HWw.out.below b13)
          clear b13 HN12 H12 HS12 HB12 HWw HW12 HR12
          go_wp2_with fail
          go_loopw [72] (fun c w => ∃ k : Nat, k ≤ Ls.length ∧ c = .int .i64 k ∧ (∀ f ∈ Ls.take k, validL m f) ∧ Below w13.heap.size w13 w) (fun c _ => Ls.length - (intOf c).toNat)
          case atStart => exact ⟨0, by omega, rfl, (fun f h => by simp at h), Below.refl _ _⟩
          case round =>
            obtain ⟨k, hk, rfl, hall, hB⟩ := hrel
            have HALL := Lib.hid hall; have HBk := Lib.hid hB
            clear hall hB
            by_cases hlt2 : k < Ls.length
            · have hk3 : (k : Int) < (Ls.length : Int) := by omega
              have hk4 : (0 : Int) ≤ (k : Int) := by omega
              obtain ⟨b', cp', a4, n4, c4, he, hc, hr, hn4, -⟩ := HS13.out.at hlt2
              obtain ⟨b2', cp2', a5, n5, c5, he2, hc2', hr2, hn5, -⟩ := H13.out.at hlt2
              simp only [Value.slice.injEq] at he he2
              obtain ⟨rfl, -, rfl⟩ := he
              obtain ⟨rfl, -, rfl⟩ := he2
              have m1 := hc wr HBk.out
              have m2 := hc2' wr HBk.out
              have HRe := Lib.hid (hr.below HBk.out); have HRf := Lib.hid (hr2.below HBk.out)
              have HT : Hid (∀ f, f ∈ Ls.take (k + 1) → f ∈ Ls.take k ∨ f = Ls[k]) := Lib.hid (fun f hf => by
                rw [List.take_succ_eq_append_getElem hlt2] at hf
                exact (List.mem_append.1 hf).imp id List.mem_singleton.1)
              generalize Ls[k] = f at *
              clear hc hr hn4 hc2' hr2 hn5
              go_wp2_with fail
              refine (same_eq HRe.out HRf.out).mono ?_
              rintro e w14 ⟨rfl, b14⟩
              have HB14 := Lib.hid (Below.step HBk.out b14); have HRe2 := Lib.hid (HRe.out.below b14); have HRf2 := Lib.hid (HRf.out.below b14)
              have m3 := cell_below m2 b14
              clear b14 m1 m2
              go_wp2_with fail
              refine (ref_valid HRe2.out HM.out hn0 (by omega)).mono ?_
              rintro e w15 ⟨rfl, b15⟩
              have HB15 := Lib.hid (Below.step HB14.out b15)
              have m4 := cell_below m3 b15
              have HRe3 := Lib.hid (HRe2.out.below b15); have HRf3 := Lib.hid (HRf2.out.below b15)
              by_cases hvf : validL m f
              · have hd : decide (validL m f) = true := decide_eq_true hvf
                have HVF := Lib.hid hvf
                rw [hd]
                clear b15 m3 hvf hd
                go_wp2_with fail
                go_roundw
                case rel => exact ⟨k + 1, by omega, by go_num, (fun x hx => by
                  rcases HT.out x hx with h | h
                  · exact HALL.out x h
                  · rw [h]; exact HVF.out), HB15.out⟩
                case measure => simp [intOf]; omega
              · have hd : decide (validL m f) = false := decide_eq_false hvf
                rw [hd]
                clear b15 m3 hvf hd
                go_wp2_with fail
                refine (same_eq HRe3.out HRf3.out).mono ?_
                rintro e w16 ⟨rfl, b16⟩
                have HB16 := Lib.hid (Below.step HB13.out (Below.step HB15.out b16))
                clear b16
                go_wp2_with fail
                go_ret
                exact ⟨rfl, HB16.out⟩
            · obtain rfl : k = Ls.length := by omega
              rw [List.take_length] at HALL
              have HN14 := Lib.hid (box_below HBk.out HN13.out); have HS14 := Lib.hid (HS13.out.below HBk.out); have HB14 := Lib.hid (Below.step HB13.out HBk.out); have HW14 := Lib.hid (HW13.out.below HBk.out)
              have c14 := box_cell HN14.out
              clear HBk HN13 HS13 HB13 HW13
              go_wp2_with fail
              refine (fold_maps HS14.out HM.out hn0 (by omega) (by omega) HALL.out).mono ?_
              rintro e w15 ⟨r15, rfl, hr15, b15⟩
              rw [fold1_comp HALL.out] at hr15
              have HR15 := Lib.hid hr15; have HB15 := Lib.hid (Below.step HB14.out b15); have HW15 := Lib.hid (HW14.out.below b15)
              clear hr15 b15 c14
              go_wp2_with fail
              refine (same_eq HR15.out HW15.out).mono ?_
              rintro e w16 ⟨rfl, b16⟩
              have HB16 := Lib.hid (Below.step HB15.out b16)
              clear b16
              go_wp2_with fail
              go_ret
              exact ⟨rfl, HB16.out⟩
end Go.Proofs.Ytpgnhnimndagpaa
