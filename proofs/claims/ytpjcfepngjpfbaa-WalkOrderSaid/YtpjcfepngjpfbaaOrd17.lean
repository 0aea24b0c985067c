/- The specification's Order (printed by walk/mkord17.py). -/
import Derived.Test.YtpjcfepngjpfbaaOrdP
import Derived.Test.YtpjcfepngjpfbaaTable
import Derived.Test.YtpjcfepngjpfbaaCom
import Derived.Test.YtpjcfepngjpfbaaMds
import Derived.Test.YtpjcfepngjpfbaaLtk
set_option linter.unusedVariables false
set_option linter.unusedSimpArgs false
namespace Go.Proofs.Ytpjcfepngjpfbaa
open Go.RowKit Go.Lib
namespace M
attribute [local go_sem] Oper.semAt_some
theorem ordF_nodup {E : List En} : ∀ (i : Nat) (S : List Nat), S.Nodup → (ordF E i S).Nodup := by
  intro i
  induction i using Nat.strongRecOn with
  | _ i ih =>
    intro S hS
    rw [ordF]
    split
    · exact hS
    · rename_i hi
      have k1 : (if (entAt E i).ru.left < i then ordF E (entAt E i).ru.left S else S).Nodup := by
        split
        · rename_i h; exact ih _ h S hS
        · exact hS
      have m1 : i ∉ (if (entAt E i).ru.left < i then ordF E (entAt E i).ru.left S else S) := by
        split
        · rename_i h; intro hm
          rcases ordF_mem _ _ _ hm with h' | h'
          · exact hi (.inr h')
          · omega
        · exact fun h => hi (.inr h)
      rw [List.nodup_append]
      refine ⟨?_, by simp, fun a ha b hb => ?_⟩
      · split
        · rename_i h; exact ih _ h _ k1
        · exact k1
      · rw [List.mem_singleton.1 hb]
        rintro rfl
        split at ha
        · rename_i h
          rcases ordF_mem _ _ _ ha with h' | h'
          · exact m1 h'
          · omega
        · exact m1 ha
theorem ordF_bd {E : List En} {i n : Nat} (hi : i ≤ n) {S : List Nat} (hS : ∀ x ∈ S, 0 < x ∧ x ≤ n) : ∀ x ∈ ordF E i S, 0 < x ∧ x ≤ n := fun x hx => by
  rcases ordF_mem _ _ _ hx with h | h
  · exact hS x h
  · exact ⟨h.1, by omega⟩
abbrev DnB (W : World) (g m : Nat) (S : List Nat) : Prop := Arr (fun b : Bool => Value.bool b) 4 W g m (fun _ => True) (fun i => decide (i ∈ S))
theorem DnB.keepT {A C : World} {g m : Nat} {S : List Nat} (h : DnB A g m S) (hk : ∀ (b : Nat) (cs : Array Value) (fz : Nat × Nat), A.heap[b]? = some (.cells cs 4 fz) → C.heap[b]? = some (.cells cs 4 fz)) : DnB C g m S := by
  obtain ⟨cs, h1, h2, h3⟩ := h
  exact ⟨cs, hk _ _ _ h1, h2, h3⟩
theorem DnB.add {W : World} {g m : Nat} {S : List Nat} (h : DnB W g m S) (x : Nat) : DnB (W.setCell ⟨g, x, none⟩ (.bool true)) g m (S ++ [x]) := by
  obtain ⟨cs, h1, h2, h3⟩ := h
  refine ⟨_, heap_set _ h1, by simp [h2], fun k hk hd => ?_⟩
  by_cases e : x = k
  · subst e; rw [Array.getElem?_setIfInBounds_self_of_lt (by omega)]; simp
  · rw [Array.getElem?_setIfInBounds_ne e, h3 k hk hd]
    dsimp only
    have : decide (k ∈ S ++ [x]) = decide (k ∈ S) := by simp [Ne.symm e]
    rw [this]
theorem DnB.other {W : World} {g m go : Nat} {S : List Nat} (h : DnB W g m S) {cs : Array Value} (hk : W.heap[go]? = some (.cells cs 24 (0, 0))) {v : Value} : DnB (W.setCell ⟨go, 0, none⟩ v) g m S := by
  obtain ⟨ds, h1, h2, h3⟩ := h
  exact ⟨ds, set_other (fun e => by rw [e, hk] at h1; simp at h1) h1, h2, h3⟩
/-- The state of Order: what is done, what is out. -/
structure CpO (z gd m go : Nat) (S : List Nat) (w : World) : Prop where
  dn : DnB w gd m S
  out : ∃ v, w.heap[go]? = some (.cells #[v] 24 (0, 0)) ∧ IdW z w v S
theorem CpO.below {z gd m go : Nat} {S : List Nat} {A C : World} (h : CpO z gd m go S A) (hb : Below A.heap.size A C) : CpO z gd m go S C := by
  obtain ⟨v, h1, h2⟩ := h.out
  exact ⟨h.dn.below hb, v, below_block hb h1, h2.below hb⟩
abbrev OrT : List TypeId := [4, 24, 31]
set_option maxRecDepth 100000 in
set_option maxHeartbeats 8000000 in
theorem complete_any {E : List En} (hwf : Wf E) (hE : E.length ≤ 1048576) {Wz : World} {z z0 gd m go : Nat} {rv : Value} (hz : Wz.heap.size = z) (hR : Rus z0 Wz rv (rusF E (E.length + 1))) (hm : m = E.length + 1) (hzg : z ≤ gd ∧ z ≤ go) :
    ∀ (i : Nat), i ≤ E.length → ∀ (S : List Nat) (W : World), S.Nodup → (∀ x ∈ S, 0 < x ∧ x ≤ E.length) → Below z Wz W → CpO z gd m go S W →
    Calls Try.prog 68 #[rv, .int .i64 i, .slice (some ⟨gd, 0, none⟩) m m, .pointer (some ⟨go, 0, none⟩)] W fun e w' => (∃ v, e = .returned v) ∧ CpO z gd m go (ordF E i S) w' ∧ KpL OrT z W w' := by
  have HF : ∀ f, Fence.wide.fn f := fun _ => trivial
  have HWF := Lib.hid hwf; have HEL := Lib.hid hE; have HZ := Lib.hid hz; have HR := Lib.hid hR; have HM := Lib.hid hm; have HZG := Lib.hid hzg
  obtain ⟨N, hN⟩ : ∃ N, E.length + 1 = N := ⟨_, rfl⟩
  have hRl : (rusF E (E.length + 1)).length = N := by rw [rusF_len, hN]
  obtain ⟨gr, rc, rfl⟩ : ∃ gr rc, rv = .slice (some ⟨gr, 0, none⟩) N rc := by
    rcases hR.shape with ⟨-, h⟩ | ⟨g, c, h, -⟩
    · rw [h] at hRl; simp at hRl; omega
    · exact ⟨g, c, by rw [h, hRl]⟩
  have HRR : Hid (∀ w, Below z Wz w → ∀ i, i ≤ E.length → ∀ k, k < 5 → w.cell? ⟨gr, i * 5 + k, none⟩ = (encRu (entAt E i).ru)[k]?) := Lib.hid (fun w hw i hi k hk => by
    have h := SlA.cell encRu_len (hR.below (by rw [hz]; exact hw)) (i := i) (by rw [hRl]; omega) (j := k) hk
    have e : (rusF E (E.length + 1))[i]'(by rw [hRl]; omega) = (entAt E i).ru := by simp [rusF]
    rw [e] at h
    exact h)
  have HN := Lib.hid hN
  clear hwf hE hz hR hm hzg hRl hN
  intro i
  induction i using Nat.strongRecOn with
  | _ i ih =>
    intro hi S W hnd hbd hB hC
    have HIH := Lib.hid ih; have HI := Lib.hid hi; have HND := Lib.hid hnd; have HBD := Lib.hid hbd; have HB := Lib.hid hB; have HC := Lib.hid hC
    have HZW : Hid (z ≤ W.heap.size) := Lib.hid (by rw [← HZ.out]; exact hB.size)
    have him : i < m := by have := HM.out; omega
    have himI : (i : Int) < (m : Int) := by omega
    have hdc := Arr.cell hC.dn him trivial
    clear ih hi hnd hbd hB hC
    refine (callsIn_wide (n := 9)).1 ?_
    by_cases h0 : i = 0
    · have b0 : ((i : Int) == 0) = true := by simp [h0]
      have HO : Hid (ordF E i S = S) := Lib.hid (ordF_in (.inl h0))
      rw [HO.out]
      clear h0
      refine callsIn_of_wp Try.func68 rfl trivial ?_ rfl
      simp only [Try.ntmps68, List.size_toArray, List.length_cons, List.length_nil, Nat.reduceAdd, Nat.reduceSub, Array.replicate_succ, Array.replicate_zero, List.push_toArray, List.append_toArray, List.nil_append, List.cons_append]
      gi_wp2_with fail
      refine bodyPost_ret (results_none rfl _ _ _) rfl ?_
      exact ⟨⟨_, rfl⟩, HC.out, KpL.of (Below.refl _ _) HZW.out⟩
    · have b0 : ((i : Int) == 0) = false := by simp; omega
      by_cases hin : i ∈ S
      · have HO : Hid (ordF E i S = S) := Lib.hid (ordF_in (.inr hin))
        rw [HO.out]
        try dsimp only at hdc
        rw [decide_eq_true hin] at hdc
        clear h0 hin
        refine callsIn_of_wp Try.func68 rfl trivial ?_ rfl
        simp only [Try.ntmps68, List.size_toArray, List.length_cons, List.length_nil, Nat.reduceAdd, Nat.reduceSub, Array.replicate_succ, Array.replicate_zero, List.push_toArray, List.append_toArray, List.nil_append, List.cons_append]
        gi_wp2_with fail
        refine bodyPost_ret (results_none rfl _ _ _) rfl ?_
        exact ⟨⟨_, rfl⟩, HC.out, KpL.of (Below.refl _ _) HZW.out⟩
      · try dsimp only at hdc
        rw [decide_eq_false hin] at hdc
        have hi0 : 0 < i := Nat.pos_of_ne_zero h0
        have hst := ordF_step HWF.out hi0 HI.out hin
        obtain ⟨hl, hr⟩ := refs_lt HWF.out hi0 HI.out
        have hcs := (HWF.out.rule i hi0 HI.out).cases
        have hrr := HRR.out W HB.out i HI.out
        have hiN : i < N := by have := HN.out; have := HI.out; omega
        have hiI : (i : Int) < (N : Int) := by omega
        obtain ⟨r, hre⟩ : ∃ r, (entAt E i).ru = r := ⟨_, rfl⟩
        rw [hre] at hst hl hr hcs hrr
        have q0 : W.cell? ⟨gr, i * 5, none⟩ = some (.int .i64 r.kind) := hrr 0 (by omega)
        have q1 : W.cell? ⟨gr, i * 5 + 1, none⟩ = some (.int .u8 r.letter) := hrr 1 (by omega)
        have q2 : W.cell? ⟨gr, i * 5 + 2, none⟩ = some (.int .i64 r.left) := hrr 2 (by omega)
        have q3 : W.cell? ⟨gr, i * 5 + 3, none⟩ = some (.int .i64 r.right) := hrr 3 (by omega)
        have q4 : W.cell? ⟨gr, i * 5 + 4, none⟩ = some (.int .i64 r.times) := hrr 4 (by omega)
        obtain ⟨wz, w1, hz1, hs1, kr, br, ⟨r0, r1, r2, r3, r4⟩, e0, e1, e2, e3, e4⟩ := newRu W r
        obtain ⟨g8, hg8⟩ : ∃ y, W.heap.size = y := ⟨_, rfl⟩
        rw [hg8] at hs1 kr r0 r1 r2 r3 r4 e0 e1 e2 e3 e4
        obtain ⟨x0, -, x2, x3, -⟩ := kr.cells
        have HKR := Lib.hid kr
        have HC1 := Lib.hid (HC.out.below br); have HB1 : Hid (Below z Wz w1) := Lib.hid (HB.out.trans (br.mono HZW.out)); have HK1 : Hid (KpL OrT z W w1) := Lib.hid (KpL.of br HZW.out)
        -- the lists that the two calls make
        obtain ⟨S1, hS1⟩ : ∃ L, ordF E r.left S = L := ⟨_, rfl⟩
        obtain ⟨Sx, hSx⟩ : ∃ L, ordF E r.right S1 = L := ⟨_, rfl⟩
        rw [hS1, hSx] at hst
        rw [hst]
        have nd1 : S1.Nodup := by rw [← hS1]; exact ordF_nodup _ _ HND.out
        have bd1 : ∀ x ∈ S1, 0 < x ∧ x ≤ E.length := by rw [← hS1]; exact ordF_bd (by have := HI.out; omega) HBD.out
        have ndx : Sx.Nodup := by rw [← hSx]; exact ordF_nodup _ _ nd1
        have bdx : ∀ x ∈ Sx, 0 < x ∧ x ≤ E.length := by rw [← hSx]; exact ordF_bd (by have := HI.out; omega) bd1
        obtain ⟨sl, hsl⟩ : ∃ n, Sx.length = n := ⟨_, rfl⟩
        have HSL := Lib.hid hsl
        have HSB : Hid ((sl + 1) * 8 ≤ 140737488355328) := Lib.hid (by have h1 := nodup_le _ _ ndx bdx; have h2 := HEL.out; omega)
        obtain ⟨s2, hs2⟩ : ∃ n, sl + 1 = n := ⟨_, rfl⟩
        have HS2 := Lib.hid hs2
        have HLC := Lib.hid (HIH.out r.left hl (by have := HI.out; omega) S w1 HND.out HBD.out HB1.out HC1.out)
        rw [hS1] at HLC
        have HRC : Hid (∀ w, Below z Wz w → CpO z gd m go S1 w → Calls Try.prog 68 #[.slice (some ⟨gr, 0, none⟩) N rc, .int .i64 r.right, .slice (some ⟨gd, 0, none⟩) m m, .pointer (some ⟨go, 0, none⟩)] w fun e w' => (∃ v, e = .returned v) ∧ CpO z gd m go Sx w' ∧ KpL OrT z w w') := Lib.hid (fun w hw hc => by
          have h := HIH.out r.right hr (by have := HI.out; omega) S1 w nd1 bd1 hw hc
          rw [hSx] at h
          exact h)
        have HS1 := Lib.hid hS1; have HSX := Lib.hid hSx
        clear h0 hin hi0 hst hl hr hrr hre kr br nd1 bd1 ndx bdx hsl hs2 hS1 hSx
        refine callsIn_of_wp Try.func68 rfl trivial ?_ rfl
        simp only [Try.ntmps68, List.size_toArray, List.length_cons, List.length_nil, Nat.reduceAdd, Nat.reduceSub, Array.replicate_succ, Array.replicate_zero, List.push_toArray, List.append_toArray, List.nil_append, List.cons_append]
        rcases hcs with ⟨k1, -, l0, rr0, -⟩ | ⟨k1, -⟩ | ⟨k1, -, -, -, rr0, -⟩
        · have b1 : ((r.kind : Int) != 1) = false := by simp [k1]
          have b2 : ((r.kind : Int) == 2) = false := by simp [k1]
          have HSE : Hid (Sx = S) := Lib.hid (by rw [← HSX.out, ← HS1.out, l0, rr0, ordF_in (.inl rfl), ordF_in (.inl rfl)])
          have HCX : Hid (CpO z gd m go Sx w1) := Lib.hid (by rw [HSE.out]; exact HC1.out)
          clear k1 l0 rr0
          obtain ⟨hdn, vo, hgo, hvo⟩ := HCX.out
          obtain ⟨oa, oc, rfl⟩ : ∃ a c, vo = .slice a sl c := by obtain ⟨a, c, h⟩ := hvo.len; exact ⟨a, c, by rw [h, HSL.out]⟩
          obtain ⟨cs, hcs, -⟩ : DnB w1 gd m Sx := id hdn
          have dheld : ∃ u, w1.cell? ⟨gd, i, none⟩ = some u := Arr.held hdn him
          obtain ⟨du, hdu⟩ := dheld
          have dfr := Arr.free hdn i
          obtain ⟨wa, hwa⟩ : ∃ y, w1.setCell ⟨gd, i, none⟩ (.bool true) = y := ⟨_, rfl⟩
          have hne : gd ≠ go := fun e => by rw [e, hgo] at hcs; simp at hcs
          have dna : DnB wa gd m (Sx ++ [i]) := by rw [← hwa]; exact DnB.add hdn i
          have goa : wa.heap[go]? = some (.cells #[.slice oa sl oc] 24 (0, 0)) := by rw [← hwa]; exact set_other (Ne.symm hne) hgo
          have voa : IdW z wa (.slice oa sl oc) Sx := by rw [← hwa]; exact SlA.setCell hvo (a := ⟨gd, i, none⟩) _ hcs (by decide)
          have kpa : KpL OrT z W wa := by rw [← hwa]; exact (HK1.out).set (p := ⟨gd, i, none⟩) hcs (by simp) HZG.out.1 _
          have cga : wa.cell? ⟨go, 0, none⟩ = some (.slice oa sl oc) := by simp [World.cell?, goa]
          have HVA := Lib.hid voa; have HKA := Lib.hid kpa; have HDA := Lib.hid dna; have HGA := Lib.hid goa
          have HZA : Hid (z ≤ wa.heap.size) := Lib.hid (Nat.le_trans HZW.out kpa.others.size)

          clear hdn hgo hvo hcs dna goa voa kpa hne
          gi_wp2_with (
            gi_at_builtin
            refine wp_app1In (w0 := wa) (enc := encI) (v := .slice oa sl oc) elemId encI_len rfl _ _ rfl rfl HVA.out i rfl rfl (encI_one _) (by rw [HSL.out]; exact HSB.out) HZA.out ?_
            intro v8 w8 hS8 hg8 hb8
            obtain ⟨a8, c8, rfl⟩ : ∃ a c, v8 = .slice a s2 c := by obtain ⟨a, c, h⟩ := hS8.len; exact ⟨a, c, by rw [h, List.length_append, List.length_singleton, HSL.out, HS2.out]⟩
            have g8o : w8.heap[go]? = some (.cells #[.slice oa sl oc] 24 (0, 0)) := app_other HVA.out hg8 HGA.out (by decide)
            have HK8 : Hid (KpL OrT z W w8) := Lib.hid (HKA.out.trans ⟨hb8, fun t ht k cs fz h => app_other HVA.out hg8 h (by rintro rfl; exact ht (by simp)), app_keepsOthers HVA.out hg8⟩)
            have HD8 : Hid (DnB w8 gd m (Sx ++ [i])) := Lib.hid (DnB.keepT HDA.out (fun k cs fz h => app_other HVA.out hg8 h (by decide)))
            have HX8 := Lib.hid hS8
            have c8o : w8.cell? ⟨go, 0, none⟩ = some (.slice oa sl oc) := by simp [World.cell?, g8o]
            have f8o : w8.frozen? ⟨go, 0, none⟩ = false := by simp [World.frozen?, g8o]
            obtain ⟨w9, hw9⟩ : ∃ y, w8.setCell ⟨go, 0, none⟩ (.slice a8 s2 c8) = y := ⟨_, rfl⟩
            have HFIN : Hid (CpO z gd m go (Sx ++ [i]) w9 ∧ KpL OrT z W w9) := Lib.hid (by
              rw [← hw9]
              refine ⟨⟨DnB.other HD8.out g8o, _, heap_set0 _ g8o, SlA.setCell HX8.out (a := ⟨go, 0, none⟩) _ g8o (by decide)⟩, HK8.out.set (p := ⟨go, 0, none⟩) g8o (by simp) HZG.out.2 _⟩)
            clear hS8 hg8 hb8 g8o)
          go_end0
          exact ⟨⟨_, rfl⟩, HFIN.out⟩
        · have b1 : ((r.kind : Int) != 1) = true := by simp [k1]
          have b2 : ((r.kind : Int) == 2) = true := by simp [k1]
          clear k1
          gi_wp2_with fail
          first | refine callsIn_wide.2 (HLC.out.mono ?_) | refine ⟨(fun h => by cases h), callsIn_wide.2 (HLC.out.mono ?_)⟩ | refine ⟨trivial, (fun h => by cases h), callsIn_wide.2 (HLC.out.mono ?_)⟩
          rintro e w2 ⟨⟨v2, rfl⟩, hc2, kp2⟩
          have HKR2 : Hid (RuC w2 g8 r) := Lib.hid (kp2.cells _ (by decide) _ _ _ HKR.out)
          obtain ⟨y0, -, y2, y3, -⟩ := HKR2.out.cells
          have HB2 : Hid (Below z Wz w2) := Lib.hid (HB1.out.trans kp2.below); have HK2 : Hid (KpL OrT z W w2) := Lib.hid (HK1.out.trans kp2)
          have HRC2 := Lib.hid (HRC.out w2 HB2.out hc2)
          clear hc2 kp2 hz1 hs1 r0 r1 r2 r3 r4 e0 e1 e2 e3 e4 x0 x2 x3 q0 q1 q2 q3 q4 hdc hg8
          gi_wp2_with fail
          first | refine callsIn_wide.2 (HRC2.out.mono ?_) | refine ⟨(fun h => by cases h), callsIn_wide.2 (HRC2.out.mono ?_)⟩ | refine ⟨trivial, (fun h => by cases h), callsIn_wide.2 (HRC2.out.mono ?_)⟩
          rintro e w3 ⟨⟨v3, rfl⟩, hc3, kp3⟩
          have HCX := Lib.hid hc3; have HK3 : Hid (KpL OrT z W w3) := Lib.hid (HK2.out.trans kp3)
          clear hc3 kp3 y0 y2 y3
          obtain ⟨hdn, vo, hgo, hvo⟩ := HCX.out
          obtain ⟨oa, oc, rfl⟩ : ∃ a c, vo = .slice a sl c := by obtain ⟨a, c, h⟩ := hvo.len; exact ⟨a, c, by rw [h, HSL.out]⟩
          obtain ⟨cs, hcs, -⟩ : DnB w3 gd m Sx := id hdn
          have dheld : ∃ u, w3.cell? ⟨gd, i, none⟩ = some u := Arr.held hdn him
          obtain ⟨du, hdu⟩ := dheld
          have dfr := Arr.free hdn i
          obtain ⟨wa, hwa⟩ : ∃ y, w3.setCell ⟨gd, i, none⟩ (.bool true) = y := ⟨_, rfl⟩
          have hne : gd ≠ go := fun e => by rw [e, hgo] at hcs; simp at hcs
          have dna : DnB wa gd m (Sx ++ [i]) := by rw [← hwa]; exact DnB.add hdn i
          have goa : wa.heap[go]? = some (.cells #[.slice oa sl oc] 24 (0, 0)) := by rw [← hwa]; exact set_other (Ne.symm hne) hgo
          have voa : IdW z wa (.slice oa sl oc) Sx := by rw [← hwa]; exact SlA.setCell hvo (a := ⟨gd, i, none⟩) _ hcs (by decide)
          have kpa : KpL OrT z W wa := by rw [← hwa]; exact (HK3.out).set (p := ⟨gd, i, none⟩) hcs (by simp) HZG.out.1 _
          have cga : wa.cell? ⟨go, 0, none⟩ = some (.slice oa sl oc) := by simp [World.cell?, goa]
          have HVA := Lib.hid voa; have HKA := Lib.hid kpa; have HDA := Lib.hid dna; have HGA := Lib.hid goa
          have HZA : Hid (z ≤ wa.heap.size) := Lib.hid (Nat.le_trans HZW.out kpa.others.size)

          clear hdn hgo hvo hcs dna goa voa kpa hne
          gi_wp2_with (
            gi_at_builtin
            refine wp_app1In (w0 := wa) (enc := encI) (v := .slice oa sl oc) elemId encI_len rfl _ _ rfl rfl HVA.out i rfl rfl (encI_one _) (by rw [HSL.out]; exact HSB.out) HZA.out ?_
            intro v8 w8 hS8 hg8 hb8
            obtain ⟨a8, c8, rfl⟩ : ∃ a c, v8 = .slice a s2 c := by obtain ⟨a, c, h⟩ := hS8.len; exact ⟨a, c, by rw [h, List.length_append, List.length_singleton, HSL.out, HS2.out]⟩
            have g8o : w8.heap[go]? = some (.cells #[.slice oa sl oc] 24 (0, 0)) := app_other HVA.out hg8 HGA.out (by decide)
            have HK8 : Hid (KpL OrT z W w8) := Lib.hid (HKA.out.trans ⟨hb8, fun t ht k cs fz h => app_other HVA.out hg8 h (by rintro rfl; exact ht (by simp)), app_keepsOthers HVA.out hg8⟩)
            have HD8 : Hid (DnB w8 gd m (Sx ++ [i])) := Lib.hid (DnB.keepT HDA.out (fun k cs fz h => app_other HVA.out hg8 h (by decide)))
            have HX8 := Lib.hid hS8
            have c8o : w8.cell? ⟨go, 0, none⟩ = some (.slice oa sl oc) := by simp [World.cell?, g8o]
            have f8o : w8.frozen? ⟨go, 0, none⟩ = false := by simp [World.frozen?, g8o]
            obtain ⟨w9, hw9⟩ : ∃ y, w8.setCell ⟨go, 0, none⟩ (.slice a8 s2 c8) = y := ⟨_, rfl⟩
            have HFIN : Hid (CpO z gd m go (Sx ++ [i]) w9 ∧ KpL OrT z W w9) := Lib.hid (by
              rw [← hw9]
              refine ⟨⟨DnB.other HD8.out g8o, _, heap_set0 _ g8o, SlA.setCell HX8.out (a := ⟨go, 0, none⟩) _ g8o (by decide)⟩, HK8.out.set (p := ⟨go, 0, none⟩) g8o (by simp) HZG.out.2 _⟩)
            clear hS8 hg8 hb8 g8o)
          go_end0
          exact ⟨⟨_, rfl⟩, HFIN.out⟩
        · have b1 : ((r.kind : Int) != 1) = true := by simp [k1]
          have b2 : ((r.kind : Int) == 2) = false := by simp [k1]
          have HSE : Hid (Sx = S1) := Lib.hid (by rw [← HSX.out, rr0, ordF_in (.inl rfl)])
          clear k1 rr0
          gi_wp2_with fail
          first | refine callsIn_wide.2 (HLC.out.mono ?_) | refine ⟨(fun h => by cases h), callsIn_wide.2 (HLC.out.mono ?_)⟩ | refine ⟨trivial, (fun h => by cases h), callsIn_wide.2 (HLC.out.mono ?_)⟩
          rintro e w2 ⟨⟨v2, rfl⟩, hc2, kp2⟩
          have HKR2 : Hid (RuC w2 g8 r) := Lib.hid (kp2.cells _ (by decide) _ _ _ HKR.out)
          obtain ⟨y0, -, y2, y3, -⟩ := HKR2.out.cells
          have HK2 : Hid (KpL OrT z W w2) := Lib.hid (HK1.out.trans kp2)
          have HCX : Hid (CpO z gd m go Sx w2) := Lib.hid (by rw [HSE.out]; exact hc2)
          clear hc2 kp2 hz1 hs1 r0 r1 r2 r3 r4 e0 e1 e2 e3 e4 x0 x2 x3 q0 q1 q2 q3 q4 hdc hg8
          obtain ⟨hdn, vo, hgo, hvo⟩ := HCX.out
          obtain ⟨oa, oc, rfl⟩ : ∃ a c, vo = .slice a sl c := by obtain ⟨a, c, h⟩ := hvo.len; exact ⟨a, c, by rw [h, HSL.out]⟩
          obtain ⟨cs, hcs, -⟩ : DnB w2 gd m Sx := id hdn
          have dheld : ∃ u, w2.cell? ⟨gd, i, none⟩ = some u := Arr.held hdn him
          obtain ⟨du, hdu⟩ := dheld
          have dfr := Arr.free hdn i
          obtain ⟨wa, hwa⟩ : ∃ y, w2.setCell ⟨gd, i, none⟩ (.bool true) = y := ⟨_, rfl⟩
          have hne : gd ≠ go := fun e => by rw [e, hgo] at hcs; simp at hcs
          have dna : DnB wa gd m (Sx ++ [i]) := by rw [← hwa]; exact DnB.add hdn i
          have goa : wa.heap[go]? = some (.cells #[.slice oa sl oc] 24 (0, 0)) := by rw [← hwa]; exact set_other (Ne.symm hne) hgo
          have voa : IdW z wa (.slice oa sl oc) Sx := by rw [← hwa]; exact SlA.setCell hvo (a := ⟨gd, i, none⟩) _ hcs (by decide)
          have kpa : KpL OrT z W wa := by rw [← hwa]; exact (HK2.out).set (p := ⟨gd, i, none⟩) hcs (by simp) HZG.out.1 _
          have cga : wa.cell? ⟨go, 0, none⟩ = some (.slice oa sl oc) := by simp [World.cell?, goa]
          have HVA := Lib.hid voa; have HKA := Lib.hid kpa; have HDA := Lib.hid dna; have HGA := Lib.hid goa
          have HZA : Hid (z ≤ wa.heap.size) := Lib.hid (Nat.le_trans HZW.out kpa.others.size)

          clear hdn hgo hvo hcs dna goa voa kpa hne
          gi_wp2_with (
            gi_at_builtin
            refine wp_app1In (w0 := wa) (enc := encI) (v := .slice oa sl oc) elemId encI_len rfl _ _ rfl rfl HVA.out i rfl rfl (encI_one _) (by rw [HSL.out]; exact HSB.out) HZA.out ?_
            intro v8 w8 hS8 hg8 hb8
            obtain ⟨a8, c8, rfl⟩ : ∃ a c, v8 = .slice a s2 c := by obtain ⟨a, c, h⟩ := hS8.len; exact ⟨a, c, by rw [h, List.length_append, List.length_singleton, HSL.out, HS2.out]⟩
            have g8o : w8.heap[go]? = some (.cells #[.slice oa sl oc] 24 (0, 0)) := app_other HVA.out hg8 HGA.out (by decide)
            have HK8 : Hid (KpL OrT z W w8) := Lib.hid (HKA.out.trans ⟨hb8, fun t ht k cs fz h => app_other HVA.out hg8 h (by rintro rfl; exact ht (by simp)), app_keepsOthers HVA.out hg8⟩)
            have HD8 : Hid (DnB w8 gd m (Sx ++ [i])) := Lib.hid (DnB.keepT HDA.out (fun k cs fz h => app_other HVA.out hg8 h (by decide)))
            have HX8 := Lib.hid hS8
            have c8o : w8.cell? ⟨go, 0, none⟩ = some (.slice oa sl oc) := by simp [World.cell?, g8o]
            have f8o : w8.frozen? ⟨go, 0, none⟩ = false := by simp [World.frozen?, g8o]
            obtain ⟨w9, hw9⟩ : ∃ y, w8.setCell ⟨go, 0, none⟩ (.slice a8 s2 c8) = y := ⟨_, rfl⟩
            have HFIN : Hid (CpO z gd m go (Sx ++ [i]) w9 ∧ KpL OrT z W w9) := Lib.hid (by
              rw [← hw9]
              refine ⟨⟨DnB.other HD8.out g8o, _, heap_set0 _ g8o, SlA.setCell HX8.out (a := ⟨go, 0, none⟩) _ g8o (by decide)⟩, HK8.out.set (p := ⟨go, 0, none⟩) g8o (by simp) HZG.out.2 _⟩)
            clear hS8 hg8 hb8 g8o)
          go_end0
          exact ⟨⟨_, rfl⟩, HFIN.out⟩
end M
end Go.Proofs.Ytpjcfepngjpfbaa
