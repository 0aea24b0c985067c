/- The specification's Order as a whole; walk.Rules of any known number. -/
import Derived.Test.YtpjcfepngjpfbaaOrd17
import Derived.Test.YtpjcfepngjpfbaaRefs
import Derived.Test.YtpjcfepngjpfbaaNoIt
set_option linter.unusedVariables false
set_option linter.unusedSimpArgs false
namespace Go.Proofs.Ytpjcfepngjpfbaa
open Go.RowKit Go.Lib
namespace M
attribute [local go_sem] Oper.semAt_some
set_option maxRecDepth 100000 in
set_option maxHeartbeats 4000000 in
theorem order17_any {E : List En} (hwf : Wf E) (hE : E.length ≤ 1048576) {z0 : Nat} {W : World} {rv : Value} (hR : Rus z0 W rv (rusF E (E.length + 1))) {id : Nat} (hid : id ≤ E.length) :
    Calls Try.prog 30 #[rv, .int .i64 id] W fun e w' => ∃ v, e = .returned v ∧ IdW W.heap.size w' v (ordF E id []) ∧ Below W.heap.size W w' := by
  have HF : ∀ f, Fence.wide.fn f := fun _ => trivial
  obtain ⟨m, hm⟩ : ∃ y, E.length + 1 = y := ⟨_, rfl⟩
  have hRl : (rusF E (E.length + 1)).length = m := by rw [rusF_len, hm]
  have hsh : ∃ gr rc, rv = .slice gr m rc := by obtain ⟨a, c, h⟩ := hR.len; exact ⟨a, c, by rw [h, hRl]⟩
  have hm2 : m ≤ 1048577 := by omega
  have hmk : (Instr.makeSlice 53 (.int .i64 (m : Int)) (.int .i64 (m : Int))).run Try.prog W = .ok (.slice (some ⟨W.heap.size, 0, none⟩) m m) (W.alloc (.cells (madeCells #[.bool false] m) 4)) := by
    have h := mk_run (P := Try.prog) (t := 53) (e := 4) (z := .bool false) (size := 1) (bytes := 1) Try.underlying53 (by kernel_rfl) m m (Nat.le_refl _) (by omega) (by omega) W
    rw [Nat.mul_one] at h
    exact h
  obtain ⟨wm, hwm⟩ : ∃ y, W.alloc (.cells (madeCells #[.bool false] m) 4) = y := ⟨_, rfl⟩
  have km : wm.heap[W.heap.size]? = some (.cells (madeCells #[Value.bool false] m) 4 (0, 0)) := by rw [← hwm]; exact heap_new' _ _
  have bm : Below W.heap.size W wm := by rw [← hwm]; exact (Below.refl _ _).alloc (Nat.le_refl _) _
  obtain ⟨gd, hgd⟩ : ∃ y, W.heap.size = y := ⟨_, rfl⟩
  obtain ⟨w1, hw1⟩ : ∃ y, wm.alloc (.cells #[.slice none 0 0] 24) = y := ⟨_, rfl⟩
  have k1 : w1.heap[wm.heap.size]? = some (.cells #[.slice none 0 0] 24 (0, 0)) := by rw [← hw1]; exact heap_new' _ _
  have b1 : Below wm.heap.size wm w1 := by rw [← hw1]; exact (Below.refl _ _).alloc (Nat.le_refl _) _
  obtain ⟨go, hgo⟩ : ∃ y, wm.heap.size = y := ⟨_, rfl⟩
  rw [hgd] at hmk km
  rw [hgo] at k1
  have kd1 := below_block b1 km
  have hgg : gd ≤ go := by rw [← hgd, ← hgo]; exact bm.size
  have hB : Below gd W w1 := by rw [← hgd]; exact Below.after bm b1
  have HCP : Hid (CpO gd gd m go [] w1) := Lib.hid ⟨⟨_, kd1, by simp [size_madeCells], fun k hk _ => by rw [madeCells_get hk]; simp⟩, _, k1, SlA.nil _ _ _ _ _⟩
  have HLC := Lib.hid (complete_any hwf hE (Wz := W) hgd hR hm.symm ⟨Nat.le_refl _, hgg⟩ id hid [] w1 List.nodup_nil (by simp) hB HCP.out)
  obtain ⟨gr, rc, rfl⟩ := hsh
  have HB := Lib.hid hB; have HGD := Lib.hid hgd
  clear hwf hE hR hid hm hm2 hRl km bm b1 kd1 hgg hB k1 HCP
  refine (callsIn_wide (n := 9)).1 ?_
  refine callsIn_of_wp Try.func30 rfl trivial ?_ rfl
  simp only [Try.ntmps30, List.size_toArray, List.length_cons, List.length_nil, Nat.reduceAdd, Nat.reduceSub, Array.replicate_succ, Array.replicate_zero, List.push_toArray, List.append_toArray, List.nil_append, List.cons_append]
  gi_wp2_with fail
  first | refine callsIn_wide.2 (HLC.out.mono ?_) | refine ⟨(fun h => by cases h), callsIn_wide.2 (HLC.out.mono ?_)⟩ | refine ⟨trivial, (fun h => by cases h), callsIn_wide.2 (HLC.out.mono ?_)⟩
  rintro e w2 ⟨⟨v2, rfl⟩, hc, kp⟩
  obtain ⟨v, hv, hid⟩ := hc.out
  have cv : w2.cell? ⟨go, 0, none⟩ = some v := by simp [World.cell?, hv]
  have HFN := Lib.hid (show IdW gd w2 v (ordF E id []) ∧ Below gd W w2 from ⟨hid, HB.out.trans kp.below⟩)
  obtain ⟨va, vl, vc, rfl⟩ : ∃ a l c, v = .slice a l c := by obtain ⟨a, c, h⟩ := hid.len; exact ⟨a, _, c, h⟩
  clear hc kp hv hid hmk hwm hw1 hgo hgd
  gi_wp2_with fail
  refine bodyPost_ret (results_tmp rfl _ _ _) rfl ?_
  rw [HGD.out]
  exact ⟨_, rfl, HFN.out⟩
/-- walk.Rules of no text. -/
theorem rules_zero {n0 B most : Nat} {W : World} {E : List En} (hs : StAt n0 W B most E) (hE : E.length ≤ 1048576) {z : Nat} (h0 : z = 0) :
    Calls Try.prog 22 #[.pointer (some ⟨B, 0, none⟩), .int .i64 z] W fun e w' => e = .returned (.func (.func 54) #[] #[]) ∧ Below W.heap.size W w' := by
  have HF : ∀ f, Fence.wide.fn f := fun _ => trivial
  obtain ⟨w1, w2, h1, h2, s1, k1, b2⟩ := newRl W B z
  have HK := Lib.hid (known1_any (hs.below b2) (show z ≤ E.length by omega) hE)
  obtain ⟨c0, c1⟩ := k1.cells
  have HLC := Lib.hid k1; have HB := Lib.hid b2
  have e1 : ((z : Int) == 0) = true := by simp [h0]
  clear hs k1 b2 h0
  go_enter Try.func22, Try.ntmps22
  go_wp2_with fail
  refine HK.out.mono ?_; rintro e w4 ⟨rfl, b4⟩
  have HL4 := Lib.hid (HLC.out.below b4); have HB4 := Lib.hid (Below.after HB.out b4)
  obtain ⟨d0, d1⟩ := HL4.out.cells
  clear b4 h1 h2 c0 c1
  go_wp2_with fail
  go_ret
  exact ⟨rfl, HB4.out⟩
theorem rules_all {n0 B most : Nat} {W : World} {E : List En} (hs : StAt n0 W B most E) (hwf : Wf E) (hE : E.length ≤ 1048576) {id : Nat} (hid : id ≤ E.length) :
    Calls Try.prog 22 #[.pointer (some ⟨B, 0, none⟩), .int .i64 id] W fun e w' => ∃ v, e = .returned v ∧ SeqR w' v E id ∧ Below W.heap.size W w' := by
  rcases Nat.eq_zero_or_pos id with h | h
  · subst h
    refine (rules_zero hs hE rfl).mono ?_
    rintro e w' ⟨rfl, hb⟩
    obtain ⟨gf, hv, hen, hn⟩ := noR
    refine ⟨_, rfl, ⟨gf, #[], hv, hen, fun n => ?_⟩, hb⟩
    rw [show ordF E 0 [] = [] from ordF_in (.inl rfl)]
    exact stops_nil n (hn n)
  · exact rules_seq hs hwf hE h hid
end M
end Go.Proofs.Ytpjcfepngjpfbaa
