/- A set that floats in a drawn region, behind which the region goes on one by one (its stores need not wait for all loads). After XFloat. No program. -/
import Derived.Test.YtpjcfepngjpfbaaCom
set_option linter.unusedVariables false
set_option linter.unusedSimpArgs false
namespace Go.Proofs.Ytpjcfepngjpfbaa
open Go.RowKit
section
variable {F : Fence} {n : Nat} {P : Program} {ops : Array Oper} {Q : Exit → Act → World → Prop} {S : World → Prop}
def floatOkC (ops : Array Oper) (listed : Array Bool) (js : List Nat) (sz : Nat) : Bool :=
  noDefer ops && Region.noSelect ops &&
  (js.all fun j => looksOk ops js j && (match dstOf ops j with | some d => decide (d < sz) | none => false)) &&
  (js.all fun i => js.all fun j => i == j || dstOf ops i != dstOf ops j) &&
  (subs js).all fun s => !(s.all fun j => (deps ops js j).all s.contains) || if s.length == js.length then true
    else (Region.ready .any ops (mark listed s) != []) && (Region.ready .any ops (mark listed s)).all fun i => js.contains i && !s.contains i && (deps ops js i).all s.contains
theorem AnyH.floatC {l : List Oper} (js : List Nat) (c : Nat) (PP : Nat → Value → World → Prop) (al : Nat → Bool) {k : Nat} {listed : Array Bool} {a : Act} {w : World}
    (hc : floatOkC l.toArray listed js a.tmps.size = true) (hk : js.length + c ≤ k) (hF : ∀ f, F.fn f) (hS : S w)
    (hmono : ∀ j ∈ js, ∀ v w w', PP j v w → Below w.heap.size w w' → PP j v w')
    (hbox : ∀ j ∈ js, al j = true → ∀ v w, PP j v w → ∃ B, v = .pointer (some ⟨B, 0, none⟩) ∧ B < w.heap.size)
    (hstep : ∀ j ∈ js, ∀ vs w, S w → (∀ i ∈ deps l.toArray js j, PP i (vs i) w) → ∀ K : Act → World → Prop, (∀ v w', S w' → Below w.heap.size w w' → PP j v w' → (al j = true → v = .pointer (some ⟨w.heap.size, 0, none⟩)) → K ((putAll l.toArray vs a (deps l.toArray js j)).put (dstOf l.toArray j) v) w') → StepIn F n P l.toArray j K (putAll l.toArray vs a (deps l.toArray js j)) w)
    (htail : ∀ vs w, S w → (∀ j ∈ js, PP j (vs j) w) → (∀ i ∈ js, ∀ j ∈ js, al i = true → al j = true → i ≠ j → vs i ≠ vs j) → ∀ d, AnyH F n P l.toArray Q S (d + c) (mark listed js) (putAll l.toArray vs a js) w) :
    AnyH F n P l.toArray Q S k listed a w := by
  simp only [floatOkC, Bool.and_eq_true] at hc
  obtain ⟨⟨⟨⟨hnd, hns⟩, hl⟩, hdd⟩, hsub⟩ := hc
  have hlook : ∀ j ∈ js, looksOk l.toArray js j = true := fun j hj => by
    have := List.all_eq_true.1 hl j hj; simp only [Bool.and_eq_true] at this; exact this.1
  have hdst : ∀ j ∈ js, ∃ d, dstOf l.toArray j = some d ∧ d < a.tmps.size := fun j hj => by
    have := List.all_eq_true.1 hl j hj; simp only [Bool.and_eq_true] at this
    have h2 := this.2
    cases hd : dstOf l.toArray j with
    | none => rw [hd] at h2; cases h2
    | some d => rw [hd] at h2; exact ⟨d, rfl, by simpa using h2⟩
  have hne : ∀ i ∈ js, ∀ j ∈ js, i ≠ j → dstOf l.toArray i ≠ dstOf l.toArray j := fun i hi j hj hij => by
    have := List.all_eq_true.1 (List.all_eq_true.1 hdd i hi) j hj
    simpa [hij] using this
  suffices H : ∀ (k : Nat) (p : Nat → Bool) (vs : Nat → Value) (b : Act) (w : World), FJ l.toArray js PP al a p vs b w → S w → (js.length - (js.filter p).length) + c ≤ k → AnyH F n P l.toArray Q S k (mark listed (js.filter p)) b w by
    have hf : js.filter (fun _ => false) = [] := List.filter_eq_nil_iff.2 (fun _ _ h => by cases h)
    have h0 := H k (fun _ => false) (fun _ => undef) a w ⟨rfl, rfl, fun _ _ => rfl, fun _ _ h => (by cases h), fun _ _ h => (by cases h), fun _ _ _ _ h => (by cases h), fun _ _ h => (by cases h)⟩ hS (by rw [hf]; simpa using hk)
    rw [hf] at h0
    exact h0
  have hfin : ∀ (k : Nat) (p : Nat → Bool) (vs : Nat → Value) (b : Act) (w : World), FJ l.toArray js PP al a p vs b w → S w → c ≤ k → (js.filter p).length = js.length → AnyH F n P l.toArray Q S k (mark listed (js.filter p)) b w := by
    intro k p vs b w hJ hS hk hall
    have hp : ∀ j ∈ js, p j = true := fun j hj => List.length_filter_eq_length_iff.1 hall j hj
    have hb : b = putAll l.toArray vs a js := by
      apply act_ext
      · intro t
        by_cases ht : ∃ j ∈ js, dstOf l.toArray j = some t
        · obtain ⟨j, hj, hd⟩ := ht
          obtain ⟨d, hd2, hlt⟩ := hdst j hj
          have e : d = t := by rw [hd] at hd2; exact (Option.some.inj hd2).symm
          subst e
          rw [hJ.own j hj (hp j hj) d hd, putAll_eq vs js a (fun i hi e => by
            by_cases h : i = j
            · exact h
            · exact absurd (e.trans hd.symm) (hne i hi j hj h)) hj hd hlt]
        · rw [hJ.other t (fun j hj _ e => ht ⟨j, hj, e⟩), putAll_ne vs js a (fun j hj e => ht ⟨j, hj, e⟩)]
      · rw [hJ.defers, putAll_defers]
    subst hb
    have hfl : js.filter p = js := List.filter_eq_self.2 hp
    rw [hfl]
    obtain ⟨d, rfl⟩ : ∃ d, k = d + c := ⟨k - c, by omega⟩
    exact htail vs w hS (fun j hj => hJ.hP j hj (hp j hj)) (fun i hi j hj h1 h2 h3 => hJ.dist i hi j hj (hp i hi) (hp j hj) h1 h2 h3) d
  intro k
  induction k with
  | zero =>
    intro p vs b w hJ hS hk
    exact hfin 0 p vs b w hJ hS (by omega) (Nat.le_antisymm (List.length_filter_le _ _) (by omega))
  | succ k ih =>
    intro p vs b w hJ hS hk
    by_cases hall : (js.filter p).length = js.length
    · exact hfin (k + 1) p vs b w hJ hS (by omega) hall
    have hc := List.all_eq_true.1 hsub _ (filter_subs p js)
    rw [hJ.closed, Bool.not_true, Bool.false_or] at hc
    rw [if_neg (by simpa using hall)] at hc
    simp only [Bool.and_eq_true, bne_iff_ne, ne_eq] at hc
    refine ⟨fun e => absurd e hc.1, fun i hi => ?_⟩
    have hci := List.all_eq_true.1 hc.2 i hi
    simp only [Bool.and_eq_true] at hci
    have hij : i ∈ js := by simpa using hci.1.1
    have hip : p i = false := by
      have h := hci.1.2
      cases hpi : p i with
      | false => rfl
      | true => simp [List.mem_filter, hij, hpi] at h
    have hdp : ∀ j ∈ deps l.toArray js i, p j = true := fun j hj => by
      have h := List.all_eq_true.1 hci.2 j hj
      simp only [List.contains_iff_mem, List.mem_filter] at h
      exact h.2
    have hdj : ∀ j ∈ deps l.toArray js i, j ∈ js := fun j hj => (List.mem_filter.1 hj).1
    obtain ⟨d, hd, hds⟩ := hdst i hij
    let aj := putAll l.toArray vs a (deps l.toArray js i)
    have hajs : aj.tmps.size = a.tmps.size := putAll_size vs _ a
    have hK := hstep i hij vs w hS (fun j hj => hJ.hP j (hdj j hj) (hdp j hj)) (fun x w'' => ∃ v, x.tmps[d]? = some v ∧ x.defers = aj.defers ∧ (S w'' ∧ Below w.heap.size w w'' ∧ PP i v w'' ∧ (al i = true → v = .pointer (some ⟨w.heap.size, 0, none⟩))))
      (fun v w' h1 h2 h3 h4 => ⟨v, by rw [hd]; exact put_get_eq _ _ (by rw [putAll_size]; exact hds), by rw [put_defers], h1, h2, h3, h4⟩)
    obtain ⟨o, ho, hif⟩ := hK
    have hod : o.dst = some d := by have := hd; unfold dstOf at this; rw [ho] at this; exact this
    have hag : ∀ t ∈ o.looksAt l.toArray, b.tmps[t]? = aj.tmps[t]? := fun t ht => by
      have hlk := hlook i hij
      unfold looksOk at hlk
      rw [ho] at hlk
      have h := List.all_eq_true.1 hlk t ht
      by_cases hx : ∃ j ∈ js, dstOf l.toArray j = some t
      · obtain ⟨j, hj, hdt⟩ := hx
        have h2 := List.all_eq_true.1 h j hj
        have hjd : j ∈ deps l.toArray js i := by simpa [hdt] using h2
        obtain ⟨d', hd', hlt⟩ := hdst j hj
        have e : d' = t := by rw [hdt] at hd'; exact (Option.some.inj hd').symm
        subst e
        rw [hJ.own j hj (hdp j hjd) _ hdt]
        exact (putAll_eq vs _ a (fun x hx e => by
          by_cases h : x = j
          · exact h
          · exact absurd (e.trans hdt.symm) (hne x (hdj x hx) j hj h)) hjd hdt hlt).symm
      · rw [hJ.other t (fun j hj _ e => hx ⟨j, hj, e⟩)]
        exact (putAll_ne vs _ a (fun j hj e => hx ⟨j, hdj j hj, e⟩)).symm
    have hwant : Region.wanted o (yielded l.toArray b.tmps) = Region.wanted o (yielded l.toArray aj.tmps) := by
      unfold Region.wanted
      cases hg : o.guard with
      | none => rfl
      | some gw =>
        obtain ⟨g, want⟩ := gw
        have hy : yielded l.toArray b.tmps g = yielded l.toArray aj.tmps g := by
          unfold yielded
          cases ht : (l.toArray[g]?).bind (·.dst) with
          | none => rfl
          | some t =>
            have := hag t (by simp only [Oper.looksAt, hg, ht]; simp)
            simp only [Option.bind_some, this]
        simp only [hy]
    have hexec : execOp b.eval o = execOp aj.eval o := by
      refine execOp_congr o (fun cs b' => Region.noSelect_spec hns _ _ cs b' ho) (fun x hx => ?_)
      cases x with
      | tmp t =>
        have := hag t (List.mem_append_left _ (List.mem_filterMap.2 ⟨.tmp t, by simpa using hx, rfl⟩))
        show b.tmps.getD t undef = aj.tmps.getD t undef
        rw [Array.getD_eq_getD_getElem?, Array.getD_eq_getD_getElem?, this]
      | _ => rfl
    have hnext : ∀ (v : Value) (w'' : World), (S w'' ∧ Below w.heap.size w w'' ∧ PP i v w'' ∧ (al i = true → v = .pointer (some ⟨w.heap.size, 0, none⟩))) →
        (S w'' ∧ AnyH F n P l.toArray Q S k ((mark listed (js.filter p)).setIfInBounds i true) (b.put (some d) v) w'') ∨
        (bar l.toArray (mark listed (js.filter p)) i = true ∧ wpAnyIn F n P .any l.toArray Q k ((mark listed (js.filter p)).setIfInBounds i true) (b.put (some d) v) w'') := by
      intro v w'' ⟨h1, h2, h3, h4⟩
      left
      refine ⟨h1, ?_⟩
      rw [mark_step listed js p i hij]
      refine ih (fun x => p x || x == i) (fun x => if x = i then v else vs x) _ w'' ?_ h1 ?_
      · refine ⟨by rw [put_defers, hJ.defers], by rw [put_size, hJ.size], ?_, ?_, ?_, ?_, ?_⟩
        · intro t ht
          rw [put_get_ne _ _ _ (fun e => ht i hij (by simp) (hd.trans e)), hJ.other t (fun j hj hpj => ht j hj (by simp [hpj]))]
        · intro j hj hpj t hdt
          by_cases e : j = i
          · subst e
            have e2 : d = t := by rw [hd] at hdt; exact Option.some.inj hdt
            subst e2
            rw [put_get_eq _ _ (by rw [hJ.size]; exact hds), if_pos rfl]
          · have hpj' : p j = true := by simpa [e] using hpj
            rw [put_get_ne _ _ _ (fun e2 => hne j hj i hij e (hdt.trans (e2.symm.trans hd.symm))), hJ.own j hj hpj' t hdt, if_neg e]
        · intro j hj hpj
          by_cases e : j = i
          · subst e; rw [if_pos rfl]; exact h3
          · have hpj' : p j = true := by simpa [e] using hpj
            rw [if_neg e]; exact hmono j hj _ _ _ (hJ.hP j hj hpj') h2
        · intro x hx y hy hpx hpy hax hay hxy
          by_cases ex : x = i
          · have ey : ¬ y = i := fun e => hxy (ex.trans e.symm)
            have hpy' : p y = true := by simpa [ey] using hpy
            subst ex
            rw [if_pos rfl, if_neg ey, h4 hax]
            obtain ⟨B, hB, hlt⟩ := hbox y hy hay _ _ (hJ.hP y hy hpy')
            rw [hB]
            intro e; injection e with e; injection e with e; injection e with e; omega
          · by_cases ey : y = i
            · have hpx' : p x = true := by simpa [ex] using hpx
              subst ey
              rw [if_neg ex, if_pos rfl, h4 hay]
              obtain ⟨B, hB, hlt⟩ := hbox x hx hax _ _ (hJ.hP x hx hpx')
              rw [hB]
              intro e; injection e with e; injection e with e; injection e with e; omega
            · rw [if_neg ex, if_neg ey]
              exact hJ.dist x hx y hy (by simpa [ex] using hpx) (by simpa [ey] using hpy) hax hay hxy
        · intro j hj hpj x hx
          by_cases e : j = i
          · subst e; simp [hdp x hx]
          · have hpj' : p j = true := by simpa [e] using hpj
            simp [hJ.down j hj hpj' x hx]
      · have := filter_more (p := p) hij hip
        have := List.length_filter_le p js
        omega
    unfold wpOpIn
    rw [ho]
    show if Region.wanted o (yielded l.toArray b.tmps) = true then _ else _
    rw [hwant]
    split
    · rename_i hw
      rw [if_pos hw] at hif
      refine ⟨fun f _ => hF f, ?_⟩
      rw [Oper.semAt_eq _ _ _ (noDefer_spec hnd _ _ ho), hexec]
      exact upon_move hod (by rw [hajs]; exact hds) hnext hif
    · rename_i hw
      rw [if_neg hw] at hif
      refine ⟨fun f _ => hF f, ?_⟩
      obtain ⟨v, hv, -, hx⟩ := hif
      rw [hod] at hv ⊢
      rw [put_get_eq _ _ (by rw [hajs]; exact hds)] at hv
      rw [Option.some.inj hv]
      exact hnext _ _ hx

/-- The same with the tables written out: dl, what each of js waits for; ds, where each lays what it gives. -/
theorem AnyH.floatCL {l : List Oper} (js : List Nat) (c : Nat) (dl : Nat → List Nat) (ds : Nat → Tmp) (PP : Nat → Value → World → Prop) (al : Nat → Bool) {k : Nat} {listed : Array Bool} {a : Act} {w : World}
    (hc : floatOkC l.toArray listed js a.tmps.size = true) (hdl : (js.all fun j => deps l.toArray js j == dl j && dstOf l.toArray j == some (ds j)) = true) (hk : js.length + c ≤ k) (hF : ∀ f, F.fn f) (hS : S w)
    (hmono : ∀ j ∈ js, ∀ v w w', PP j v w → Below w.heap.size w w' → PP j v w')
    (hbox : ∀ j ∈ js, al j = true → ∀ v w, PP j v w → ∃ B, v = .pointer (some ⟨B, 0, none⟩) ∧ B < w.heap.size)
    (hstep : ∀ j ∈ js, ∀ vs w, S w → (∀ i ∈ dl j, PP i (vs i) w) → ∀ K : Act → World → Prop, (∀ v w', S w' → Below w.heap.size w w' → PP j v w' → (al j = true → v = .pointer (some ⟨w.heap.size, 0, none⟩)) → K ((putL ds vs a (dl j)).put (some (ds j)) v) w') → StepIn F n P l.toArray j K (putL ds vs a (dl j)) w)
    (htail : ∀ vs w, S w → (∀ j ∈ js, PP j (vs j) w) → (∀ i ∈ js, ∀ j ∈ js, al i = true → al j = true → i ≠ j → vs i ≠ vs j) → ∀ d, AnyH F n P l.toArray Q S (d + c) (mark listed js) (putL ds vs a js) w) :
    AnyH F n P l.toArray Q S k listed a w := by
  have h1 : ∀ j ∈ js, deps l.toArray js j = dl j := fun j hj => by
    have := List.all_eq_true.1 hdl j hj; simp only [Bool.and_eq_true, beq_iff_eq] at this; exact this.1
  have h2 : ∀ j ∈ js, dstOf l.toArray j = some (ds j) := fun j hj => by
    have := List.all_eq_true.1 hdl j hj; simp only [Bool.and_eq_true, beq_iff_eq] at this; exact this.2
  have h3 : ∀ j ∈ js, ∀ i ∈ deps l.toArray js j, dstOf l.toArray i = some (ds i) := fun j _ i hi => h2 i (List.mem_filter.1 hi).1
  refine AnyH.floatC js c PP al hc hk hF hS hmono hbox ?_ ?_
  · intro j hj vs w hS hP K hK
    rw [putAll_L vs _ a (h3 j hj), h1 j hj]
    refine hstep j hj vs w hS (by rw [← h1 j hj]; exact hP) K ?_
    intro v w' a1 a2 a3 a4
    have := hK v w' a1 a2 a3 a4
    rwa [putAll_L vs _ a (h3 j hj), h1 j hj, h2 j hj] at this
  · intro vs w hS hP hD
    rw [putAll_L vs _ a h2]
    exact htail vs w hS hP hD
end
end Go.Proofs.Ytpjcfepngjpfbaa
