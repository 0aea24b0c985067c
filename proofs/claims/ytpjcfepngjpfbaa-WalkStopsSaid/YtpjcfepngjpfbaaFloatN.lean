/- Operations of a drawn region that may come up in several orders, under S1; behind them a weaker S. After FloatM. No program. -/
import Derived.Test.YtpjcfepngjpfbaaFloatM
namespace Go.Proofs.Ytpjcfepngjpfbaa
open Go.RowKit
section
variable {F : Fence} {n : Nat} {P : Program} {ops : Array Oper} {Q : Exit → Act → World → Prop} {S S1 : World → Prop}
theorem AnyH.floatB {l : List Oper} (js : List Nat) (k0 : Nat) (PP : Nat → Value → World → Prop) (dr : Nat → List Nat) (fin : Nat → Bool) (Fr : Nat → World → World → Prop) {k : Nat} {listed : Array Bool} {a : Act} {w : World}
    (hc : floatOkA l.toArray listed js a.tmps.size = true) (hk : js.length + k0 = k) (hF : ∀ f, F.fn f) (hSS : ∀ w, S1 w → S w) (hS : S1 w)
    (hdr : (js.all fun j => (dr j).all fun i => (deps l.toArray js j).contains i) = true)
    (hmono : ∀ j ∈ js, ∀ i ∈ js, may l.toArray js dr fin i j = true → ∀ v w w', PP i v w → Fr j w w' → PP i v w')
    (hstep : ∀ j ∈ js, ∀ vs w, S1 w → (∀ i ∈ dr j, PP i (vs i) w) → ∀ K : Act → World → Prop, (∀ v w', S1 w' → Fr j w w' → PP j v w' → K ((putAll l.toArray vs a (deps l.toArray js j)).put (dstOf l.toArray j) v) w') → StepIn F n P l.toArray j K (putAll l.toArray vs a (deps l.toArray js j)) w)
    (htail : ∀ vs w, S1 w → (∀ j ∈ js, fin j = true → PP j (vs j) w) → AnyH F n P l.toArray Q S k0 (mark listed js) (putAll l.toArray vs a js) w) :
    AnyH F n P l.toArray Q S k listed a w := by
  simp only [floatOkA, Bool.and_eq_true] at hc
  obtain ⟨⟨⟨⟨⟨hnd, hns⟩, hl⟩, hdd⟩, hnd'⟩, hsub⟩ := hc
  have hlook : ∀ j ∈ js, looksOk l.toArray js j = true := fun j hj => by
    have := List.all_eq_true.1 hl j hj; simp only [Bool.and_eq_true] at this; exact this.1
  have hdst : ∀ j ∈ js, ∃ d, dstOf l.toArray j = some d ∧ d < a.tmps.size := fun j hj => by
    have := List.all_eq_true.1 hl j hj; simp only [Bool.and_eq_true] at this
    have h2 := this.2
    cases hd : dstOf l.toArray j with
    | none => rw [hd] at h2; cases h2
    | some d => rw [hd] at h2; exact ⟨d, rfl, by simpa using h2⟩
  have hne : ∀ i ∈ js, ∀ j ∈ js, i ≠ j → dstOf l.toArray i ≠ dstOf l.toArray j := fun i hi j hj hij => by
    have := List.all_eq_true.1 (List.all_eq_true.1 hdd i hi) j hj
    simpa [hij] using this
  suffices H : ∀ (k : Nat) (p : Nat → Bool) (vs : Nat → Value) (b : Act) (w : World), FM l.toArray js PP dr fin a p vs b w → S1 w → (js.length - (js.filter p).length) + k0 = k → AnyH F n P l.toArray Q S k (mark listed (js.filter p)) b w by
    have hf : js.filter (fun _ => false) = [] := List.filter_eq_nil_iff.2 (fun _ _ h => by cases h)
    have h0 := H k (fun _ => false) (fun _ => undef) a w ⟨rfl, rfl, fun _ _ => rfl, fun _ _ h => (by cases h), fun _ _ h => (by cases h), fun _ _ h => (by cases h)⟩ hS (by rw [hf]; simpa using hk)
    rw [hf] at h0
    exact h0
  have hfin : ∀ (p : Nat → Bool) (vs : Nat → Value) (b : Act) (w : World), FM l.toArray js PP dr fin a p vs b w → S1 w → (js.filter p).length = js.length → AnyH F n P l.toArray Q S k0 (mark listed (js.filter p)) b w := by
    intro p vs b w hJ hS hall
    have hp : ∀ j ∈ js, p j = true := fun j hj => List.length_filter_eq_length_iff.1 hall j hj
    have hfe : js.filter p = js := List.filter_eq_self.2 hp
    have hb : b = putAll l.toArray vs a js := by
      apply act_ext
      · intro t
        by_cases ht : ∃ j ∈ js, dstOf l.toArray j = some t
        · obtain ⟨j, hj, hd⟩ := ht
          obtain ⟨d, hd2, hlt⟩ := hdst j hj
          have e : d = t := by rw [hd] at hd2; exact (Option.some.inj hd2).symm
          subst e
          rw [hJ.own j hj (hp j hj) d hd, putAll_eq vs js a (fun i hi e => by
            by_cases h : i = j
            · exact h
            · exact absurd (e.trans hd.symm) (hne i hi j hj h)) hj hd hlt]
        · rw [hJ.other t (fun j hj _ e => ht ⟨j, hj, e⟩), putAll_ne vs js a (fun j hj e => ht ⟨j, hj, e⟩)]
      · rw [hJ.defers, putAll_defers]
    subst hb
    rw [hfe]
    exact htail vs w hS (fun j hj hf => hJ.hP j hj (hp j hj) (.inl hf))
  intro k
  induction k with
  | zero =>
    intro p vs b w hJ hS hk
    have hall : (js.filter p).length = js.length := Nat.le_antisymm (List.length_filter_le _ _) (by omega)
    have hk0 : k0 = 0 := by omega
    have h := hfin p vs b w hJ hS hall
    rwa [hk0] at h
  | succ k ih =>
    intro p vs b w hJ hS hk
    by_cases hall : (js.filter p).length = js.length
    · have hk0 : k0 = k + 1 := by omega
      have h := hfin p vs b w hJ hS hall
      rwa [hk0] at h
    have hc := List.all_eq_true.1 hsub _ (filter_subs p js)
    rw [hJ.closed, Bool.not_true, Bool.false_or, show ((js.filter p).length == js.length) = false from by simpa using hall, Bool.false_or] at hc
    simp only [Bool.and_eq_true, bne_iff_ne, ne_eq] at hc
    refine ⟨fun e => absurd e hc.1, fun i hi => ?_⟩
    have hci := List.all_eq_true.1 hc.2 i hi
    simp only [Bool.and_eq_true] at hci
    have hij : i ∈ js := by simpa using hci.1.1
    have hip : p i = false := by
      have h := hci.1.2
      cases hpi : p i with
      | false => rfl
      | true => simp [List.mem_filter, hij, hpi] at h
    have hdp : ∀ j ∈ deps l.toArray js i, p j = true := fun j hj => by
      have h := List.all_eq_true.1 hci.2 j hj
      simp only [List.contains_iff_mem, List.mem_filter] at h
      exact h.2
    have hdj : ∀ j ∈ deps l.toArray js i, j ∈ js := fun j hj => (List.mem_filter.1 hj).1
    have hdrd : ∀ j ∈ dr i, j ∈ deps l.toArray js i := fun j hj => by
      have h := List.all_eq_true.1 (List.all_eq_true.1 hdr i hij) j hj
      simpa [List.contains_iff_mem] using h
    obtain ⟨d, hd, hds⟩ := hdst i hij
    let aj := putAll l.toArray vs a (deps l.toArray js i)
    have hajs : aj.tmps.size = a.tmps.size := putAll_size vs _ a
    have hK := hstep i hij vs w hS (fun j hj => hJ.hP j (hdj j (hdrd j hj)) (hdp j (hdrd j hj)) (.inr ⟨i, hij, hip, hj⟩)) (fun x w'' => ∃ v, x.tmps[d]? = some v ∧ x.defers = aj.defers ∧ (S1 w'' ∧ Fr i w w'' ∧ PP i v w''))
      (fun v w' h1 h2 h3 => ⟨v, by rw [hd]; exact put_get_eq _ _ (by rw [putAll_size]; exact hds), by rw [put_defers], h1, h2, h3⟩)
    obtain ⟨o, ho, hif⟩ := hK
    have hod : o.dst = some d := by have := hd; unfold dstOf at this; rw [ho] at this; exact this
    have hag : ∀ t ∈ o.looksAt l.toArray, b.tmps[t]? = aj.tmps[t]? := fun t ht => by
      have hlk := hlook i hij
      unfold looksOk at hlk
      rw [ho] at hlk
      have h := List.all_eq_true.1 hlk t ht
      by_cases hx : ∃ j ∈ js, dstOf l.toArray j = some t
      · obtain ⟨j, hj, hdt⟩ := hx
        have h2 := List.all_eq_true.1 h j hj
        have hjd : j ∈ deps l.toArray js i := by simpa [hdt] using h2
        obtain ⟨d', hd', hlt⟩ := hdst j hj
        have e : d' = t := by rw [hdt] at hd'; exact (Option.some.inj hd').symm
        subst e
        rw [hJ.own j hj (hdp j hjd) _ hdt]
        exact (putAll_eq vs _ a (fun x hx e => by
          by_cases h : x = j
          · exact h
          · exact absurd (e.trans hdt.symm) (hne x (hdj x hx) j hj h)) hjd hdt hlt).symm
      · rw [hJ.other t (fun j hj _ e => hx ⟨j, hj, e⟩)]
        exact (putAll_ne vs _ a (fun j hj e => hx ⟨j, hdj j hj, e⟩)).symm
    have hwant : Region.wanted o (yielded l.toArray b.tmps) = Region.wanted o (yielded l.toArray aj.tmps) := by
      unfold Region.wanted
      cases hg : o.guard with
      | none => rfl
      | some gw =>
        obtain ⟨g, want⟩ := gw
        have hy : yielded l.toArray b.tmps g = yielded l.toArray aj.tmps g := by
          unfold yielded
          cases ht : (l.toArray[g]?).bind (·.dst) with
          | none => rfl
          | some t =>
            have := hag t (by simp only [Oper.looksAt, hg, ht]; simp)
            simp only [Option.bind_some, this]
        simp only [hy]
    have hexec : execOp b.eval o = execOp aj.eval o := by
      refine execOp_congr o (fun cs b' => Region.noSelect_spec hns _ _ cs b' ho) (fun x hx => ?_)
      cases x with
      | tmp t =>
        have := hag t (List.mem_append_left _ (List.mem_filterMap.2 ⟨.tmp t, by simpa using hx, rfl⟩))
        show b.tmps.getD t undef = aj.tmps.getD t undef
        rw [Array.getD_eq_getD_getElem?, Array.getD_eq_getD_getElem?, this]
      | _ => rfl
    have hnext : ∀ (v : Value) (w'' : World), (S1 w'' ∧ Fr i w w'' ∧ PP i v w'') →
        (S w'' ∧ AnyH F n P l.toArray Q S k ((mark listed (js.filter p)).setIfInBounds i true) (b.put (some d) v) w'') ∨
        (bar l.toArray (mark listed (js.filter p)) i = true ∧ wpAnyIn F n P .any l.toArray Q k ((mark listed (js.filter p)).setIfInBounds i true) (b.put (some d) v) w'') := by
      intro v w'' ⟨h1, h2, h3⟩
      left
      refine ⟨hSS _ h1, ?_⟩
      rw [mark_step listed js p i hij]
      refine ih (fun x => p x || x == i) (fun x => if x = i then v else vs x) _ w'' ?_ h1 ?_
      · refine ⟨by rw [put_defers, hJ.defers], by rw [put_size, hJ.size], ?_, ?_, ?_, ?_⟩
        · intro t ht
          rw [put_get_ne _ _ _ (fun e => ht i hij (by simp) (hd.trans e)), hJ.other t (fun j hj hpj => ht j hj (by simp [hpj]))]
        · intro j hj hpj t hdt
          by_cases e : j = i
          · subst e
            have e2 : d = t := by rw [hd] at hdt; exact Option.some.inj hdt
            subst e2
            rw [put_get_eq _ _ (by rw [hJ.size]; exact hds), if_pos rfl]
          · have hpj' : p j = true := by simpa [e] using hpj
            rw [put_get_ne _ _ _ (fun e2 => hne j hj i hij e (hdt.trans (e2.symm.trans hd.symm))), hJ.own j hj hpj' t hdt, if_neg e]
        · intro j hj hpj hlv
          by_cases e : j = i
          · subst e; rw [if_pos rfl]; exact h3
          · have hpj' : p j = true := by simpa [e] using hpj
            rw [if_neg e]
            have hlv' : fin j = true ∨ ∃ x ∈ js, p x = false ∧ x ≠ i ∧ j ∈ dr x := by
              rcases hlv with h | ⟨x, hx, hpx, hjx⟩
              · exact .inl h
              · simp only [Bool.or_eq_false_iff, beq_eq_false_iff_ne, ne_eq] at hpx
                exact .inr ⟨x, hx, hpx.1, hpx.2, hjx⟩
            refine hmono i hij j hj ?_ _ _ _ (hJ.hP j hj hpj' ?_) h2
            · unfold may
              simp only [Bool.and_eq_true, Bool.or_eq_true, bne_iff_ne, ne_eq, Bool.not_eq_true', List.any_eq_true]
              refine ⟨⟨e, ?_⟩, ?_⟩
              · cases hc : (deps l.toArray js j).contains i with
                | false => rfl
                | true =>
                  have := hJ.down j hj hpj' i (by simpa [List.contains_iff_mem] using hc)
                  rw [hip] at this; cases this
              · rcases hlv' with h | ⟨x, hx, hpx, hxi, hjx⟩
                · exact .inl h
                · refine .inr ⟨x, hx, ⟨hxi, ?_⟩, by simpa [List.contains_iff_mem] using hjx⟩
                  cases hc : (deps l.toArray js i).contains x with
                  | false => rfl
                  | true =>
                    have := hdp x (by simpa [List.contains_iff_mem] using hc)
                    rw [hpx] at this; cases this
            · rcases hlv' with h | ⟨x, hx, hpx, hxi, hjx⟩
              · exact .inl h
              · exact .inr ⟨x, hx, hpx, hjx⟩
        · intro j hj hpj x hx
          by_cases e : j = i
          · subst e; simp [hdp x hx]
          · have hpj' : p j = true := by simpa [e] using hpj
            simp [hJ.down j hj hpj' x hx]
      · have h1 := filter_more (p := p) hij hip
        have h2 := List.length_filter_le p js
        have h3 := List.length_filter_le (fun x => p x || x == i) js
        have h4 := filter_one (p := p) hnd' hij hip
        omega
    unfold wpOpIn
    rw [ho]
    show if Region.wanted o (yielded l.toArray b.tmps) = true then _ else _
    rw [hwant]
    split
    · rename_i hw
      rw [if_pos hw] at hif
      refine ⟨fun f _ => hF f, ?_⟩
      rw [Oper.semAt_eq _ _ _ (noDefer_spec hnd _ _ ho), hexec]
      exact upon_move hod (by rw [hajs]; exact hds) hnext hif
    · rename_i hw
      rw [if_neg hw] at hif
      refine ⟨fun f _ => hF f, ?_⟩
      obtain ⟨v, hv, -, hx⟩ := hif
      rw [hod] at hv ⊢
      rw [put_get_eq _ _ (by rw [hajs]; exact hds)] at hv
      rw [Option.some.inj hv]
      exact hnext _ _ hx

/-- The same with the tables written out (see floatAL). -/
theorem AnyH.floatBL {l : List Oper} (js : List Nat) (k0 : Nat) (dl dr ml : Nat → List Nat) (ds : Nat → Tmp) (fin : Nat → Bool) (PP : Nat → Value → World → Prop) (Fr : Nat → World → World → Prop) {k : Nat} {listed : Array Bool} {a : Act} {w : World}
    (hc : floatOkA l.toArray listed js a.tmps.size = true) (hdl : (js.all fun j => deps l.toArray js j == dl j && dstOf l.toArray j == some (ds j) && (dr j).all fun i => (dl j).contains i) = true) (hml : (js.all fun j => js.all fun i => !may l.toArray js dr fin i j || (ml j).contains i) = true) (hk : js.length + k0 = k) (hF : ∀ f, F.fn f) (hSS : ∀ w, S1 w → S w) (hS : S1 w)
    (hmono : ∀ j ∈ js, ∀ i ∈ ml j, ∀ v w w', PP i v w → Fr j w w' → PP i v w')
    (hstep : ∀ j ∈ js, ∀ vs w, S1 w → (∀ i ∈ dr j, PP i (vs i) w) → ∀ K : Act → World → Prop, (∀ v w', S1 w' → Fr j w w' → PP j v w' → K ((putL ds vs a (dl j)).put (some (ds j)) v) w') → StepIn F n P l.toArray j K (putL ds vs a (dl j)) w)
    (htail : ∀ vs w, S1 w → (∀ j ∈ js, fin j = true → PP j (vs j) w) → AnyH F n P l.toArray Q S k0 (mark listed js) (putL ds vs a js) w) :
    AnyH F n P l.toArray Q S k listed a w := by
  have h1 : ∀ j ∈ js, deps l.toArray js j = dl j := fun j hj => by
    have := List.all_eq_true.1 hdl j hj; simp only [Bool.and_eq_true, beq_iff_eq] at this; exact this.1.1
  have h2 : ∀ j ∈ js, dstOf l.toArray j = some (ds j) := fun j hj => by
    have := List.all_eq_true.1 hdl j hj; simp only [Bool.and_eq_true, beq_iff_eq] at this; exact this.1.2
  have h4 : (js.all fun j => (dr j).all fun i => (deps l.toArray js j).contains i) = true := by
    rw [List.all_eq_true]
    intro j hj
    have := List.all_eq_true.1 hdl j hj; simp only [Bool.and_eq_true] at this
    rw [h1 j hj]; exact this.2
  have h3 : ∀ j ∈ js, ∀ i ∈ deps l.toArray js j, dstOf l.toArray i = some (ds i) := fun j _ i hi => h2 i (List.mem_filter.1 hi).1
  refine AnyH.floatB js k0 PP dr fin Fr hc hk hF hSS hS h4 ?_ ?_ ?_
  · intro j hj i hi hm v w w' hP hR
    have h := List.all_eq_true.1 (List.all_eq_true.1 hml j hj) i hi
    rw [hm, Bool.not_true, Bool.false_or] at h
    exact hmono j hj i (by simpa [List.contains_iff_mem] using h) v w w' hP hR
  · intro j hj vs w hS hP K hK
    rw [putAll_L vs _ a (h3 j hj), h1 j hj]
    refine hstep j hj vs w hS hP K ?_
    intro v w' a1 a2 a3
    have := hK v w' a1 a2 a3
    rwa [putAll_L vs _ a (h3 j hj), h1 j hj, h2 j hj] at this
  · intro vs w hS hP
    rw [putAll_L vs _ a h2]
    exact htail vs w hS hP
end
end Go.Proofs.Ytpjcfepngjpfbaa
