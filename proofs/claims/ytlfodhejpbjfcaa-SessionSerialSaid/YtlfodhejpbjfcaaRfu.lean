/- The reference's versions: Last, Begin, New.
The reference's Commit.
The reference's Begin and New.
The reference's New. -/
import Derived.Test.YtlfodhejpbjfcaaRft
import Derived.Test.YtlfodhejpbjfcaaCom2
import Derived.Test.YtlfodhejpbjfcaaSrt
import Derived.Test.YtlfodhejpbjfcaaCom
import Derived.ArgAppend
set_option linter.unusedVariables false
set_option linter.unusedSimpArgs false
namespace Go.Proofs.Ytlfodhejpbjfcaa
open Go.RowKit
namespace S
attribute [local go_sem] Oper.semAt_some
abbrev Ver := Nm × List ByteArray
def encU (u : Sl × Sl) : List Value := [slV u.1, slV u.2]
theorem encU_len (u : Sl × Sl) : (encU u).length = 2 := rfl
theorem encU_one (u : Sl × Sl) : ∀ v ∈ encU u, v.oneCell' = true := by
  intro v hv
  simp only [encU, List.mem_cons, List.not_mem_nil, or_false] at hv
  rcases hv with rfl | rfl <;> rfl
abbrev Vrs (B : Nat) (W : World) (v : Value) (us : List (Sl × Sl)) : Prop := SlA B W 104 2 encU v us
theorem elemU : Elem Try.prog 33 104 2 48 := elem_of Try.underlying33 (z := .agg #[.slice none 0 0, .slice none 0 0]) (by kernel_rfl) rfl (by decide) (by decide)
def VerAt (W : World) (u : Sl × Sl) (V : Ver) : Prop := Prs 0 W (slV u.1) V.1 ∧ Sts 0 W (slV u.2) V.2
/-- The reference's box. -/
def VersAt (W : World) (v : Value) (Vs : List Ver) : Prop := ∃ us, Vrs 0 W v us ∧ us.length = Vs.length ∧ ∀ (i : Nat) (h : i < us.length) (h' : i < Vs.length), VerAt W us[i] Vs[i]
theorem VerAt.below {A B : World} {u : Sl × Sl} {V : Ver} (h : VerAt A u V) (hb : Below A.heap.size A B) : VerAt B u V := ⟨h.1.below hb, h.2.below hb⟩
theorem VersAt.below {A B : World} {v : Value} {Vs : List Ver} (h : VersAt A v Vs) (hb : Below A.heap.size A B) : VersAt B v Vs := by
  obtain ⟨us, h1, h2, h3⟩ := h
  exact ⟨us, h1.below hb, h2, fun i a b => (h3 i a b).below hb⟩
theorem VersAt.keep {A B : World} {v : Value} {Vs : List Ver} (h : VersAt A v Vs) (k1 : KeepT 49 A B) (k2 : KeepT 9 A B) (k3 : KeepT 104 A B) : VersAt B v Vs := by
  obtain ⟨us, h1, h2, h3⟩ := h
  exact ⟨us, h1.keep k3, h2, fun i a b => ⟨(h3 i a b).1.keep k1, (h3 i a b).2.keep k2⟩⟩
theorem VersAt.len {W : World} {v : Value} {Vs : List Ver} (h : VersAt W v Vs) : ∃ a c, v = .slice a Vs.length c := by
  obtain ⟨us, h1, h2, -⟩ := h
  obtain ⟨a, c, rfl⟩ := h1.len
  exact ⟨a, c, by rw [h2]⟩
theorem VersAt.at {W : World} {v : Value} {Vs : List Ver} (h : VersAt W v Vs) {i : Nat} (hi : i < Vs.length) :
    ∃ g c a n cp a' n' cp', v = .slice (some ⟨g, 0, none⟩) Vs.length c ∧ VerAt W ((a, n, cp), (a', n', cp')) Vs[i] ∧ n = Vs[i].1.length ∧ n' = Vs[i].2.length ∧ ∀ (W' : World), Below W.heap.size W W' → W'.cell? ⟨g, i * 2, none⟩ = some (.slice a n cp) ∧ W'.cell? ⟨g, i * 2 + 1, none⟩ = some (.slice a' n' cp') := by
  obtain ⟨us, h1, h2, h3⟩ := h
  have hi' : i < us.length := by omega
  have hv := h3 i hi' hi
  rcases h1.shape with ⟨-, rfl⟩ | ⟨g, cap, rfl, -, -⟩
  · simp at hi'
  · have hc : ∀ (W' : World), Below W.heap.size W W' → W'.cell? ⟨g, i * 2, none⟩ = some (slV us[i].1) ∧ W'.cell? ⟨g, i * 2 + 1, none⟩ = some (slV us[i].2) := fun W' hb =>
      ⟨SlA.cell encU_len (h1.below hb) hi' (j := 0) (by omega), SlA.cell encU_len (h1.below hb) hi' (j := 1) (by omega)⟩
    generalize us[i] = u at *
    obtain ⟨⟨a, n, cp⟩, ⟨a', n', cp'⟩⟩ := u
    obtain ⟨x1, y1, e1⟩ := hv.1.len; obtain ⟨x2, y2, e2⟩ := hv.2.len
    simp only [slV, Value.slice.injEq] at e1 e2
    exact ⟨g, cap, a, n, cp, a', n', cp', by rw [h2], hv, e1.2.1, e2.2.1, hc⟩
theorem Prs.keep0 {B : Nat} {W : World} {v : Value} {l : Nm} (h : Prs B W v l) : Prs 0 W v l := h.mono (Nat.zero_le _)

set_option maxRecDepth 100000 in
set_option maxHeartbeats 2000000 in
theorem refLast_any {W : World} {v : Value} {Vs : List Ver} (h : VersAt W v Vs) (hne : 0 < Vs.length) (hl : Vs.length ≤ 100000) :
    Calls Try.prog 39 #[.agg #[v]] W fun e w' => ∃ a n c b k d, e = .returned (.agg #[.slice a n c, .slice b k d]) ∧ VerAt w' ((a, n, c), (b, k, d)) (Vs[Vs.length - 1]'(by omega)) ∧ Below W.heap.size W w' := by
  obtain ⟨g, c, a, n, cp, a', n', cp', rfl, hV, -, -, hc⟩ := h.at (i := Vs.length - 1) (by omega)
  obtain ⟨W1, hW1⟩ : ∃ w, (W.alloc (.cells #[.slice (some ⟨g, 0, none⟩) Vs.length c] 35)).alloc (.cells #[.slice none 0 0, .slice none 0 0] 104) = w := ⟨_, rfl⟩
  have hb1 : Below W.heap.size W W1 := by rw [← hW1]; exact ((Below.refl _ W).alloc (Nat.le_refl _) _).alloc (by simp) _
  have n1 : W1.heap[W.heap.size]? = some (.cells #[.slice (some ⟨g, 0, none⟩) Vs.length c] 35 (0, 0)) := by rw [← hW1]; exact (Below.heap_alloc _ _ _ (by simp)).trans (heap_new _ _)
  have n2 : W1.heap[W.heap.size + 1]? = some (.cells #[.slice none 0 0, .slice none 0 0] 104 (0, 0)) := by rw [← hW1]; exact heap_new1 _ _ _
  obtain ⟨c0, c1⟩ := hc W1 hb1
  have p0 : W1.cell? ⟨W.heap.size, 0, none⟩ = some (.slice (some ⟨g, 0, none⟩) Vs.length c) := by simp [World.cell?, n1]
  have x0 : W1.cell? ⟨W.heap.size + 1, 0, none⟩ = some (.slice none 0 0) := by simp [World.cell?, n2]
  have x1 : W1.cell? ⟨W.heap.size + 1, 1, none⟩ = some (.slice none 0 0) := by simp [World.cell?, n2]
  have y0 : W1.frozen? ⟨W.heap.size + 1, 0, none⟩ = false := by simp [World.frozen?, n2]
  have y1 : W1.frozen? ⟨W.heap.size + 1, 1, none⟩ = false := by simp [World.frozen?, n2]
  obtain ⟨W2, hW2⟩ : ∃ w, (W1.setCell ⟨W.heap.size + 1, 0, none⟩ (.slice a n cp)).setCell ⟨W.heap.size + 1, 1, none⟩ (.slice a' n' cp') = w := ⟨_, rfl⟩
  have n3 : W2.heap[W.heap.size + 1]? = some (.cells #[.slice a n cp, .slice a' n' cp'] 104 (0, 0)) := by rw [← hW2, heap_set0 _ (heap_set0 _ n2)]; rfl
  have hb2 : Below W.heap.size W W2 := by rw [← hW2]; exact (hb1.setCell (p := ⟨W.heap.size + 1, 0, none⟩) (by simp) _).setCell (p := ⟨W.heap.size + 1, 1, none⟩) (by simp) _
  have r0 : W2.cell? ⟨W.heap.size + 1, 0, none⟩ = some (.slice a n cp) := by simp [World.cell?, n3]
  have r1 : W2.cell? ⟨W.heap.size + 1, 1, none⟩ = some (.slice a' n' cp') := by simp [World.cell?, n3]
  have HV := Lib.hid (hV.below hb2); have HB2 := Lib.hid hb2
  obtain ⟨m, hm⟩ : ∃ m, Vs.length - 1 = m := ⟨_, rfl⟩
  have hl1 : (Vs.length : Int) - 1 = (m : Int) := by omega
  have hl2 : (0 : Int) ≤ (m : Int) := by omega
  have hl3 : (m : Int) < (Vs.length : Int) := by omega
  rw [hm] at c0 c1
  have HM := Lib.hid hm
  clear hV hb1 hb2 n1 n2 n3 hc hm h
  go_enter Try.func39, Try.ntmps39
  go_wp2_with fail
  exact bodyPost_ret (v := .agg #[.slice a n cp, .slice a' n' cp']) (by simp [results, Try.results39, go_sem, r0, r1]) rfl ⟨a, n, cp, a', n', cp', rfl, HV.out, HB2.out⟩
end S
end Go.Proofs.Ytlfodhejpbjfcaa
namespace Go.Proofs.Ytlfodhejpbjfcaa
open Go.RowKit
namespace S
attribute [local go_sem] Oper.semAt_some
def BxC (W : World) (g : Nat) (s : Sl) : Prop := W.heap[g]? = some (.cells #[slV s] 35 (0, 0))
theorem BxC.cells {W : World} {g : Nat} {s : Sl} (h : BxC W g s) : W.cell? ⟨g, 0, none⟩ = some (slV s) ∧ W.frozen? ⟨g, 0, none⟩ = false := by
  unfold BxC at h
  simp [World.cell?, World.frozen?, h]
theorem BxC.put {W : World} {g : Nat} {s : Sl} (h : BxC W g s) (s' : Sl) : BxC (W.setCell ⟨g, 0, none⟩ (slV s')) g s' := by
  unfold BxC at h ⊢
  rw [heap_set0 _ h]; rfl
/-- Both results have been laid. -/
theorem commit_copy {W w wf : World} {g4 g5 : Nat} {s0 : Sl} {n0 : Int} {a0 b0 c0 : Sl} {d0 : Bool} (hB : Below W.heap.size W w) (h4 : BxC w g4 s0) (h5 : RtC w g5 n0 a0 b0 c0 d0) (k4 : W.heap.size ≤ g4) (k5 : W.heap.size ≤ g5) (hne : g4 ≠ g5) (s a b c : Sl) (n : Int) (d : Bool)
    (hwf : (((((w.setCell ⟨g4, 0, none⟩ (slV s)).setCell ⟨g5, 0, none⟩ (.int .i64 n)).setCell ⟨g5, 1, none⟩ (slV a)).setCell ⟨g5, 2, none⟩ (slV b)).setCell ⟨g5, 3, none⟩ (slV c)).setCell ⟨g5, 4, none⟩ (.bool d) = wf) :
    BxC wf g4 s ∧ RtC wf g5 n a b c d ∧ Below W.heap.size W wf ∧ ∀ t, 35 ≠ t → 40 ≠ t → KeepT t w wf := by
  subst hwf
  have h51 : RtC (w.setCell ⟨g4, 0, none⟩ (slV s)) g5 n0 a0 b0 c0 d0 := (Below.heap_setCell _ _ _ _ (Ne.symm hne)).trans h5
  refine ⟨?_, h51.all n a b c d, ?_, fun t t1 t2 => ?_⟩
  · exact (Below.heap_setCell _ _ _ _ hne).trans ((Below.heap_setCell _ _ _ _ hne).trans ((Below.heap_setCell _ _ _ _ hne).trans ((Below.heap_setCell _ _ _ _ hne).trans ((Below.heap_setCell _ _ _ _ hne).trans (h4.put s)))))
  · exact (((((hB.setCell (p := ⟨g4, 0, none⟩) k4 _).setCell (p := ⟨g5, 0, none⟩) k5 _).setCell (p := ⟨g5, 1, none⟩) k5 _).setCell (p := ⟨g5, 2, none⟩) k5 _).setCell (p := ⟨g5, 3, none⟩) k5 _).setCell (p := ⟨g5, 4, none⟩) k5 _
  · exact (KeepT.setCell (a := ⟨g4, 0, none⟩) h4 t1).trans (rt_keep5 h51 t2 n a b c d)
/-- Somebody has committed a change of one of the transaction's names behind its version. -/
def confR (Vs : List Ver) (t : RT) : Bool := (Vs.drop (t.began.toNat + 1)).any fun V => V.2.any fun s => inR s t.read || inR s t.changed
/-- The reference's Commit: the versions, the transaction, the number, the code. -/
def commitR (Vs : List Ver) (t : RT) : List Ver × RT × Int × Int :=
  if t.done then (Vs, t, 0, 7)
  else if t.changed = [] then (Vs, { t with done := true }, t.began, 0)
  else if confR Vs t then (Vs, { t with done := true }, 0, 11)
  else (Vs ++ [(seenN t.sees ((Vs.getLast?.map Prod.fst).getD []) t.changed, t.changed)], { t with done := true }, (Vs.length : Int), 0)
theorem seen1_len (T l : Nm) (s : ByteArray) : (seen1 T l s).length ≤ l.length + 1 := by
  unfold seen1
  split
  · exact putR_len _ _ _
  · exact Nat.le_trans (List.length_filter_le _ _) (by omega)
theorem seenN_len (T : Nm) : ∀ (names : List ByteArray) (l : Nm), (seenN T l names).length ≤ l.length + names.length
  | [], l => by simp [seenN]
  | s :: names, l => by
    have h1 := seenN_len T names (seen1 T l s); have h2 := seen1_len T l s
    have e : seenN T l (s :: names) = seenN T (seen1 T l s) names := rfl
    rw [e, List.length_cons]; omega
/-- What is known of the values that come up in an open order. -/
def PPc (n0 : Nat) (us : List (Sl × Sl)) (y : Sl × Sl) (x : Nat) (v : Value) (w : World) : Prop := match x with
  | 0 => ∃ B, v = .slice (some ⟨B, 0, none⟩) 0 0
  | 3 => SlA n0 w 104 2 encU v us
  | _ => ∃ B, v = .slice (some ⟨B, 0, none⟩) 1 1 ∧ SlA n0 w 104 2 encU v [y]
theorem PPc.mono {n0 : Nat} {us : List (Sl × Sl)} {y : Sl × Sl} (x : Nat) (v : Value) (w w' : World) (h : PPc n0 us y x v w) (hb : Below w.heap.size w w') : PPc n0 us y x v w' := by
  unfold PPc at h ⊢
  split at h
  · exact h
  · exact SlA.below h hb
  · obtain ⟨B, e, h⟩ := h; exact ⟨B, e, SlA.below h hb⟩
theorem below_none {A B : World} (h : A.grownBy B none) : Below A.heap.size A B := (Below.refl _ A).grown h (Nat.le_refl _) (fun k e => by cases e)
/-- append of the versions to an empty slice. -/
theorem cat_grows {wq w : World} {v0 : Option Addr} {vn vc : Nat} {us : List (Sl × Sl)} {Vs : List Ver} (hS : Below wq.heap.size wq w) (hu : Vrs 0 wq (.slice v0 vn vc) us) (hl : us.length = Vs.length) (h0 : 0 < Vs.length) (h1 : Vs.length ≤ 1000) (B : Nat) :
    ∃ v' w', (Builtin.append_ #[33, 33] 33 #[.slice (some ⟨B, 0, none⟩) 0 0, .slice v0 vn vc]).run Try.prog w = .ok v' w' ∧ SlA w.heap.size w' 104 2 encU v' us ∧ w.grownBy w' none := by
  obtain ⟨ht, i, z, hi, hz, hsz, hby, hzs, hp0, hb0⟩ := elemU
  have hu2 := SlA.below hu hS
  rcases hu2.shape with ⟨-, rfl⟩ | ⟨g, cap, he, hc1, hc2⟩
  · simp at hl; omega
  · simp only [Value.slice.injEq] at he
    obtain ⟨rfl, rfl, rfl⟩ := he
    obtain ⟨v', w', hrun, hown, hg⟩ := run_append_arg_grows (P := Try.prog) w 33 33 104 i z 2 48 ht hi hz hsz hby hzs hp0 ⟨B, 0, none⟩ 0 0 [] rfl (fun j u h => by simp at h) ⟨g, 0, none⟩ us.length vc (us.flatMap encU) (flatMap_len encU_len us) (fun j u hu => World.ownsRow.cells hu2 (g := g) rfl j u hu) (by omega) (by unfold maxLen; omega) (by omega)
    refine ⟨v', w', hrun, ?_, hg⟩
    rw [Nat.zero_add, List.nil_append] at hown
    exact hown
/-- append of a list that lies in a block to a list of the call's own, inside a fence. -/
theorem wp_catIn {α : Type} {F : Fence} {n : Nat} {P : Program} {w : World} {ops : Array Oper} {rest : List Oper} {o : Oper} {a : Act} {Q : Exit → Act → World → Prop} {t e : TypeId} {size bytes : Nat} (hE : Elem P t e size bytes) {enc : α → List Value} (he : ∀ a, (enc a).length = size)
    (hgd : o.guard = none) (s x : Operand) (ho : o.op = .call { callee := .builtin .append, args := #[s, x], argTypes := #[t, t] })
    {B₀ B₁ : Nat} {v : Value} {g cap k : Nat} {l l2 : List α} (hs : a.eval s = v) (hS : SlA B₀ w e size enc v l) (hx : a.eval x = .slice (some ⟨g, 0, none⟩) k cap) (hk : k = l2.length) (hS2 : SlA B₁ w e size enc (.slice (some ⟨g, 0, none⟩) k cap) l2) (h1 : ∀ y, ∀ u ∈ enc y, u.oneCell' = true)
    (hbytes : (l.length + l2.length) * bytes ≤ 140737488355328) (hbase : B₀ ≤ w.heap.size)
    (h : ∀ v' w', SlA B₀ w' e size enc v' (l ++ l2) → w.grownBy w' v.ownBlock → Below B₀ w w' → wpListIn F n P ops Q rest (a.put o.dst v') w') : wpListIn F n P ops Q (o :: rest) a w := by
  subst hk
  obtain ⟨ht, i, z, hi, hz, hsz, hby, hzs, h0, hb0⟩ := hE
  refine wpListIn_append_own _ hgd s x t ho B₀ e i z size bytes ht hi hz hsz hby hzs h0 v l.length (l.flatMap enc) hs hS ⟨g, 0, none⟩ l2.length cap (l2.flatMap enc) hx (flatMap_len he l2) ?_ ?_ ?_ hbytes hbase ?_
  · intro j u hu
    exact World.ownsRow.cells hS2 (g := g) rfl j u hu
  · intro u hu
    obtain ⟨y, -, hy⟩ := List.mem_flatMap.1 hu
    exact h1 y u hy
  · have : (l.length + l2.length) * 1 ≤ (l.length + l2.length) * bytes := Nat.mul_le_mul_left _ hb0
    simp only [maxLen]; omega
  · intro v' w' hown hg _
    refine h v' w' (SlA.append (l2 := l2) hown rfl rfl rfl) hg ?_
    refine (Below.refl B₀ w).grown hg hbase ?_
    intro k hk
    rcases hS.2 with ⟨rfl, _⟩ | ⟨g, cap, cur, rfl, hb, _⟩
    · simp [Value.ownBlock] at hk
    · simp [Value.ownBlock] at hk; omega
theorem versAt_snoc {W : World} {v : Value} {us : List (Sl × Sl)} {y : Sl × Sl} {Vs : List Ver} {V : Ver} (h : Vrs 0 W v (us ++ [y])) (hl : us.length = Vs.length) (hu : ∀ (i : Nat) (h : i < us.length) (h' : i < Vs.length), VerAt W us[i] Vs[i]) (hy : VerAt W y V) : VersAt W v (Vs ++ [V]) := by
  refine ⟨us ++ [y], h, by simp [hl], fun i h1 h2 => ?_⟩
  by_cases hi : i < us.length
  · rw [List.getElem_append_left hi, List.getElem_append_left (by omega)]
    exact hu i hi (by omega)
  · have e : i = us.length := by simp at h1; omega
    subst e
    rw [List.getElem_append_right (by omega), List.getElem_append_right (by omega)]
    simpa [hl] using hy
theorem RtC.finish {W : World} {g : Nat} {n : Int} {a b c : Sl} {d : Bool} (h : RtC W g n a b c d) : RtC (W.setCell ⟨g, 4, none⟩ (.bool true)) g n a b c true := by
  unfold RtC at h ⊢
  rw [heap_set0 _ h]; rfl
/-- None of the versions from m + 1 up to i has changed one of the names. -/
def NoConf (Vs : List Ver) (R C : List ByteArray) (m i : Nat) : Prop := ∀ (j : Nat) (h : j < Vs.length), m + 1 ≤ j → j < i → (Vs[j].2.any fun s => inR s R || inR s C) = false
theorem noConf_snoc {Vs : List Ver} {R C : List ByteArray} {m i : Nat} (h : NoConf Vs R C m i) (hi : i < Vs.length) : (Vs[i].2.any fun s => inR s R || inR s C) = false → NoConf Vs R C m (i + 1) := fun hv j hj h1 h2 => by
  by_cases e : j = i
  · subst e; exact hv
  · exact h j hj h1 (by omega)
theorem confR_at {Vs : List Ver} {t : RT} {i : Nat} (hi : i < Vs.length) (h : t.began.toNat + 1 ≤ i) : ∀ s ∈ Vs[i].2, (inR s t.read || inR s t.changed) = true → confR Vs t = true := fun s hs hp => by
  unfold confR
  refine List.any_eq_true.2 ⟨Vs[i], ?_, List.any_eq_true.2 ⟨s, hs, hp⟩⟩
  rw [List.mem_iff_getElem]
  exact ⟨i - (t.began.toNat + 1), by rw [List.length_drop]; omega, by rw [List.getElem_drop]; congr 1; omega⟩
theorem confR_none {Vs : List Ver} {t : RT} (h : NoConf Vs t.read t.changed t.began.toNat Vs.length) : confR Vs t = false := by
  unfold confR
  rw [List.any_eq_false]
  intro V hV
  obtain ⟨j, hj, rfl⟩ := List.mem_iff_getElem.1 hV
  rw [List.getElem_drop]
  rw [List.length_drop] at hj
  rw [h (t.began.toNat + 1 + j) (by omega) (by omega) (by omega)]
  simp
set_option maxRecDepth 100000 in
set_option maxHeartbeats 16000000 in
theorem refCommit_any {W : World} {v : Value} {Vs : List Ver} (hV : VersAt W v Vs) {vt : Value} {t : RT} (ht : RtIs W vt t) (hvz : 0 < Vs.length) (hv1 : Vs.length ≤ 1000) (hn0 : 0 ≤ t.began) (hn1 : t.began < Vs.length)
    (hc1 : t.changed.length ≤ 1000) (hr1 : t.read.length ≤ 1000) (hs1 : t.sees.length ≤ 40000) (hvc : ∀ V ∈ Vs, V.1.length ≤ 40000 ∧ V.2.length ≤ 1000) :
    Calls Try.prog 38 #[.agg #[v], vt] W fun e w' => ∃ v' vt', e = .returned (.tuple #[.agg #[v'], vt', .int .i64 (commitR Vs t).2.2.1, .int .i64 (commitR Vs t).2.2.2]) ∧ VersAt w' v' (commitR Vs t).1 ∧ RtIs w' vt' (commitR Vs t).2.1 ∧ Below W.heap.size W w' := by
  have HF : ∀ f, Fence.wide.fn f := fun _ => trivial
  obtain ⟨a, b, c, rfl, hA⟩ := ht
  obtain ⟨n, T, R, C, d⟩ := t
  dsimp only at *
  obtain ⟨gv, vc, -, -, -, -, -, -, rfl, -, -, -, -⟩ := hV.at (i := 0) hvz
  obtain ⟨vn, hvn⟩ : ∃ k, Vs.length = k := ⟨_, rfl⟩
  have HVN := Lib.hid hvn
  simp only [hvn] at hV hvz hv1 hn1 ⊢
  clear hvn
  obtain ⟨G, hG⟩ : ∃ G, commitR Vs ⟨n, T, R, C, d⟩ = G := ⟨_, rfl⟩
  have HG := Lib.hid hG
  rw [hG]
  clear hG
  obtain ⟨W1, hW1⟩ : ∃ w, (((W.alloc (.cells #[.slice (some ⟨gv, 0, none⟩) vn vc] 35)).alloc (.cells #[.int .i64 n, slV a, slV b, slV c, .bool d] 40)).alloc (.cells #[slV sl0] 35)).alloc (.cells #[.int .i64 0, slV sl0, slV sl0, slV sl0, .bool false] 40) = w := ⟨_, rfl⟩
  have hb1 : Below W.heap.size W W1 := by rw [← hW1]; exact ((((Below.refl _ W).alloc (Nat.le_refl _) _).alloc (by simp) _).alloc (by simp; omega) _).alloc (by simp; omega) _
  have k2 : BxC W1 W.heap.size ((some ⟨gv, 0, none⟩), vn, vc) := by
    rw [← hW1]
    exact (Below.heap_alloc _ _ _ (by simp; omega)).trans ((Below.heap_alloc _ _ _ (by simp; omega)).trans ((Below.heap_alloc _ _ _ (by simp)).trans (heap_new _ _)))
  have k3 : RtC W1 (W.heap.size + 1) n a b c d := by
    rw [← hW1]
    exact (Below.heap_alloc _ _ _ (by simp)).trans ((Below.heap_alloc _ _ _ (by simp)).trans (heap_new1 _ _ _))
  have k4 : BxC W1 (W.heap.size + 2) sl0 := by
    rw [← hW1]
    have := heap_new1 (W.alloc (.cells #[.slice (some ⟨gv, 0, none⟩) vn vc] 35)) (.cells #[.int .i64 n, slV a, slV b, slV c, .bool d] 40) (.cells #[slV sl0] 35)
    rw [World.size_alloc] at this
    exact (Below.heap_alloc _ _ _ (by simp)).trans this
  have k5 : RtC W1 (W.heap.size + 3) 0 sl0 sl0 sl0 false := by
    rw [← hW1]
    have := heap_new1 ((W.alloc (.cells #[.slice (some ⟨gv, 0, none⟩) vn vc] 35)).alloc (.cells #[.int .i64 n, slV a, slV b, slV c, .bool d] 40)) (.cells #[slV sl0] 35) (.cells #[.int .i64 0, slV sl0, slV sl0, slV sl0, .bool false] 40)
    rw [World.size_alloc, World.size_alloc] at this
    exact this
  unfold rtV
  obtain ⟨a0, an, ac⟩ := a
  obtain ⟨b0, bn, bc⟩ := b
  obtain ⟨c0, cn, cc⟩ := c
  simp only [slV, sl0] at *
  have HV1 := Lib.hid (hV.below hb1); have HA1 := Lib.hid (hA.below hb1); have HB1 := Lib.hid hb1; have K2 := Lib.hid k2; have K3 := Lib.hid k3; have K4 := Lib.hid k4; have K5 := Lib.hid k5
  have HCN : Hid (cn = C.length) := Lib.hid (by obtain ⟨x, y, e⟩ := hA.2.2.len; simp only [Value.slice.injEq] at e; exact e.2.1)
  have HVC := Lib.hid hvc
  obtain ⟨p2, pf2⟩ := k2.cells
  obtain ⟨p0, p1, p2', p3, p4, f0, f1, f2, f3, f4⟩ := k3.cells
  clear k2 k3 k4 k5 hb1 hA hV hvc
  cases d with
  | true =>
    have KB2 := K2; have KB3 := K3; have KB4 := K4; have KB5 := K5; have HBw := HB1; have HVw := HV1; have HAw := HA1
    have HE : Hid (G = (Vs, (⟨n, T, R, C, true⟩ : RT), 0, 7)) := Lib.hid (by rw [← HG.out]; rfl)

    obtain ⟨wd, hwd⟩ : ∃ x, W1.drew = x := ⟨_, rfl⟩
    have B0 : Below W1.heap.size W1 wd := by rw [← hwd]; exact (Below.refl _ _).drew
    have q2 : BxC wd W.heap.size ((some ⟨gv, 0, none⟩), vn, vc) := box_below B0 KB2.out
    have q3 : RtC wd (W.heap.size + 1) n (a0, an, ac) (b0, bn, bc) (c0, cn, cc) true := box_below B0 KB3.out
    have q4 : BxC wd (W.heap.size + 2) (none, 0, 0) := box_below B0 KB4.out
    have q5 : RtC wd (W.heap.size + 3) 0 (none, 0, 0) (none, 0, 0) (none, 0, 0) false := box_below B0 KB5.out
    have S0 : Below (W.heap.size + 2) wd wd := Below.refl _ _
    have k20 : ∀ x, Below (W.heap.size + 2) wd x → x.cell? ⟨W.heap.size, 0, none⟩ = some (.slice (some ⟨gv, 0, none⟩) vn vc) := fun x hx => (hx.cell (p := ⟨W.heap.size, 0, none⟩) (by simp)).trans q2.cells.1
    have k30 : ∀ x, Below (W.heap.size + 2) wd x → x.cell? ⟨W.heap.size + 1, 0, none⟩ = some (.int .i64 n) := fun x hx => (hx.cell (p := ⟨W.heap.size + 1, 0, none⟩) (by simp)).trans q3.cells.1
    have k31 : ∀ x, Below (W.heap.size + 2) wd x → x.cell? ⟨W.heap.size + 1, 1, none⟩ = some (.slice a0 an ac) := fun x hx => (hx.cell (p := ⟨W.heap.size + 1, 1, none⟩) (by simp)).trans q3.cells.2.1
    have k32 : ∀ x, Below (W.heap.size + 2) wd x → x.cell? ⟨W.heap.size + 1, 2, none⟩ = some (.slice b0 bn bc) := fun x hx => (hx.cell (p := ⟨W.heap.size + 1, 2, none⟩) (by simp)).trans q3.cells.2.2.1
    have k33 : ∀ x, Below (W.heap.size + 2) wd x → x.cell? ⟨W.heap.size + 1, 3, none⟩ = some (.slice c0 cn cc) := fun x hx => (hx.cell (p := ⟨W.heap.size + 1, 3, none⟩) (by simp)).trans q3.cells.2.2.2.1
    have k34 : ∀ x, Below (W.heap.size + 2) wd x → x.cell? ⟨W.heap.size + 1, 4, none⟩ = some (.bool true) := fun x hx => (hx.cell (p := ⟨W.heap.size + 1, 4, none⟩) (by simp)).trans q3.cells.2.2.2.2.1
    obtain ⟨z4, zf4⟩ := q4.cells
    obtain ⟨we, hwe⟩ : ∃ x, wd.setCell ⟨W.heap.size + 2, 0, none⟩ (.slice (some ⟨gv, 0, none⟩) vn vc) = x := ⟨_, rfl⟩
    have q5' : RtC we (W.heap.size + 3) 0 (none, 0, 0) (none, 0, 0) (none, 0, 0) false := by rw [← hwe]; exact (Below.heap_setCell _ _ _ _ (by simp)).trans q5
    obtain ⟨x0, x1, x2, x3, x4, y0, y1, y2, y3, y4⟩ := q5'.cells
    obtain ⟨wf, hwf⟩ : ∃ x, ((((we.setCell ⟨W.heap.size + 3, 0, none⟩ (.int .i64 n)).setCell ⟨W.heap.size + 3, 1, none⟩ (.slice a0 an ac)).setCell ⟨W.heap.size + 3, 2, none⟩ (.slice b0 bn bc)).setCell ⟨W.heap.size + 3, 3, none⟩ (.slice c0 cn cc)).setCell ⟨W.heap.size + 3, 4, none⟩ (.bool true) = x := ⟨_, rfl⟩
    have HFIN := Lib.hid (commit_copy (W := W) (w := wd) (wf := wf) (HBw.out.trans (B0.mono HBw.out.size)) q4 q5 (by omega) (by omega) (by omega) ((some ⟨gv, 0, none⟩), vn, vc) (a0, an, ac) (b0, bn, bc) (c0, cn, cc) n true (by rw [← hwf, ← hwe]))
    obtain ⟨r4, -⟩ := HFIN.out.1.cells
    obtain ⟨r0, r1, r2, r3, r5, -⟩ := HFIN.out.2.1.cells
    have HVf : Hid (VersAt wf (.slice (some ⟨gv, 0, none⟩) vn vc) Vs) := Lib.hid (VersAt.keep (HVw.out.below B0) (HFIN.out.2.2.2 _ (by decide) (by decide)) (HFIN.out.2.2.2 _ (by decide) (by decide)) (HFIN.out.2.2.2 _ (by decide) (by decide)))
    have HAf : Hid (RtAt wf (a0, an, ac) (b0, bn, bc) (c0, cn, cc) (⟨n, T, R, C, true⟩ : RT)) := Lib.hid (by
      have h := RtAt.below HAw.out B0
      exact ⟨h.1.keep (HFIN.out.2.2.2 _ (by decide) (by decide)), h.2.1.keep (HFIN.out.2.2.2 _ (by decide) (by decide)), h.2.2.keep (HFIN.out.2.2.2 _ (by decide) (by decide))⟩)
    have S1 : Below (W.heap.size + 2) wd we := by rw [← hwe]; exact (Below.refl _ _).setCell (p := ⟨W.heap.size + 2, 0, none⟩) (by simp) _
    have S2 : Below (W.heap.size + 2) wd wf := by rw [← hwf]; exact ((((S1.setCell (p := ⟨W.heap.size + 3, 0, none⟩) (by simp) _).setCell (p := ⟨W.heap.size + 3, 1, none⟩) (by simp) _).setCell (p := ⟨W.heap.size + 3, 2, none⟩) (by simp) _).setCell (p := ⟨W.heap.size + 3, 3, none⟩) (by simp) _).setCell (p := ⟨W.heap.size + 3, 4, none⟩) (by simp) _
    clear q2 q3 q4 q5 q5' B0
    go_enter Try.func38, Try.ntmps38
    go_wp2_with fail
    refine wp_region_anyH (Below (W.heap.size + 2) wd) (by kernel_rfl) ?_
    rw [hwd]
    clear hwd
    have B0 := S0
    refine AnyH.take (i := 0) (d := some 18) (v := ?_) (by kernel_rfl) rfl rfl HF (fun _ _ _ h => h) (.inl ⟨by rfl, ?_⟩) (by first | assumption | rfl) ?_
    rotate_left
    · intro w hS; try subst hS
      go_simp; try with_reducible rfl
    try simp only [Act.put, List.setIfInBounds_toArray, List.set_cons_zero, List.set_cons_succ]
    refine AnyH.take (i := 1) (d := some 19) (v := ?_) (by kernel_rfl) rfl rfl HF (fun _ _ _ h => h) (.inl ⟨by rfl, ?_⟩) (by first | assumption | rfl) ?_
    rotate_left
    · intro w hS; try subst hS
      go_simp; try with_reducible rfl
    try simp only [Act.put, List.setIfInBounds_toArray, List.set_cons_zero, List.set_cons_succ]
    refine AnyH.one (i := 2) (by kernel_rfl) (by kernel_rfl) rfl HF (by rfl) (fun K hK => ?_)
    go_simp
    refine hK _ _ S1 ?_
    clear hK K
    try simp only [Act.put, List.setIfInBounds_toArray, List.set_cons_zero, List.set_cons_succ]
    refine AnyH.tailL 3 (by kernel_rfl) ?_
    simp only [List.drop_succ_cons, List.drop_zero]
    gi_wp2_with fail
    go_wp2_with fail
    exact bodyPost_ret (v := .tuple #[.agg #[.slice (some ⟨gv, 0, none⟩) vn vc], rtV n (a0, an, ac) (b0, bn, bc) (c0, cn, cc) true, .int .i64 0, .int .i64 7]) (by simp [results, Try.results38, go_sem, r0, r1, r2, r3, r4, r5, rtV]) rfl ⟨_, _, by rw [HE.out], by rw [HE.out]; exact HVf.out, by rw [HE.out]; exact ⟨_, _, _, rfl, HAf.out⟩, HFIN.out.2.2.1⟩
  | false =>
    by_cases hC : C = []
    · obtain ⟨W2, hW2⟩ : ∃ x, W1.setCell ⟨W.heap.size + 1, 4, none⟩ (.bool true) = x := ⟨_, rfl⟩
      have hk2 := fun t ht => KeepT.setCell (nt := t) (a := ⟨W.heap.size + 1, 4, none⟩) (v := .bool true) K3.out ht
      rw [hW2] at hk2
      have KB2 : Hid (BxC W2 W.heap.size ((some ⟨gv, 0, none⟩), vn, vc)) := Lib.hid (by rw [← hW2]; exact (Below.heap_setCell _ _ _ _ (by simp)).trans K2.out)
      have KB3 : Hid (RtC W2 (W.heap.size + 1) n (a0, an, ac) (b0, bn, bc) (c0, cn, cc) true) := Lib.hid (by rw [← hW2]; exact K3.out.finish)
      have KB4 : Hid (BxC W2 (W.heap.size + 2) (none, 0, 0)) := Lib.hid (by rw [← hW2]; exact (Below.heap_setCell _ _ _ _ (by simp)).trans K4.out)
      have KB5 : Hid (RtC W2 (W.heap.size + 3) 0 (none, 0, 0) (none, 0, 0) (none, 0, 0) false) := Lib.hid (by rw [← hW2]; exact (Below.heap_setCell _ _ _ _ (by simp)).trans K5.out)
      have HBw : Hid (Below W.heap.size W W2) := Lib.hid (by rw [← hW2]; exact HB1.out.setCell (p := ⟨W.heap.size + 1, 4, none⟩) (by simp) _)
      have HVw : Hid (VersAt W2 (.slice (some ⟨gv, 0, none⟩) vn vc) Vs) := Lib.hid (VersAt.keep HV1.out (hk2 _ (by decide)) (hk2 _ (by decide)) (hk2 _ (by decide)))
      have HAw : Hid (RtAt W2 (a0, an, ac) (b0, bn, bc) (c0, cn, cc) (⟨n, T, R, C, true⟩ : RT)) := Lib.hid ⟨HA1.out.1.keep (hk2 _ (by decide)), HA1.out.2.1.keep (hk2 _ (by decide)), HA1.out.2.2.keep (hk2 _ (by decide))⟩
      obtain ⟨e2, -⟩ := KB2.out.cells
      obtain ⟨e30, e31, e32, e33, e34, -⟩ := KB3.out.cells
      simp only [slV] at e2 e31 e32 e33
      clear hk2
      have hz : ((cn : Int) == 0) = true := by have := HCN.out; rw [hC] at this; simp [this]
      have HE : Hid (G = (Vs, (⟨n, T, R, C, true⟩ : RT), n, 0)) := Lib.hid (by rw [← HG.out]; simp [commitR, hC])
      clear hC

      obtain ⟨wd, hwd⟩ : ∃ x, W2.drew = x := ⟨_, rfl⟩
      have B0 : Below W2.heap.size W2 wd := by rw [← hwd]; exact (Below.refl _ _).drew
      have q2 : BxC wd W.heap.size ((some ⟨gv, 0, none⟩), vn, vc) := box_below B0 KB2.out
      have q3 : RtC wd (W.heap.size + 1) n (a0, an, ac) (b0, bn, bc) (c0, cn, cc) true := box_below B0 KB3.out
      have q4 : BxC wd (W.heap.size + 2) (none, 0, 0) := box_below B0 KB4.out
      have q5 : RtC wd (W.heap.size + 3) 0 (none, 0, 0) (none, 0, 0) (none, 0, 0) false := box_below B0 KB5.out
      have S0 : Below (W.heap.size + 2) wd wd := Below.refl _ _
      have k20 : ∀ x, Below (W.heap.size + 2) wd x → x.cell? ⟨W.heap.size, 0, none⟩ = some (.slice (some ⟨gv, 0, none⟩) vn vc) := fun x hx => (hx.cell (p := ⟨W.heap.size, 0, none⟩) (by simp)).trans q2.cells.1
      have k30 : ∀ x, Below (W.heap.size + 2) wd x → x.cell? ⟨W.heap.size + 1, 0, none⟩ = some (.int .i64 n) := fun x hx => (hx.cell (p := ⟨W.heap.size + 1, 0, none⟩) (by simp)).trans q3.cells.1
      have k31 : ∀ x, Below (W.heap.size + 2) wd x → x.cell? ⟨W.heap.size + 1, 1, none⟩ = some (.slice a0 an ac) := fun x hx => (hx.cell (p := ⟨W.heap.size + 1, 1, none⟩) (by simp)).trans q3.cells.2.1
      have k32 : ∀ x, Below (W.heap.size + 2) wd x → x.cell? ⟨W.heap.size + 1, 2, none⟩ = some (.slice b0 bn bc) := fun x hx => (hx.cell (p := ⟨W.heap.size + 1, 2, none⟩) (by simp)).trans q3.cells.2.2.1
      have k33 : ∀ x, Below (W.heap.size + 2) wd x → x.cell? ⟨W.heap.size + 1, 3, none⟩ = some (.slice c0 cn cc) := fun x hx => (hx.cell (p := ⟨W.heap.size + 1, 3, none⟩) (by simp)).trans q3.cells.2.2.2.1
      have k34 : ∀ x, Below (W.heap.size + 2) wd x → x.cell? ⟨W.heap.size + 1, 4, none⟩ = some (.bool true) := fun x hx => (hx.cell (p := ⟨W.heap.size + 1, 4, none⟩) (by simp)).trans q3.cells.2.2.2.2.1
      obtain ⟨z4, zf4⟩ := q4.cells
      obtain ⟨we, hwe⟩ : ∃ x, wd.setCell ⟨W.heap.size + 2, 0, none⟩ (.slice (some ⟨gv, 0, none⟩) vn vc) = x := ⟨_, rfl⟩
      have q5' : RtC we (W.heap.size + 3) 0 (none, 0, 0) (none, 0, 0) (none, 0, 0) false := by rw [← hwe]; exact (Below.heap_setCell _ _ _ _ (by simp)).trans q5
      obtain ⟨x0, x1, x2, x3, x4, y0, y1, y2, y3, y4⟩ := q5'.cells
      obtain ⟨wf, hwf⟩ : ∃ x, ((((we.setCell ⟨W.heap.size + 3, 0, none⟩ (.int .i64 n)).setCell ⟨W.heap.size + 3, 1, none⟩ (.slice a0 an ac)).setCell ⟨W.heap.size + 3, 2, none⟩ (.slice b0 bn bc)).setCell ⟨W.heap.size + 3, 3, none⟩ (.slice c0 cn cc)).setCell ⟨W.heap.size + 3, 4, none⟩ (.bool true) = x := ⟨_, rfl⟩
      have HFIN := Lib.hid (commit_copy (W := W) (w := wd) (wf := wf) (HBw.out.trans (B0.mono HBw.out.size)) q4 q5 (by omega) (by omega) (by omega) ((some ⟨gv, 0, none⟩), vn, vc) (a0, an, ac) (b0, bn, bc) (c0, cn, cc) n true (by rw [← hwf, ← hwe]))
      obtain ⟨r4, -⟩ := HFIN.out.1.cells
      obtain ⟨r0, r1, r2, r3, r5, -⟩ := HFIN.out.2.1.cells
      have HVf : Hid (VersAt wf (.slice (some ⟨gv, 0, none⟩) vn vc) Vs) := Lib.hid (VersAt.keep (HVw.out.below B0) (HFIN.out.2.2.2 _ (by decide) (by decide)) (HFIN.out.2.2.2 _ (by decide) (by decide)) (HFIN.out.2.2.2 _ (by decide) (by decide)))
      have HAf : Hid (RtAt wf (a0, an, ac) (b0, bn, bc) (c0, cn, cc) (⟨n, T, R, C, true⟩ : RT)) := Lib.hid (by
        have h := RtAt.below HAw.out B0
        exact ⟨h.1.keep (HFIN.out.2.2.2 _ (by decide) (by decide)), h.2.1.keep (HFIN.out.2.2.2 _ (by decide) (by decide)), h.2.2.keep (HFIN.out.2.2.2 _ (by decide) (by decide))⟩)
      have S1 : Below (W.heap.size + 2) wd we := by rw [← hwe]; exact (Below.refl _ _).setCell (p := ⟨W.heap.size + 2, 0, none⟩) (by simp) _
      have S2 : Below (W.heap.size + 2) wd wf := by rw [← hwf]; exact ((((S1.setCell (p := ⟨W.heap.size + 3, 0, none⟩) (by simp) _).setCell (p := ⟨W.heap.size + 3, 1, none⟩) (by simp) _).setCell (p := ⟨W.heap.size + 3, 2, none⟩) (by simp) _).setCell (p := ⟨W.heap.size + 3, 3, none⟩) (by simp) _).setCell (p := ⟨W.heap.size + 3, 4, none⟩) (by simp) _
      clear q2 q3 q4 q5 q5' B0
      go_enter Try.func38, Try.ntmps38
      go_wp2_with fail
      clear hz p0 p1 p2 p2' p3 p4 f0 f1 f2 f3 f4 pf2 e2 e30 e31 e32 e33 e34 hW2 hW1
      refine wp_region_anyH (Below (W.heap.size + 2) wd) (by kernel_rfl) ?_
      rw [hwd]
      clear hwd
      have B0 := S0
      refine AnyH.take (i := 0) (d := some 25) (v := ?_) (by kernel_rfl) rfl rfl HF (fun _ _ _ h => h) (.inl ⟨by rfl, ?_⟩) (by first | assumption | rfl) ?_
      rotate_left
      · intro w hS; try subst hS
        go_simp; try with_reducible rfl
      try simp only [Act.put, List.setIfInBounds_toArray, List.set_cons_zero, List.set_cons_succ]
      refine AnyH.take (i := 1) (d := some 26) (v := ?_) (by kernel_rfl) rfl rfl HF (fun _ _ _ h => h) (.inl ⟨by rfl, ?_⟩) (by first | assumption | rfl) ?_
      rotate_left
      · intro w hS; try subst hS
        go_simp; try with_reducible rfl
      try simp only [Act.put, List.setIfInBounds_toArray, List.set_cons_zero, List.set_cons_succ]
      refine AnyH.take (i := 2) (d := some 27) (v := ?_) (by kernel_rfl) rfl rfl HF (fun _ _ _ h => h) (.inl ⟨by rfl, ?_⟩) (by first | assumption | rfl) ?_
      rotate_left
      · intro w hS; try subst hS
        go_simp; try with_reducible rfl
      try simp only [Act.put, List.setIfInBounds_toArray, List.set_cons_zero, List.set_cons_succ]
      refine AnyH.take (i := 3) (d := some 28) (v := ?_) (by kernel_rfl) rfl rfl HF (fun _ _ _ h => h) (.inl ⟨by rfl, ?_⟩) (by first | assumption | rfl) ?_
      rotate_left
      · intro w hS; try subst hS
        go_simp; try with_reducible rfl
      try simp only [Act.put, List.setIfInBounds_toArray, List.set_cons_zero, List.set_cons_succ]
      refine AnyH.one (i := 4) (by kernel_rfl) (by kernel_rfl) rfl HF (by rfl) (fun K hK => ?_)
      go_simp
      refine hK _ _ S1 ?_
      clear hK K
      try simp only [Act.put, List.setIfInBounds_toArray, List.set_cons_zero, List.set_cons_succ]
      refine AnyH.one (i := 5) (by kernel_rfl) (by kernel_rfl) rfl HF (by rfl) (fun K hK => ?_)
      go_simp
      refine hK _ _ S2 ?_
      clear hK K
      try simp only [Act.put, List.setIfInBounds_toArray, List.set_cons_zero, List.set_cons_succ]
      refine AnyH.take (i := 6) (d := some 6) (v := ?_) (by kernel_rfl) rfl rfl HF (fun _ _ _ h => h) (.inl ⟨by rfl, ?_⟩) (by first | assumption | rfl) ?_
      rotate_left
      · intro w hS; try subst hS
        go_simp; try with_reducible rfl
      try simp only [Act.put, List.setIfInBounds_toArray, List.set_cons_zero, List.set_cons_succ]
      refine AnyH.take (i := 7) (d := some 7) (v := ?_) (by kernel_rfl) rfl rfl HF (fun _ _ _ h => h) (.inl ⟨by rfl, ?_⟩) (by first | assumption | rfl) ?_
      rotate_left
      · intro w hS; try subst hS
        go_simp; try with_reducible rfl
      try simp only [Act.put, List.setIfInBounds_toArray, List.set_cons_zero, List.set_cons_succ]
      refine AnyH.done (by kernel_rfl) ?_
      gi_wp2_with fail
      go_wp2_with fail
      exact bodyPost_ret (v := .tuple #[.agg #[.slice (some ⟨gv, 0, none⟩) vn vc], rtV n (a0, an, ac) (b0, bn, bc) (c0, cn, cc) true, .int .i64 n, .int .i64 0]) (by simp [results, Try.results38, go_sem, r0, r1, r2, r3, r4, r5, rtV]) rfl ⟨_, _, by rw [HE.out], by rw [HE.out]; exact HVf.out, by rw [HE.out]; exact ⟨_, _, _, rfl, HAf.out⟩, HFIN.out.2.2.1⟩
    · obtain ⟨W2, hW2⟩ : ∃ x, W1.setCell ⟨W.heap.size + 1, 4, none⟩ (.bool true) = x := ⟨_, rfl⟩
      have hk2 := fun t ht => KeepT.setCell (nt := t) (a := ⟨W.heap.size + 1, 4, none⟩) (v := .bool true) K3.out ht
      rw [hW2] at hk2
      have KB2 : Hid (BxC W2 W.heap.size ((some ⟨gv, 0, none⟩), vn, vc)) := Lib.hid (by rw [← hW2]; exact (Below.heap_setCell _ _ _ _ (by simp)).trans K2.out)
      have KB3 : Hid (RtC W2 (W.heap.size + 1) n (a0, an, ac) (b0, bn, bc) (c0, cn, cc) true) := Lib.hid (by rw [← hW2]; exact K3.out.finish)
      have KB4 : Hid (BxC W2 (W.heap.size + 2) (none, 0, 0)) := Lib.hid (by rw [← hW2]; exact (Below.heap_setCell _ _ _ _ (by simp)).trans K4.out)
      have KB5 : Hid (RtC W2 (W.heap.size + 3) 0 (none, 0, 0) (none, 0, 0) (none, 0, 0) false) := Lib.hid (by rw [← hW2]; exact (Below.heap_setCell _ _ _ _ (by simp)).trans K5.out)
      have HBw : Hid (Below W.heap.size W W2) := Lib.hid (by rw [← hW2]; exact HB1.out.setCell (p := ⟨W.heap.size + 1, 4, none⟩) (by simp) _)
      have HVw : Hid (VersAt W2 (.slice (some ⟨gv, 0, none⟩) vn vc) Vs) := Lib.hid (VersAt.keep HV1.out (hk2 _ (by decide)) (hk2 _ (by decide)) (hk2 _ (by decide)))
      have HAw : Hid (RtAt W2 (a0, an, ac) (b0, bn, bc) (c0, cn, cc) (⟨n, T, R, C, true⟩ : RT)) := Lib.hid ⟨HA1.out.1.keep (hk2 _ (by decide)), HA1.out.2.1.keep (hk2 _ (by decide)), HA1.out.2.2.keep (hk2 _ (by decide))⟩
      obtain ⟨e2, -⟩ := KB2.out.cells
      obtain ⟨e30, e31, e32, e33, e34, -⟩ := KB3.out.cells
      simp only [slV] at e2 e31 e32 e33
      clear hk2
      have hz : ((cn : Int) == 0) = false := by have := HCN.out; have := List.length_pos_iff.2 hC; rw [beq_eq_false_iff_ne]; omega
      obtain ⟨m, rfl⟩ : ∃ m : Nat, n = (m : Int) := ⟨n.toNat, by omega⟩
      have hm1 : m < vn := by omega
      have HC0 := Lib.hid hC; clear hC
      have hW2c : True := trivial
      go_enter Try.func38, Try.ntmps38
      go_wp2_with fail
      clear hz p0 p1 p2 p2' p3 p4 f0 f1 f2 f3 f4 pf2 hW2 hW1
      go_loop [8] (fun c => ∃ i : Nat, m + 1 ≤ i ∧ i ≤ vn ∧ c = .int .i64 i ∧ NoConf Vs R C m i) (fun c => vn - (intOf c).toNat)
      case atStart => exact ⟨m + 1, by omega, by omega, by go_num, fun j _ h1 h2 => by omega⟩
      case round =>
        obtain ⟨i, hi1, hi2, rfl, hNC⟩ := hrel
        have HNC := Lib.hid hNC; clear hNC
        by_cases hlt : i < vn
        · have hlt2 : (i : Int) < (vn : Int) := by omega
          have hge : (0 : Int) ≤ (i : Int) := by omega
          obtain ⟨g, cx, la, ln, lc, ka, kn, kc, he, hVi, -, hkn, hcell⟩ := HVw.out.at (i := i) (by have := HVN.out; omega)
          simp only [Value.slice.injEq, Option.some.injEq, Addr.mk.injEq, and_true, true_and] at he
          have hg1 : gv = g := he.1
          have hg2 : vc = cx := he.2.2
          subst hg1; subst hg2
          clear he
          obtain ⟨-, y1⟩ := hcell W2 (Below.refl _ _)
          have hin := HVC.out _ (List.getElem_mem (show i < Vs.length by have := HVN.out; omega))
          have HSn := Lib.hid (noConf_snoc (R := R) (C := C) HNC.out (show i < Vs.length by have := HVN.out; omega))
          have HCF := Lib.hid (confR_at (t := ⟨(m : Int), T, R, C, false⟩) (i := i) (show i < Vs.length by have := HVN.out; omega) (by simp; omega))
          have HVI := Lib.hid hVi
          have hkl : kn ≤ 1000 := by rw [hkn]; exact hin.2
          clear hVi hcell hin
          generalize Vs[i]'_ = Vi at *
          have HKN := Lib.hid hkn
          clear hkn
          go_wp2_with fail
          go_loop [46] (fun c => ∃ k : Nat, k ≤ kn ∧ c = .int .i64 k ∧ (Vi.2.take k).any (fun s => inR s R || inR s C) = false) (fun c => kn - (intOf c).toNat)
          case atStart => exact ⟨0, by omega, rfl, by simp⟩
          case round =>
            obtain ⟨k, hk, rfl, hP⟩ := hrel
            have HP := Lib.hid hP; clear hP
            by_cases hkt : k < kn
            · have hkt2 : (k : Int) < (kn : Int) := by omega
              have hkg : (0 : Int) ≤ (k : Int) := by omega
              have hkL : k < Vi.2.length := by have := HKN.out; omega
              obtain ⟨h, cy, he, -, -, hcell⟩ := HVI.out.2.at hkL
              simp only [slV, Value.slice.injEq] at he
              obtain ⟨rfl, -, rfl⟩ := he
              have y2 := hcell W2 (Below.refl _ _)
              have HPS : Hid ((Vi.2.take (k + 1)).any (fun s => inR s R || inR s C) = (inR Vi.2[k] R || inR Vi.2[k] C)) := Lib.hid (by
                rw [List.take_succ_eq_append_getElem hkL, List.any_append, HP.out]; simp)
              have HPM := Lib.hid (List.getElem_mem hkL)
              generalize Vi.2[k] = s at *
              have HR1 := Lib.hid (refIn_any (l := R) s HAw.out.2.1 (by omega)); have HR2 := Lib.hid (refIn_any (l := C) s HAw.out.2.2 (by omega))
              clear hcell
              cases hx : inR s R with
              | true =>
                rw [hx] at HR1
                have HE : Hid (G = (Vs, (⟨(m : Int), T, R, C, true⟩ : RT), 0, 11)) := Lib.hid (by
                  rw [← HG.out]
                  have h1 : confR Vs ⟨(m : Int), T, R, C, false⟩ = true := HCF.out s HPM.out (by simp [hx])
                  simp [commitR, HC0.out, h1])
                clear hx
                go_wp2_with fail
                refine HR1.out.mono ?_; rintro e w ⟨rfl, h⟩; rw [h]; clear h w
                obtain ⟨wd, hwd⟩ : ∃ x, W2.drew = x := ⟨_, rfl⟩
                have B0 : Below W2.heap.size W2 wd := by rw [← hwd]; exact (Below.refl _ _).drew
                have q2 : BxC wd W.heap.size ((some ⟨gv, 0, none⟩), vn, vc) := box_below B0 KB2.out
                have q3 : RtC wd (W.heap.size + 1) (m : Int) (a0, an, ac) (b0, bn, bc) (c0, cn, cc) true := box_below B0 KB3.out
                have q4 : BxC wd (W.heap.size + 2) (none, 0, 0) := box_below B0 KB4.out
                have q5 : RtC wd (W.heap.size + 3) 0 (none, 0, 0) (none, 0, 0) (none, 0, 0) false := box_below B0 KB5.out
                have S0 : Below (W.heap.size + 2) wd wd := Below.refl _ _
                have k20 : ∀ x, Below (W.heap.size + 2) wd x → x.cell? ⟨W.heap.size, 0, none⟩ = some (.slice (some ⟨gv, 0, none⟩) vn vc) := fun x hx => (hx.cell (p := ⟨W.heap.size, 0, none⟩) (by simp)).trans q2.cells.1
                have k30 : ∀ x, Below (W.heap.size + 2) wd x → x.cell? ⟨W.heap.size + 1, 0, none⟩ = some (.int .i64 (m : Int)) := fun x hx => (hx.cell (p := ⟨W.heap.size + 1, 0, none⟩) (by simp)).trans q3.cells.1
                have k31 : ∀ x, Below (W.heap.size + 2) wd x → x.cell? ⟨W.heap.size + 1, 1, none⟩ = some (.slice a0 an ac) := fun x hx => (hx.cell (p := ⟨W.heap.size + 1, 1, none⟩) (by simp)).trans q3.cells.2.1
                have k32 : ∀ x, Below (W.heap.size + 2) wd x → x.cell? ⟨W.heap.size + 1, 2, none⟩ = some (.slice b0 bn bc) := fun x hx => (hx.cell (p := ⟨W.heap.size + 1, 2, none⟩) (by simp)).trans q3.cells.2.2.1
                have k33 : ∀ x, Below (W.heap.size + 2) wd x → x.cell? ⟨W.heap.size + 1, 3, none⟩ = some (.slice c0 cn cc) := fun x hx => (hx.cell (p := ⟨W.heap.size + 1, 3, none⟩) (by simp)).trans q3.cells.2.2.2.1
                have k34 : ∀ x, Below (W.heap.size + 2) wd x → x.cell? ⟨W.heap.size + 1, 4, none⟩ = some (.bool true) := fun x hx => (hx.cell (p := ⟨W.heap.size + 1, 4, none⟩) (by simp)).trans q3.cells.2.2.2.2.1
                obtain ⟨z4, zf4⟩ := q4.cells
                obtain ⟨we, hwe⟩ : ∃ x, wd.setCell ⟨W.heap.size + 2, 0, none⟩ (.slice (some ⟨gv, 0, none⟩) vn vc) = x := ⟨_, rfl⟩
                have q5' : RtC we (W.heap.size + 3) 0 (none, 0, 0) (none, 0, 0) (none, 0, 0) false := by rw [← hwe]; exact (Below.heap_setCell _ _ _ _ (by simp)).trans q5
                obtain ⟨x0, x1, x2, x3, x4, y0, y1, y2, y3, y4⟩ := q5'.cells
                obtain ⟨wf, hwf⟩ : ∃ x, ((((we.setCell ⟨W.heap.size + 3, 0, none⟩ (.int .i64 (m : Int))).setCell ⟨W.heap.size + 3, 1, none⟩ (.slice a0 an ac)).setCell ⟨W.heap.size + 3, 2, none⟩ (.slice b0 bn bc)).setCell ⟨W.heap.size + 3, 3, none⟩ (.slice c0 cn cc)).setCell ⟨W.heap.size + 3, 4, none⟩ (.bool true) = x := ⟨_, rfl⟩
                have HFIN := Lib.hid (commit_copy (W := W) (w := wd) (wf := wf) (HBw.out.trans (B0.mono HBw.out.size)) q4 q5 (by omega) (by omega) (by omega) ((some ⟨gv, 0, none⟩), vn, vc) (a0, an, ac) (b0, bn, bc) (c0, cn, cc) (m : Int) true (by rw [← hwf, ← hwe]))
                obtain ⟨r4, -⟩ := HFIN.out.1.cells
                obtain ⟨r0, r1, r2, r3, r5, -⟩ := HFIN.out.2.1.cells
                have HVf : Hid (VersAt wf (.slice (some ⟨gv, 0, none⟩) vn vc) Vs) := Lib.hid (VersAt.keep (HVw.out.below B0) (HFIN.out.2.2.2 _ (by decide) (by decide)) (HFIN.out.2.2.2 _ (by decide) (by decide)) (HFIN.out.2.2.2 _ (by decide) (by decide)))
                have HAf : Hid (RtAt wf (a0, an, ac) (b0, bn, bc) (c0, cn, cc) (⟨(m : Int), T, R, C, true⟩ : RT)) := Lib.hid (by
                  have h := RtAt.below HAw.out B0
                  exact ⟨h.1.keep (HFIN.out.2.2.2 _ (by decide) (by decide)), h.2.1.keep (HFIN.out.2.2.2 _ (by decide) (by decide)), h.2.2.keep (HFIN.out.2.2.2 _ (by decide) (by decide))⟩)
                have S1 : Below (W.heap.size + 2) wd we := by rw [← hwe]; exact (Below.refl _ _).setCell (p := ⟨W.heap.size + 2, 0, none⟩) (by simp) _
                have S2 : Below (W.heap.size + 2) wd wf := by rw [← hwf]; exact ((((S1.setCell (p := ⟨W.heap.size + 3, 0, none⟩) (by simp) _).setCell (p := ⟨W.heap.size + 3, 1, none⟩) (by simp) _).setCell (p := ⟨W.heap.size + 3, 2, none⟩) (by simp) _).setCell (p := ⟨W.heap.size + 3, 3, none⟩) (by simp) _).setCell (p := ⟨W.heap.size + 3, 4, none⟩) (by simp) _
                clear q2 q3 q4 q5 q5' B0
                go_wp2_with fail
                clear hW2c
                refine wp_region_anyH (Below (W.heap.size + 2) wd) (by kernel_rfl) ?_
                rw [hwd]
                clear hwd
                have B0 := S0
                refine AnyH.take (i := 0) (d := some 60) (v := ?_) (by kernel_rfl) rfl rfl HF (fun _ _ _ h => h) (.inl ⟨by rfl, ?_⟩) (by first | assumption | rfl) ?_
                rotate_left
                · intro w hS; try subst hS
                  go_simp; try with_reducible rfl
                try simp only [Act.put, List.setIfInBounds_toArray, List.set_cons_zero, List.set_cons_succ]
                refine AnyH.take (i := 1) (d := some 61) (v := ?_) (by kernel_rfl) rfl rfl HF (fun _ _ _ h => h) (.inl ⟨by rfl, ?_⟩) (by first | assumption | rfl) ?_
                rotate_left
                · intro w hS; try subst hS
                  go_simp; try with_reducible rfl
                try simp only [Act.put, List.setIfInBounds_toArray, List.set_cons_zero, List.set_cons_succ]
                refine AnyH.one (i := 2) (by kernel_rfl) (by kernel_rfl) rfl HF (by rfl) (fun K hK => ?_)
                go_simp
                refine hK _ _ S1 ?_
                clear hK K
                try simp only [Act.put, List.setIfInBounds_toArray, List.set_cons_zero, List.set_cons_succ]
                refine AnyH.tailL 3 (by kernel_rfl) ?_
                simp only [List.drop_succ_cons, List.drop_zero]
                gi_wp2_with fail
                go_wp2_with fail
                exact bodyPost_ret (v := .tuple #[.agg #[.slice (some ⟨gv, 0, none⟩) vn vc], rtV (m : Int) (a0, an, ac) (b0, bn, bc) (c0, cn, cc) true, .int .i64 0, .int .i64 11]) (by simp [results, Try.results38, go_sem, r0, r1, r2, r3, r4, r5, rtV]) rfl ⟨_, _, by rw [HE.out], by rw [HE.out]; exact HVf.out, by rw [HE.out]; exact ⟨_, _, _, rfl, HAf.out⟩, HFIN.out.2.2.1⟩
              | false =>
                rw [hx] at HR1
                cases hy : inR s C with
                | true =>
                  rw [hy] at HR2
                  have HE : Hid (G = (Vs, (⟨(m : Int), T, R, C, true⟩ : RT), 0, 11)) := Lib.hid (by
                    rw [← HG.out]
                    have h1 : confR Vs ⟨(m : Int), T, R, C, false⟩ = true := HCF.out s HPM.out (by simp [hy])
                    simp [commitR, HC0.out, h1])
                  clear hx hy
                  go_wp2_with fail
                  refine HR1.out.mono ?_; rintro e w ⟨rfl, h⟩; rw [h]; clear h w
                  go_wp2_with fail
                  refine HR2.out.mono ?_; rintro e w ⟨rfl, h⟩; rw [h]; clear h w
                  obtain ⟨wd, hwd⟩ : ∃ x, W2.drew = x := ⟨_, rfl⟩
                  have B0 : Below W2.heap.size W2 wd := by rw [← hwd]; exact (Below.refl _ _).drew
                  have q2 : BxC wd W.heap.size ((some ⟨gv, 0, none⟩), vn, vc) := box_below B0 KB2.out
                  have q3 : RtC wd (W.heap.size + 1) (m : Int) (a0, an, ac) (b0, bn, bc) (c0, cn, cc) true := box_below B0 KB3.out
                  have q4 : BxC wd (W.heap.size + 2) (none, 0, 0) := box_below B0 KB4.out
                  have q5 : RtC wd (W.heap.size + 3) 0 (none, 0, 0) (none, 0, 0) (none, 0, 0) false := box_below B0 KB5.out
                  have S0 : Below (W.heap.size + 2) wd wd := Below.refl _ _
                  have k20 : ∀ x, Below (W.heap.size + 2) wd x → x.cell? ⟨W.heap.size, 0, none⟩ = some (.slice (some ⟨gv, 0, none⟩) vn vc) := fun x hx => (hx.cell (p := ⟨W.heap.size, 0, none⟩) (by simp)).trans q2.cells.1
                  have k30 : ∀ x, Below (W.heap.size + 2) wd x → x.cell? ⟨W.heap.size + 1, 0, none⟩ = some (.int .i64 (m : Int)) := fun x hx => (hx.cell (p := ⟨W.heap.size + 1, 0, none⟩) (by simp)).trans q3.cells.1
                  have k31 : ∀ x, Below (W.heap.size + 2) wd x → x.cell? ⟨W.heap.size + 1, 1, none⟩ = some (.slice a0 an ac) := fun x hx => (hx.cell (p := ⟨W.heap.size + 1, 1, none⟩) (by simp)).trans q3.cells.2.1
                  have k32 : ∀ x, Below (W.heap.size + 2) wd x → x.cell? ⟨W.heap.size + 1, 2, none⟩ = some (.slice b0 bn bc) := fun x hx => (hx.cell (p := ⟨W.heap.size + 1, 2, none⟩) (by simp)).trans q3.cells.2.2.1
                  have k33 : ∀ x, Below (W.heap.size + 2) wd x → x.cell? ⟨W.heap.size + 1, 3, none⟩ = some (.slice c0 cn cc) := fun x hx => (hx.cell (p := ⟨W.heap.size + 1, 3, none⟩) (by simp)).trans q3.cells.2.2.2.1
                  have k34 : ∀ x, Below (W.heap.size + 2) wd x → x.cell? ⟨W.heap.size + 1, 4, none⟩ = some (.bool true) := fun x hx => (hx.cell (p := ⟨W.heap.size + 1, 4, none⟩) (by simp)).trans q3.cells.2.2.2.2.1
                  obtain ⟨z4, zf4⟩ := q4.cells
                  obtain ⟨we, hwe⟩ : ∃ x, wd.setCell ⟨W.heap.size + 2, 0, none⟩ (.slice (some ⟨gv, 0, none⟩) vn vc) = x := ⟨_, rfl⟩
                  have q5' : RtC we (W.heap.size + 3) 0 (none, 0, 0) (none, 0, 0) (none, 0, 0) false := by rw [← hwe]; exact (Below.heap_setCell _ _ _ _ (by simp)).trans q5
                  obtain ⟨x0, x1, x2, x3, x4, y0, y1, y2, y3, y4⟩ := q5'.cells
                  obtain ⟨wf, hwf⟩ : ∃ x, ((((we.setCell ⟨W.heap.size + 3, 0, none⟩ (.int .i64 (m : Int))).setCell ⟨W.heap.size + 3, 1, none⟩ (.slice a0 an ac)).setCell ⟨W.heap.size + 3, 2, none⟩ (.slice b0 bn bc)).setCell ⟨W.heap.size + 3, 3, none⟩ (.slice c0 cn cc)).setCell ⟨W.heap.size + 3, 4, none⟩ (.bool true) = x := ⟨_, rfl⟩
                  have HFIN := Lib.hid (commit_copy (W := W) (w := wd) (wf := wf) (HBw.out.trans (B0.mono HBw.out.size)) q4 q5 (by omega) (by omega) (by omega) ((some ⟨gv, 0, none⟩), vn, vc) (a0, an, ac) (b0, bn, bc) (c0, cn, cc) (m : Int) true (by rw [← hwf, ← hwe]))
                  obtain ⟨r4, -⟩ := HFIN.out.1.cells
                  obtain ⟨r0, r1, r2, r3, r5, -⟩ := HFIN.out.2.1.cells
                  have HVf : Hid (VersAt wf (.slice (some ⟨gv, 0, none⟩) vn vc) Vs) := Lib.hid (VersAt.keep (HVw.out.below B0) (HFIN.out.2.2.2 _ (by decide) (by decide)) (HFIN.out.2.2.2 _ (by decide) (by decide)) (HFIN.out.2.2.2 _ (by decide) (by decide)))
                  have HAf : Hid (RtAt wf (a0, an, ac) (b0, bn, bc) (c0, cn, cc) (⟨(m : Int), T, R, C, true⟩ : RT)) := Lib.hid (by
                    have h := RtAt.below HAw.out B0
                    exact ⟨h.1.keep (HFIN.out.2.2.2 _ (by decide) (by decide)), h.2.1.keep (HFIN.out.2.2.2 _ (by decide) (by decide)), h.2.2.keep (HFIN.out.2.2.2 _ (by decide) (by decide))⟩)
                  have S1 : Below (W.heap.size + 2) wd we := by rw [← hwe]; exact (Below.refl _ _).setCell (p := ⟨W.heap.size + 2, 0, none⟩) (by simp) _
                  have S2 : Below (W.heap.size + 2) wd wf := by rw [← hwf]; exact ((((S1.setCell (p := ⟨W.heap.size + 3, 0, none⟩) (by simp) _).setCell (p := ⟨W.heap.size + 3, 1, none⟩) (by simp) _).setCell (p := ⟨W.heap.size + 3, 2, none⟩) (by simp) _).setCell (p := ⟨W.heap.size + 3, 3, none⟩) (by simp) _).setCell (p := ⟨W.heap.size + 3, 4, none⟩) (by simp) _
                  clear q2 q3 q4 q5 q5' B0
                  go_wp2_with fail
                  clear hW2c
                  refine wp_region_anyH (Below (W.heap.size + 2) wd) (by kernel_rfl) ?_
                  rw [hwd]
                  clear hwd
                  have B0 := S0
                  refine AnyH.take (i := 0) (d := some 60) (v := ?_) (by kernel_rfl) rfl rfl HF (fun _ _ _ h => h) (.inl ⟨by rfl, ?_⟩) (by first | assumption | rfl) ?_
                  rotate_left
                  · intro w hS; try subst hS
                    go_simp; try with_reducible rfl
                  try simp only [Act.put, List.setIfInBounds_toArray, List.set_cons_zero, List.set_cons_succ]
                  refine AnyH.take (i := 1) (d := some 61) (v := ?_) (by kernel_rfl) rfl rfl HF (fun _ _ _ h => h) (.inl ⟨by rfl, ?_⟩) (by first | assumption | rfl) ?_
                  rotate_left
                  · intro w hS; try subst hS
                    go_simp; try with_reducible rfl
                  try simp only [Act.put, List.setIfInBounds_toArray, List.set_cons_zero, List.set_cons_succ]
                  refine AnyH.one (i := 2) (by kernel_rfl) (by kernel_rfl) rfl HF (by rfl) (fun K hK => ?_)
                  go_simp
                  refine hK _ _ S1 ?_
                  clear hK K
                  try simp only [Act.put, List.setIfInBounds_toArray, List.set_cons_zero, List.set_cons_succ]
                  refine AnyH.tailL 3 (by kernel_rfl) ?_
                  simp only [List.drop_succ_cons, List.drop_zero]
                  gi_wp2_with fail
                  go_wp2_with fail
                  exact bodyPost_ret (v := .tuple #[.agg #[.slice (some ⟨gv, 0, none⟩) vn vc], rtV (m : Int) (a0, an, ac) (b0, bn, bc) (c0, cn, cc) true, .int .i64 0, .int .i64 11]) (by simp [results, Try.results38, go_sem, r0, r1, r2, r3, r4, r5, rtV]) rfl ⟨_, _, by rw [HE.out], by rw [HE.out]; exact HVf.out, by rw [HE.out]; exact ⟨_, _, _, rfl, HAf.out⟩, HFIN.out.2.2.1⟩
                | false =>
                  rw [hy] at HR2
                  have HPT : Hid ((Vi.2.take (k + 1)).any (fun s => inR s R || inR s C) = false) := Lib.hid (by rw [HPS.out, hx, hy]; rfl)
                  clear hx hy
                  go_wp2_with fail
                  refine HR1.out.mono ?_; rintro e w ⟨rfl, h⟩; rw [h]; clear h w
                  go_wp2_with fail
                  refine HR2.out.mono ?_; rintro e w ⟨rfl, h⟩; rw [h]; clear h w
                  go_wp2_with fail
                  go_round
                  case rel => exact ⟨k + 1, by omega, by go_num, HPT.out⟩
                  case measure => simp [intOf]; omega
            · obtain rfl : k = kn := by omega
              have HNI : Hid (NoConf Vs R C m (i + 1)) := Lib.hid (HSn.out (by have := HP.out; rwa [List.take_of_length_le (by have := HKN.out; omega)] at this))
              go_wp2_with fail
              go_round
              case rel => exact ⟨i + 1, by omega, by omega, by go_num, HNI.out⟩
              case measure => simp [intOf]; omega
        · have hiv : vn = i := by omega
          subst hiv
          have hlt2 : ¬ (vn : Int) < (vn : Int) := by omega
          have HCF : Hid (confR Vs ⟨(m : Int), T, R, C, false⟩ = false) := Lib.hid (confR_none (t := ⟨(m : Int), T, R, C, false⟩) (by simp; have := HVN.out; rw [this]; exact HNC.out))
          have hfl : ∀ (x y : Value) (w : World), (Instr.field 104 (.agg #[x, y]) 0).run Try.prog w = .ok x w := fun _ _ _ => by kernel_rfl
          have HLA := Lib.hid (refLast_any HVw.out (by have := HVN.out; omega) (by have := HVN.out; omega))
          obtain ⟨L0, hL0⟩ : ∃ L, (Vs.getLast?.map Prod.fst).getD [] = L := ⟨_, rfl⟩
          have HL0e : Hid ((Vs[Vs.length - 1]'(by have := HVN.out; omega)).1 = L0) := Lib.hid (by
            rw [← hL0, List.getLast?_eq_getElem?, List.getElem?_eq_getElem (by have := HVN.out; omega)]; rfl)
          have HE : Hid (G = (Vs ++ [(seenN T L0 C, C)], (⟨(m : Int), T, R, C, true⟩ : RT), (vn : Int), 0)) := Lib.hid (by
            rw [← HG.out]
            simp [commitR, HC0.out, HCF.out, hL0, HVN.out])
          have HLl : Hid (L0.length ≤ 40000) := Lib.hid (by rw [← HL0e.out]; exact (HVC.out _ (List.getElem_mem _)).1)
          clear hL0 hlt hi1 hi2
          go_wp2_with fail
          refine HLA.out.mono ?_
          rintro e w3 ⟨la, ln, lc, lb, lk, ld, rfl, hVL, hb3⟩
          have HL3 : Hid (Prs 0 w3 (.slice la ln lc) L0) := Lib.hid (by have := hVL.1; rw [HL0e.out] at this; exact this)
          have HB3' := Lib.hid hb3
          have KD3 := Lib.hid (show RtC w3 (W.heap.size + 1) (m : Int) (a0, an, ac) (b0, bn, bc) (c0, cn, cc) true from box_below hb3 KB3.out)
          obtain ⟨-, d31, -, d33, -⟩ := KD3.out.cells
          simp only [slV] at d31 d33
          clear hVL hb3 e2 e30 e31 e32 e33 e34 hlt2
          go_wp2_with fail
          clear d31 d33 hfl
          go_loopw [11, 69] (fun l c wr => ∃ j : Nat, j ≤ cn ∧ c = .int .i64 j ∧ Prs 0 wr l (seenN T L0 (C.take j)) ∧ Below w3.heap.size w3 wr) (fun _ c _ => cn - (intOf c).toNat)
          case atStart => exact ⟨0, by omega, rfl, HL3.out, Below.refl _ _⟩
          case round =>
            obtain ⟨j, hj, rfl, hS, hB⟩ := hrel
            have HS := Lib.hid hS; have HB := Lib.hid hB; clear hS hB
            have hsl := seenN_len T (C.take j) L0
            rw [List.length_take] at hsl
            have hsl2 : (seenN T L0 (C.take j)).length ≤ 50000 := by have := HLl.out; have := HCN.out; omega
            clear hsl
            by_cases hjt : j < cn
            · have hjt2 : (j : Int) < (cn : Int) := by omega
              have hjL : j < C.length := by have := HCN.out; omega
              have hbw := Below.step HB3'.out HB.out
              obtain ⟨hh, cy, he, -, -, hcell⟩ := (HAw.out.2.2).at hjL
              simp only [slV, Value.slice.injEq] at he
              obtain ⟨rfl, -, rfl⟩ := he
              have y2 := hcell wr hbw
              obtain ⟨-, d31, -, d33, -⟩ := RtC.cells (box_below HB.out KD3.out)
              simp only [slV] at d31 d33
              have HSN : Hid (seenN T L0 (C.take (j + 1)) = seen1 T (seenN T L0 (C.take j)) C[j]) := Lib.hid (by
                rw [List.take_succ_eq_append_getElem hjL]; unfold seenN; rw [List.foldl_append]; rfl)
              have HFT := Lib.hid (refFind_any (l := T) C[j] (HAw.out.1.below hbw) (by omega))
              rw [findR_getA] at HFT
              generalize C[j] = s at *
              generalize seenN T L0 (C.take j) = l at *
              clear hcell hbw
              cases hg : getA s T with
              | some x =>
                rw [hg] at HFT
                have HSE : Hid (seen1 T l s = putR s x l) := Lib.hid (by unfold seen1; rw [hg])
                clear hg
                go_wp2_with fail
                refine HFT.out.mono ?_; rintro e w ⟨rfl, h⟩; rw [h]; clear h w
                simp only [Option.map_some, findV]
                go_wp2_with fail
                refine (refPut_any s x HS.out (by omega)).mono ?_
                rintro e w5 ⟨v5, rfl, hP5, hb5⟩
                have HP5 := Lib.hid hP5; have HB5 := Lib.hid (Below.step HB.out hb5)
                clear hP5 hb5 d31 d33 y2
                go_wp2_with fail
                go_roundw
                case rel => exact ⟨j + 1, by omega, by go_num, by rw [HSN.out, HSE.out]; exact HP5.out, HB5.out⟩
                case measure => simp [intOf]; omega
              | none =>
                rw [hg] at HFT
                have HSE : Hid (seen1 T l s = dropR s l) := Lib.hid (by unfold seen1; rw [hg])
                clear hg
                go_wp2_with fail
                refine HFT.out.mono ?_; rintro e w ⟨rfl, h⟩; rw [h]; clear h w
                simp only [Option.map_none, findV]
                go_wp2_with fail
                refine (refDrop_any s HS.out (by omega)).mono ?_
                rintro e w5 ⟨v5, rfl, hP5, hb5⟩
                have HP5 := Lib.hid hP5; have HB5 := Lib.hid (Below.step HB.out hb5)
                clear hP5 hb5 d31 d33 y2
                go_wp2_with fail
                go_roundw
                case rel => exact ⟨j + 1, by omega, by go_num, by rw [HSN.out, HSE.out]; exact HP5.out, HB5.out⟩
                case measure => simp [intOf]; omega
            · have hjc : cn = j := by omega
              subst hjc
              have hjt2 : ¬ (cn : Int) < (cn : Int) := by omega
              have hSF := HS.out
              rw [List.take_of_length_le (by have := HCN.out; omega)] at hSF
              obtain ⟨⟨sa, sn, sc⟩, hsv, -⟩ := hSF.sl
              simp only [slV] at hsv
              subst hsv
              have HSF := Lib.hid hSF
              clear hSF HS
              have hbw := Below.step HB3'.out HB.out
              obtain ⟨wq, hwq⟩ : ∃ x, wr.drew = x := ⟨_, rfl⟩
              have bq : Below wr.heap.size wr wq := by rw [← hwq]; exact (Below.refl _ _).drew
              have hbq := Below.step hbw bq
              have B0 : Below wq.heap.size wq wq := Below.refl _ _
              have k20 : ∀ x, Below wq.heap.size wq x → x.cell? ⟨W.heap.size, 0, none⟩ = some (.slice (some ⟨gv, 0, none⟩) vn vc) := fun x hx => (BxC.cells (box_below hx (box_below hbq KB2.out))).1
              have k33 : ∀ x, Below wq.heap.size wq x → x.cell? ⟨W.heap.size + 1, 3, none⟩ = some (.slice c0 cn cc) := fun x hx => (RtC.cells (box_below hx (box_below hbq KB3.out))).2.2.2.1
              obtain ⟨us, hu1, hu2, hu3⟩ := VersAt.below HVw.out hbq
              have HU1 := Lib.hid hu1; have HU2 := Lib.hid hu2; have HU3 := Lib.hid hu3
              have HBQ := Lib.hid hbq; have HSQ := Lib.hid (HSF.out.below bq)
              have HQ2 := Lib.hid (box_below hbq KB2.out); have HQ3 := Lib.hid (box_below hbq KB3.out); have HQ4 := Lib.hid (box_below hbq KB4.out); have HQ5 := Lib.hid (box_below hbq KB5.out)
              have HQW : Hid (W.heap.size + 3 < wq.heap.size) := Lib.hid (Nat.lt_of_lt_of_le (Array.getElem?_eq_some_iff.1 KB5.out).1 hbq.size)
              clear hu1 hu2 hu3 hbw bq hbq hsl2
              go_wp2_with fail
              refine wp_region_anyH (Below wq.heap.size wq) (by kernel_rfl) ?_
              rw [hwq]
              clear hwq
              refine AnyH.take (i := 1) (d := some 90) (v := ?_) (by kernel_rfl) rfl rfl HF (fun _ _ _ h => h) (.inl ⟨by rfl, ?_⟩) (by first | assumption | rfl) ?_
              rotate_left
              · intro w hS; try subst hS
                go_simp; try with_reducible rfl
              try simp only [Act.put, List.setIfInBounds_toArray, List.set_cons_zero, List.set_cons_succ]
              refine AnyH.take (i := 2) (d := some 91) (v := ?_) (by kernel_rfl) rfl rfl HF (fun _ _ _ h => h) (.inl ⟨by rfl, ?_⟩) (by first | assumption | rfl) ?_
              rotate_left
              · intro w hS; try subst hS
                go_simp; try with_reducible rfl
              try simp only [Act.put, List.setIfInBounds_toArray, List.set_cons_zero, List.set_cons_succ]
              refine AnyH.take (i := 4) (d := some 93) (v := ?_) (by kernel_rfl) rfl rfl HF (fun _ _ _ h => h) (.inl ⟨by rfl, ?_⟩) (by first | assumption | rfl) ?_
              rotate_left
              · intro w hS; try subst hS
                go_simp; try with_reducible rfl
              try simp only [Act.put, List.setIfInBounds_toArray, List.set_cons_zero, List.set_cons_succ]
              refine AnyH.take (i := 5) (d := some 94) (v := ?_) (by kernel_rfl) rfl rfl HF (fun _ _ _ h => h) (.inl ⟨by rfl, ?_⟩) (by first | assumption | rfl) ?_
              rotate_left
              · intro w hS; try subst hS
                go_simp; try with_reducible rfl
              try simp only [Act.put, List.setIfInBounds_toArray, List.set_cons_zero, List.set_cons_succ]
              refine AnyH.take (i := 6) (d := some 95) (v := ?_) (by kernel_rfl) rfl rfl HF (fun _ _ _ h => h) (.inl ⟨by rfl, ?_⟩) (by first | assumption | rfl) ?_
              rotate_left
              · intro w hS; try subst hS
                go_simp; try with_reducible rfl
              try simp only [Act.put, List.setIfInBounds_toArray, List.set_cons_zero, List.set_cons_succ]
              refine AnyH.take (i := 7) (d := some 96) (v := ?_) (by kernel_rfl) rfl rfl HF (fun _ _ _ h => h) (.inl ⟨by rfl, ?_⟩) (by first | assumption | rfl) ?_
              rotate_left
              · intro w hS; try subst hS
                go_simp; try with_reducible rfl
              try simp only [Act.put, List.setIfInBounds_toArray, List.set_cons_zero, List.set_cons_succ]
              refine AnyH.floatL [0, 3, 8] 9 (fun x => match x with | 3 => [0] | _ => []) (fun x => match x with | 0 => 89 | 3 => 92 | _ => 97) (PPc wq.heap.size us ((sa, sn, sc), (c0, cn, cc))) (fun _ => false) ?fok ?dok (Nat.le_of_ble_eq_true (by kernel_rfl)) HF B0 (fun x _ v w w' h hb => PPc.mono x v w w' h hb) ?box ?step ?tail
              case fok => kernel_rfl
              case dok => kernel_rfl
              case box =>
                intro x hx hal v w h
                cases hal
              case step =>
                intro x hx vs w hS hP K hK
                simp only [List.mem_cons, List.not_mem_nil, or_false] at hx
                rcases hx with rfl | rfl | rfl
                · refine StepIn.mk rfl (by rfl) ?_
                  simp only [putL, List.foldl_nil, List.foldl_cons, Act.put, List.setIfInBounds_toArray, List.set_cons_zero, List.set_cons_succ] at hK ⊢
                  go_simp
                  exact hK _ _ (hS.alloc hS.size _) ((Below.refl _ _).alloc (Nat.le_refl _) _) ⟨_, rfl⟩ (fun h => absurd h (by decide))
                · obtain ⟨B, hB0⟩ : ∃ B, vs 0 = .slice (some ⟨B, 0, none⟩) 0 0 := hP 0 (by simp)
                  obtain ⟨v', w', hrun, hown, hg⟩ := cat_grows hS HU1.out HU2.out (by have := HVN.out; omega) (by have := HVN.out; omega) B
                  refine StepIn.mk rfl (by rfl) ?_
                  simp only [putL, List.foldl_nil, List.foldl_cons, hB0, Act.put, List.setIfInBounds_toArray, List.set_cons_zero, List.set_cons_succ] at hK ⊢
                  simp [execOp, resolve, invoke, builtin, hrun, Result.andThen, Act.eval, Oper.uponIn]
                  exact hK _ _ (hS.trans ((below_none hg).mono hS.size)) (below_none hg) (hown.mono hS.size) (fun h => absurd h (by decide))
                · refine StepIn.mk rfl (by rfl) ?_
                  simp only [putL, List.foldl_nil, List.foldl_cons, Act.put, List.setIfInBounds_toArray, List.set_cons_zero, List.set_cons_succ] at hK ⊢
                  go_simp
                  exact hK _ _ (hS.alloc hS.size _) ((Below.refl _ _).alloc (Nat.le_refl _) _) ⟨_, rfl, SlA.mono (SlA.lit (l := [((sa, sn, sc), (c0, cn, cc))]) encU_len rfl (by simp; unfold maxLen; omega)) hS.size⟩ (fun h => absurd h (by decide))
              case tail =>
                intro vs w hS hP hD
                obtain ⟨B, h0⟩ : ∃ B, vs 0 = .slice (some ⟨B, 0, none⟩) 0 0 := hP 0 (by simp)
                have h3 : SlA wq.heap.size w 104 2 encU (vs 3) us := hP 3 (by simp)
                obtain ⟨B2, h8, h8'⟩ : ∃ B, vs 8 = .slice (some ⟨B, 0, none⟩) 1 1 ∧ SlA wq.heap.size w 104 2 encU (vs 8) [((sa, sn, sc), (c0, cn, cc))] := hP 8 (by simp)
                obtain ⟨ua, uc, h3v⟩ := h3.len
                rw [h8] at h8'
                rw [h3v] at h3
                simp only [putL, List.foldl_nil, List.foldl_cons, h0, h3v, h8, Act.put, List.setIfInBounds_toArray, List.set_cons_zero, List.set_cons_succ, List.drop_succ_cons, List.drop_zero]
                have H3 := Lib.hid h3; have H8 := Lib.hid h8'; have HSw := Lib.hid hS
                clear hP hD h0 h3 h8 h8' h3v vs hS
                gi_wp2_with (
                  gi_at_builtin
                  refine wp_catIn (l2 := [((sa, sn, sc), (c0, cn, cc))]) elemU encU_len rfl _ _ rfl rfl H3.out rfl rfl H8.out encU_one (by have := HU2.out; have := HVN.out; simp; omega) HSw.out.size ?_
                  intro v5 w5 hS5 hg5 hb5
                  have hB5 : Below wq.heap.size wq w5 := HSw.out.trans hb5
                  obtain ⟨va, vd, hv5⟩ := hS5.len
                  have hlu : (us ++ [((sa, sn, sc), (c0, cn, cc))]).length = vn + 1 := by have := HU2.out; have := HVN.out; simp; omega
                  rw [hlu] at hv5
                  subst hv5
                  have q2 : BxC w5 W.heap.size ((some ⟨gv, 0, none⟩), vn, vc) := box_below hB5 HQ2.out
                  obtain ⟨w6, hw6⟩ : ∃ x, w5.setCell ⟨W.heap.size, 0, none⟩ (.slice va (vn + 1) vd) = x := ⟨_, rfl⟩
                  have hk6 := fun t ht => KeepT.setCell (nt := t) (a := ⟨W.heap.size, 0, none⟩) (v := .slice va (vn + 1) vd) q2 ht
                  rw [hw6] at hk6
                  have KB2 : Hid (BxC w6 W.heap.size (va, vn + 1, vd)) := Lib.hid (by rw [← hw6]; exact BxC.put q2 (va, vn + 1, vd))
                  have KB3 : Hid (RtC w6 (W.heap.size + 1) (m : Int) (a0, an, ac) (b0, bn, bc) (c0, cn, cc) true) := Lib.hid (by rw [← hw6]; exact (Below.heap_setCell _ _ _ _ (by simp)).trans (box_below hB5 HQ3.out))
                  have KB4 : Hid (BxC w6 (W.heap.size + 2) (none, 0, 0)) := Lib.hid (by rw [← hw6]; exact (Below.heap_setCell _ _ _ _ (by simp)).trans (box_below hB5 HQ4.out))
                  have KB5 : Hid (RtC w6 (W.heap.size + 3) 0 (none, 0, 0) (none, 0, 0) (none, 0, 0) false) := Lib.hid (by rw [← hw6]; exact (Below.heap_setCell _ _ _ _ (by simp)).trans (box_below hB5 HQ5.out))
                  have hAq := RtAt.below (RtAt.below HAw.out HBQ.out) hB5
                  have HAw6 : Hid (RtAt w6 (a0, an, ac) (b0, bn, bc) (c0, cn, cc) (⟨(m : Int), T, R, C, true⟩ : RT)) := Lib.hid ⟨hAq.1.keep (hk6 _ (by decide)), hAq.2.1.keep (hk6 _ (by decide)), hAq.2.2.keep (hk6 _ (by decide))⟩
                  have HBw6 : Hid (Below W.heap.size W w6) := Lib.hid (by
                    have h1 := Below.step HBw.out HBQ.out
                    rw [← hw6]; exact (h1.trans (hB5.mono h1.size)).setCell (p := ⟨W.heap.size, 0, none⟩) (Nat.le_refl _) _)
                  have HVw6 : Hid (VersAt w6 (.slice va (vn + 1) vd) (Vs ++ [(seenN T L0 C, C)])) := Lib.hid (versAt_snoc (SlA.keep (hS5.mono (Nat.zero_le _)) (hk6 _ (by decide))) HU2.out (fun i h h' => ⟨SlA.keep (SlA.below (HU3.out i h h').1 hB5) (hk6 _ (by decide)), SlA.keep (SlA.below (HU3.out i h h').2 hB5) (hk6 _ (by decide))⟩) ⟨SlA.keep (SlA.below HSQ.out hB5) (hk6 _ (by decide)), HAw6.out.2.2⟩)
                  obtain ⟨c2, f2⟩ := BxC.cells q2
                  simp only [slV] at c2
                  clear hS5 hg5 hb5 hB5 q2 hk6 hAq hlu)
                clear c2 f2 hw6 k20 k33
                have HBw := HBw6; have HVw := HVw6; have HAw := HAw6
                have hsub : IntKind.i64.wrap (vn : Int) = (vn : Int) := by rw [IntKind.wrap_i64]; omega
                obtain ⟨wd, hwd⟩ : ∃ x, w6.drew = x := ⟨_, rfl⟩
                have B0 : Below w6.heap.size w6 wd := by rw [← hwd]; exact (Below.refl _ _).drew
                have q2 : BxC wd W.heap.size (va, vn + 1, vd) := box_below B0 KB2.out
                have q3 : RtC wd (W.heap.size + 1) (m : Int) (a0, an, ac) (b0, bn, bc) (c0, cn, cc) true := box_below B0 KB3.out
                have q4 : BxC wd (W.heap.size + 2) (none, 0, 0) := box_below B0 KB4.out
                have q5 : RtC wd (W.heap.size + 3) 0 (none, 0, 0) (none, 0, 0) (none, 0, 0) false := box_below B0 KB5.out
                have S0 : Below (W.heap.size + 2) wd wd := Below.refl _ _
                have k20 : ∀ x, Below (W.heap.size + 2) wd x → x.cell? ⟨W.heap.size, 0, none⟩ = some (.slice va (vn + 1) vd) := fun x hx => (hx.cell (p := ⟨W.heap.size, 0, none⟩) (by simp)).trans q2.cells.1
                have k30 : ∀ x, Below (W.heap.size + 2) wd x → x.cell? ⟨W.heap.size + 1, 0, none⟩ = some (.int .i64 (m : Int)) := fun x hx => (hx.cell (p := ⟨W.heap.size + 1, 0, none⟩) (by simp)).trans q3.cells.1
                have k31 : ∀ x, Below (W.heap.size + 2) wd x → x.cell? ⟨W.heap.size + 1, 1, none⟩ = some (.slice a0 an ac) := fun x hx => (hx.cell (p := ⟨W.heap.size + 1, 1, none⟩) (by simp)).trans q3.cells.2.1
                have k32 : ∀ x, Below (W.heap.size + 2) wd x → x.cell? ⟨W.heap.size + 1, 2, none⟩ = some (.slice b0 bn bc) := fun x hx => (hx.cell (p := ⟨W.heap.size + 1, 2, none⟩) (by simp)).trans q3.cells.2.2.1
                have k33 : ∀ x, Below (W.heap.size + 2) wd x → x.cell? ⟨W.heap.size + 1, 3, none⟩ = some (.slice c0 cn cc) := fun x hx => (hx.cell (p := ⟨W.heap.size + 1, 3, none⟩) (by simp)).trans q3.cells.2.2.2.1
                have k34 : ∀ x, Below (W.heap.size + 2) wd x → x.cell? ⟨W.heap.size + 1, 4, none⟩ = some (.bool true) := fun x hx => (hx.cell (p := ⟨W.heap.size + 1, 4, none⟩) (by simp)).trans q3.cells.2.2.2.2.1
                obtain ⟨z4, zf4⟩ := q4.cells
                obtain ⟨we, hwe⟩ : ∃ x, wd.setCell ⟨W.heap.size + 2, 0, none⟩ (.slice va (vn + 1) vd) = x := ⟨_, rfl⟩
                have q5' : RtC we (W.heap.size + 3) 0 (none, 0, 0) (none, 0, 0) (none, 0, 0) false := by rw [← hwe]; exact (Below.heap_setCell _ _ _ _ (by simp)).trans q5
                obtain ⟨x0, x1, x2, x3, x4, y0, y1, y2, y3, y4⟩ := q5'.cells
                obtain ⟨wf, hwf⟩ : ∃ x, ((((we.setCell ⟨W.heap.size + 3, 0, none⟩ (.int .i64 (m : Int))).setCell ⟨W.heap.size + 3, 1, none⟩ (.slice a0 an ac)).setCell ⟨W.heap.size + 3, 2, none⟩ (.slice b0 bn bc)).setCell ⟨W.heap.size + 3, 3, none⟩ (.slice c0 cn cc)).setCell ⟨W.heap.size + 3, 4, none⟩ (.bool true) = x := ⟨_, rfl⟩
                have HFIN := Lib.hid (commit_copy (W := W) (w := wd) (wf := wf) (HBw.out.trans (B0.mono HBw.out.size)) q4 q5 (by omega) (by omega) (by omega) (va, vn + 1, vd) (a0, an, ac) (b0, bn, bc) (c0, cn, cc) (m : Int) true (by rw [← hwf, ← hwe]))
                obtain ⟨r4, -⟩ := HFIN.out.1.cells
                obtain ⟨r0, r1, r2, r3, r5, -⟩ := HFIN.out.2.1.cells
                have HVf : Hid (VersAt wf (.slice va (vn + 1) vd) (Vs ++ [(seenN T L0 C, C)])) := Lib.hid (VersAt.keep (HVw.out.below B0) (HFIN.out.2.2.2 _ (by decide) (by decide)) (HFIN.out.2.2.2 _ (by decide) (by decide)) (HFIN.out.2.2.2 _ (by decide) (by decide)))
                have HAf : Hid (RtAt wf (a0, an, ac) (b0, bn, bc) (c0, cn, cc) (⟨(m : Int), T, R, C, true⟩ : RT)) := Lib.hid (by
                  have h := RtAt.below HAw.out B0
                  exact ⟨h.1.keep (HFIN.out.2.2.2 _ (by decide) (by decide)), h.2.1.keep (HFIN.out.2.2.2 _ (by decide) (by decide)), h.2.2.keep (HFIN.out.2.2.2 _ (by decide) (by decide))⟩)
                have S1 : Below (W.heap.size + 2) wd we := by rw [← hwe]; exact (Below.refl _ _).setCell (p := ⟨W.heap.size + 2, 0, none⟩) (by simp) _
                have S2 : Below (W.heap.size + 2) wd wf := by rw [← hwf]; exact ((((S1.setCell (p := ⟨W.heap.size + 3, 0, none⟩) (by simp) _).setCell (p := ⟨W.heap.size + 3, 1, none⟩) (by simp) _).setCell (p := ⟨W.heap.size + 3, 2, none⟩) (by simp) _).setCell (p := ⟨W.heap.size + 3, 3, none⟩) (by simp) _).setCell (p := ⟨W.heap.size + 3, 4, none⟩) (by simp) _
                clear q2 q3 q4 q5 q5' B0
                go_wp2_with fail
                refine wp_region_anyH (Below (W.heap.size + 2) wd) (by kernel_rfl) ?_
                rw [hwd]
                clear hwd
                have B0 := S0
                refine AnyH.take (i := 0) (d := some 100) (v := ?_) (by kernel_rfl) rfl rfl HF (fun _ _ _ h => h) (.inl ⟨by rfl, ?_⟩) (by first | assumption | rfl) ?_
                rotate_left
                · intro w hS; try subst hS
                  go_simp; try with_reducible rfl
                try simp only [Act.put, List.setIfInBounds_toArray, List.set_cons_zero, List.set_cons_succ]
                refine AnyH.take (i := 1) (d := some 101) (v := ?_) (by kernel_rfl) rfl rfl HF (fun _ _ _ h => h) (.inl ⟨by rfl, ?_⟩) (by first | assumption | rfl) ?_
                rotate_left
                · intro w hS; try subst hS
                  go_simp; try with_reducible rfl
                try simp only [Act.put, List.setIfInBounds_toArray, List.set_cons_zero, List.set_cons_succ]
                refine AnyH.take (i := 2) (d := some 102) (v := ?_) (by kernel_rfl) rfl rfl HF (fun _ _ _ h => h) (.inl ⟨by rfl, ?_⟩) (by first | assumption | rfl) ?_
                rotate_left
                · intro w hS; try subst hS
                  go_simp; try with_reducible rfl
                try simp only [Act.put, List.setIfInBounds_toArray, List.set_cons_zero, List.set_cons_succ]
                refine AnyH.take (i := 3) (d := some 103) (v := ?_) (by kernel_rfl) rfl rfl HF (fun _ _ _ h => h) (.inl ⟨by rfl, ?_⟩) (by first | assumption | rfl) ?_
                rotate_left
                · intro w hS; try subst hS
                  go_simp; try with_reducible rfl
                try simp only [Act.put, List.setIfInBounds_toArray, List.set_cons_zero, List.set_cons_succ]
                refine AnyH.take (i := 4) (d := some 104) (v := ?_) (by kernel_rfl) rfl rfl HF (fun _ _ _ h => h) (.inl ⟨by rfl, ?_⟩) (by first | assumption | rfl) ?_
                rotate_left
                · intro w hS; try subst hS
                  go_simp; try with_reducible rfl
                try simp only [Act.put, List.setIfInBounds_toArray, List.set_cons_zero, List.set_cons_succ]
                refine AnyH.take (i := 5) (d := some 105) (v := ?_) (by kernel_rfl) rfl rfl HF (fun _ _ _ h => h) (.inl ⟨by rfl, ?_⟩) (by first | assumption | rfl) ?_
                rotate_left
                · intro w hS; try subst hS
                  go_simp; try with_reducible rfl
                try simp only [Act.put, List.setIfInBounds_toArray, List.set_cons_zero, List.set_cons_succ]
                refine AnyH.one (i := 6) (by kernel_rfl) (by kernel_rfl) rfl HF (by rfl) (fun K hK => ?_)
                go_simp
                refine hK _ _ S1 ?_
                clear hK K
                try simp only [Act.put, List.setIfInBounds_toArray, List.set_cons_zero, List.set_cons_succ]
                refine AnyH.one (i := 7) (by kernel_rfl) (by kernel_rfl) rfl HF (by rfl) (fun K hK => ?_)
                go_simp
                refine hK _ _ S2 ?_
                clear hK K
                try simp only [Act.put, List.setIfInBounds_toArray, List.set_cons_zero, List.set_cons_succ]
                refine AnyH.take (i := 8) (d := some 6) (v := ?_) (by kernel_rfl) rfl rfl HF (fun _ _ _ h => h) (.inl ⟨by rfl, ?_⟩) (by first | assumption | rfl) ?_
                rotate_left
                · intro w hS; try subst hS
                  go_simp; try with_reducible rfl
                try simp only [Act.put, List.setIfInBounds_toArray, List.set_cons_zero, List.set_cons_succ]
                refine AnyH.take (i := 9) (d := some 7) (v := ?_) (by kernel_rfl) rfl rfl HF (fun _ _ _ h => h) (.inl ⟨by rfl, ?_⟩) (by first | assumption | rfl) ?_
                rotate_left
                · intro w hS; try subst hS
                  go_simp; try with_reducible rfl
                try simp only [Act.put, List.setIfInBounds_toArray, List.set_cons_zero, List.set_cons_succ]
                refine AnyH.done (by kernel_rfl) ?_
                gi_wp2_with fail
                go_wp2_with fail
                exact bodyPost_ret (v := .tuple #[.agg #[.slice va (vn + 1) vd], rtV (m : Int) (a0, an, ac) (b0, bn, bc) (c0, cn, cc) true, .int .i64 (vn : Int), .int .i64 0]) (by simp [results, Try.results38, go_sem, r0, r1, r2, r3, r4, r5, rtV]) rfl ⟨_, _, by rw [HE.out], by rw [HE.out]; exact HVf.out, by rw [HE.out]; exact ⟨_, _, _, rfl, HAf.out⟩, HFIN.out.2.2.1⟩
end S
end Go.Proofs.Ytlfodhejpbjfcaa
namespace Go.Proofs.Ytlfodhejpbjfcaa
open Go.RowKit
namespace S
attribute [local go_sem] Oper.semAt_some
def beginR (Vs : List Ver) : RT := ⟨(Vs.length : Int) - 1, (Vs.getLast?.map Prod.fst).getD [], [], [], false⟩
set_option maxRecDepth 100000 in
set_option maxHeartbeats 4000000 in
theorem refBegin_any {W : World} {v : Value} {Vs : List Ver} (hV : VersAt W v Vs) (hvz : 0 < Vs.length) (hv1 : Vs.length ≤ 1000) :
    Calls Try.prog 35 #[.agg #[v]] W fun e w' => ∃ v', e = .returned v' ∧ RtIs w' v' (beginR Vs) ∧ Below W.heap.size W w' := by
  have HF : ∀ f, Fence.wide.fn f := fun _ => trivial
  obtain ⟨gv, vc, -, -, -, -, -, -, rfl, -, -, -, -⟩ := hV.at (i := 0) hvz
  obtain ⟨vn, hvn⟩ : ∃ k, Vs.length = k := ⟨_, rfl⟩
  have HVN := Lib.hid hvn
  simp only [hvn] at hV hvz hv1
  have HBR : Hid (beginR Vs = ⟨(vn : Int) - 1, (Vs.getLast?.map Prod.fst).getD [], [], [], false⟩) := Lib.hid (by unfold beginR; rw [hvn])
  rw [hvn]
  clear hvn
  obtain ⟨W1, hW1⟩ : ∃ w, (W.alloc (.cells #[.slice (some ⟨gv, 0, none⟩) vn vc] 35)).alloc (.cells #[.int .i64 0, .slice none 0 0, .slice none 0 0, .slice none 0 0, .bool false] 40) = w := ⟨_, rfl⟩
  have hb1 : Below W.heap.size W W1 := by rw [← hW1]; exact ((Below.refl _ W).alloc (Nat.le_refl _) _).alloc (by simp) _
  have k1 : BxC W1 W.heap.size (some ⟨gv, 0, none⟩, vn, vc) := by rw [← hW1]; exact (Below.heap_alloc _ _ _ (by simp)).trans (heap_new _ _)
  have k2 : RtC W1 (W.heap.size + 1) 0 (none, 0, 0) (none, 0, 0) (none, 0, 0) false := by rw [← hW1]; exact heap_new1 _ _ _
  have c1 : ∀ x, Below W1.heap.size W1 x → x.cell? ⟨W.heap.size, 0, none⟩ = some (.slice (some ⟨gv, 0, none⟩) vn vc) := fun x hx => (BxC.cells (box_below hx k1)).1
  have hsub : IntKind.i64.wrap ((vn : Int) - 1) = (vn : Int) - 1 := by rw [IntKind.wrap_i64]; omega
  have HV1 := Lib.hid (hV.below hb1); have HB1 := Lib.hid hb1; have K2 := Lib.hid k2
  have hfl : ∀ (x y : Value) (w : World), (Instr.field 104 (.agg #[x, y]) 0).run Try.prog w = .ok x w := fun _ _ _ => by kernel_rfl
  clear hV hb1 k1 k2
  go_enter Try.func35, Try.ntmps35
  go_wp2_with fail
  refine wp_region_anyH (Below W1.heap.size W1) (by kernel_rfl) ?_
  have B0 : Below W1.heap.size W1 W1.drew := (Below.refl _ _).drew
  refine AnyH.take (i := 0) (d := some 3) (v := ?_) (by kernel_rfl) rfl rfl HF (fun _ _ _ h => h) (.inl ⟨by rfl, ?_⟩) (by first | assumption | rfl) ?_
  rotate_left
  · intro w hS; try subst hS
    go_simp; try with_reducible rfl
  try simp only [Act.put, List.setIfInBounds_toArray, List.set_cons_zero, List.set_cons_succ]
  refine AnyH.take (i := 1) (d := some 4) (v := ?_) (by kernel_rfl) rfl rfl HF (fun _ _ _ h => h) (.inl ⟨by rfl, ?_⟩) (by first | assumption | rfl) ?_
  rotate_left
  · intro w hS; try subst hS
    go_simp; try with_reducible rfl
  try simp only [Act.put, List.setIfInBounds_toArray, List.set_cons_zero, List.set_cons_succ]
  refine AnyH.take (i := 2) (d := some 5) (v := ?_) (by kernel_rfl) rfl rfl HF (fun _ _ _ h => h) (.inl ⟨by rfl, ?_⟩) (by first | assumption | rfl) ?_
  rotate_left
  · intro w hS; try subst hS
    go_simp; try with_reducible rfl
  try simp only [Act.put, List.setIfInBounds_toArray, List.set_cons_zero, List.set_cons_succ]
  refine AnyH.take (i := 3) (d := some 6) (v := ?_) (by kernel_rfl) rfl rfl HF (fun _ _ _ h => h) (.inl ⟨by rfl, ?_⟩) (by first | assumption | rfl) ?_
  rotate_left
  · intro w hS; try subst hS
    go_simp; try with_reducible rfl
  try simp only [Act.put, List.setIfInBounds_toArray, List.set_cons_zero, List.set_cons_succ]
  refine AnyH.take (i := 4) (d := some 7) (v := ?_) (by kernel_rfl) rfl rfl HF (fun _ _ _ h => h) (.inl ⟨by rfl, ?_⟩) (by first | assumption | rfl) ?_
  rotate_left
  · intro w hS; try subst hS
    go_simp; try with_reducible rfl
  try simp only [Act.put, List.setIfInBounds_toArray, List.set_cons_zero, List.set_cons_succ]
  refine AnyH.one (i := 5) (by kernel_rfl) (by kernel_rfl) rfl HF (by rfl) (fun K hK => ?_)
  go_simp
  first | ((with_reducible refine And.intro ?hdep ?_); (case hdep => first | rfl | (intro h; cases h))) | skip
  refine callsIn_wide.2 ((refLast_any (HV1.out.below B0) (by have := HVN.out; omega) (by have := HVN.out; omega)).mono ?_)
  rintro e w3 ⟨la, ln, lc, lb, lk, ld, rfl, hVL, b3⟩
  have B3 := Below.step B0 b3
  have HVL : Hid (Prs 0 w3 (.slice la ln lc) ((Vs.getLast?.map Prod.fst).getD [])) := Lib.hid (by
    have h := hVL.1
    have e : (Vs.getLast?.map Prod.fst).getD [] = (Vs[Vs.length - 1]'(by have := HVN.out; omega)).1 := by
      rw [List.getLast?_eq_getElem?, List.getElem?_eq_getElem (by have := HVN.out; omega)]; rfl
    rw [e]; exact h)
  clear b3 hVL
  refine hK _ _ B3 ?_
  clear hK K
  try simp only [Act.put, List.setIfInBounds_toArray, List.set_cons_zero, List.set_cons_succ]
  refine AnyH.take (i := 6) (d := some 9) (v := ?_) (by kernel_rfl) rfl rfl HF (fun _ _ _ h => h) (.inl ⟨by rfl, ?_⟩) (by first | assumption | rfl) ?_
  rotate_left
  · intro w hS; try subst hS
    go_simp; try with_reducible rfl
  try simp only [Act.put, List.setIfInBounds_toArray, List.set_cons_zero, List.set_cons_succ]
  refine AnyH.take (i := 7) (d := some 10) (v := ?_) (by kernel_rfl) rfl rfl HF (fun _ _ _ h => h) (.inl ⟨by rfl, ?_⟩) (by first | assumption | rfl) ?_
  rotate_left
  · intro w hS; try subst hS
    go_simp; try with_reducible rfl
  try simp only [Act.put, List.setIfInBounds_toArray, List.set_cons_zero, List.set_cons_succ]
  refine AnyH.tailL 8 (by kernel_rfl) ?_
  simp only [List.drop_succ_cons, List.drop_zero]
  have q2 : RtC w3 (W.heap.size + 1) 0 (none, 0, 0) (none, 0, 0) (none, 0, 0) false := box_below B3 K2.out
  obtain ⟨x0, x1, x2, x3, x4, y0, y1, y2, y3, y4⟩ := q2.cells
  obtain ⟨w4, hw4⟩ : ∃ x, ((((w3.setCell ⟨W.heap.size + 1, 0, none⟩ (.int .i64 ((vn : Int) - 1))).setCell ⟨W.heap.size + 1, 1, none⟩ (.slice la ln lc)).setCell ⟨W.heap.size + 1, 2, none⟩ (.slice none 0 0)).setCell ⟨W.heap.size + 1, 3, none⟩ (.slice none 0 0)).setCell ⟨W.heap.size + 1, 4, none⟩ (.bool false) = x := ⟨_, rfl⟩
  have q4 : RtC w4 (W.heap.size + 1) ((vn : Int) - 1) (la, ln, lc) (none, 0, 0) (none, 0, 0) false := by rw [← hw4]; exact q2.all ((vn : Int) - 1) (la, ln, lc) (none, 0, 0) (none, 0, 0) false
  have hk4 := rt_keep5 (t := 49) q2 (by decide) ((vn : Int) - 1) (la, ln, lc) (none, 0, 0) (none, 0, 0) false
  simp only [slV] at hk4
  rw [hw4] at hk4
  obtain ⟨r0, r1, r2, r3, r4, -⟩ := q4.cells
  have HB4 : Hid (Below W.heap.size W w4) := Lib.hid (by
    have h := Below.step HB1.out B3
    rw [← hw4]
    exact ((((h.setCell (p := ⟨W.heap.size + 1, 0, none⟩) (by simp) _).setCell (p := ⟨W.heap.size + 1, 1, none⟩) (by simp) _).setCell (p := ⟨W.heap.size + 1, 2, none⟩) (by simp) _).setCell (p := ⟨W.heap.size + 1, 3, none⟩) (by simp) _).setCell (p := ⟨W.heap.size + 1, 4, none⟩) (by simp) _)
  have HL4 := Lib.hid (HVL.out.keep hk4)
  clear q2 q4 hk4 c1
  gi_wp2_with fail
  go_wp2_with fail
  exact bodyPost_ret (v := rtV ((vn : Int) - 1) (la, ln, lc) (none, 0, 0) (none, 0, 0) false) (by simp [results, Try.results35, go_sem, r0, r1, r2, r3, r4, rtV]) rfl ⟨_, rfl, by rw [HBR.out]; exact ⟨_, _, _, rfl, HL4.out, SlA.nil _ _ _ _ _, SlA.nil _ _ _ _ _⟩, HB4.out⟩
end S
end Go.Proofs.Ytlfodhejpbjfcaa
namespace Go.Proofs.Ytlfodhejpbjfcaa
open Go.RowKit
namespace S
attribute [local go_sem] Oper.semAt_some
def newR : List (ByteArray × Int) → Nm → Int × Nm
  | [], l => (0, l)
  | p :: ps, l => if okName p.1 then (match findR p.1 l with | none => newR ps (putR p.1 p.2 l) | some _ => (6, l)) else (13, l)
theorem rowNm_at {W : World} {v : Value} {L : List (ByteArray × Int)} (h : RowNm W v L) {i : Nat} (hi : i < L.length) :
    ∃ b cap, v = .slice (some b) L.length cap ∧ L[i].1.size ≤ 9223372036854775807 ∧ ∀ w, Below W.heap.size W w → w.cell? (b.add (i * 2)) = some (.string L[i].1) ∧ w.cell? ⟨(b.add (i * 2)).block, (b.add (i * 2)).off + 1, none⟩ = some (.int .i64 L[i].2) := by
  obtain ⟨a, cap, rfl, -, -, hs, hc⟩ := h
  obtain ⟨b, rfl, m0, m1⟩ := hc i hi
  refine ⟨b, cap, rfl, ?_, fun w hw => ⟨cell_on m0 hw, cell_on m1 hw⟩⟩
  have := hs _ (List.getElem_mem hi); unfold maxLen at this; exact this
set_option maxRecDepth 100000 in
set_option maxHeartbeats 4000000 in
theorem refNew_any {W : World} {v : Value} {L : List (ByteArray × Int)} (hL : RowNm W v L) (hl : L.length ≤ 1000) :
    Calls Try.prog 34 #[v] W fun e w' => ∃ v', e = .returned (.tuple #[.agg #[v'], .int .i64 (newR L []).1]) ∧ ((newR L []).1 = 0 → VersAt w' v' [((newR L []).2, [])]) ∧ (∃ (a : Option Addr) (n c : Nat), v' = .slice a n c) ∧ Below W.heap.size W w' := by
  have HF : ∀ f, Fence.wide.fn f := fun _ => trivial
  have H := Lib.hid hL
  obtain ⟨a, cap, rfl, hc1, hc2, -, -⟩ := hL
  unfold maxLen at hc2
  obtain ⟨R, hR⟩ : ∃ R, newR L [] = R := ⟨_, rfl⟩
  have HR := Lib.hid hR
  rw [hR]
  clear hR
  obtain ⟨W1, hW1⟩ : ∃ w, W.alloc (.cells #[.slice none 0 0] 35) = w := ⟨_, rfl⟩
  have hb1 : Below W.heap.size W W1 := by rw [← hW1]; exact (Below.refl _ W).alloc (Nat.le_refl _) _
  have k1 : BxC W1 W.heap.size (none, 0, 0) := by rw [← hW1]; exact heap_new _ _
  have HB1 := Lib.hid hb1; have K1 := Lib.hid k1
  clear hb1 k1
  go_enter Try.func34, Try.ntmps34
  go_wp2_with fail
  clear hW1
  go_loopw [4, 10] (fun u c wr => ∃ (i : Nat) (l : Nm), i ≤ L.length ∧ c = .int .i64 i ∧ Prs 0 wr u l ∧ newR (L.drop i) l = newR L [] ∧ l.length ≤ i ∧ Below W1.heap.size W1 wr) (fun _ c _ => L.length - (intOf c).toNat)
  case atStart => exact ⟨0, [], Nat.zero_le _, rfl, SlA.nil _ _ _ _ _, rfl, by simp, Below.refl _ _⟩
  case round =>
    obtain ⟨i, l, hi, rfl, hP, hN, hz, hB⟩ := hrel
    have HP := Lib.hid hP; have HN0 := Lib.hid hN; have HB := Lib.hid hB
    clear hP hN hB
    obtain ⟨⟨sa, sn, sc⟩, hsv, -⟩ := HP.out.sl
    simp only [slV] at hsv
    subst hsv
    by_cases hlt : i < L.length
    · have hi3 : (i : Int) < (L.length : Int) := by omega
      have hi4 : (0 : Int) ≤ (i : Int) := by omega
      obtain ⟨b', cp, he, hps, hc⟩ := rowNm_at H.out hlt
      simp only [Value.slice.injEq] at he
      obtain ⟨rfl, -, rfl⟩ := he
      have hbw := Below.step HB1.out HB.out
      obtain ⟨m0, m1⟩ := hc wr hbw
      have hdr : L.drop i = L[i] :: L.drop (i + 1) := List.drop_eq_getElem_cons hlt
      have HC : Hid (∀ w, Below wr.heap.size wr w → w.cell? (b'.add (i * 2)) = some (.string L[i].1) ∧ w.cell? ⟨(b'.add (i * 2)).block, (b'.add (i * 2)).off + 1, none⟩ = some (.int .i64 L[i].2)) := Lib.hid (fun w hw => hc w (Below.step hbw hw))
      have HN := Lib.hid (show newR (L[i] :: L.drop (i + 1)) l = newR L [] by rw [← hdr]; exact HN0.out)
      clear hc hdr hbw
      generalize L[i] = p at *
      obtain ⟨s, x⟩ := p
      dsimp only at m0 m1 hps
      have HV := Lib.hid (refValid_any wr s hps)
      have HZ := Lib.hid hz
      have KR := Lib.hid (show BxC wr W.heap.size (none, 0, 0) from box_below HB.out K1.out)
      clear hz
      by_cases hk : 1 ≤ s.size ∧ s.size ≤ 32
      · have hd : decide (1 ≤ s.size ∧ s.size ≤ 32) = true := decide_eq_true hk
        have HF1 := Lib.hid (refFind_any s HP.out (by have := HZ.out; omega))
        cases hf : findR s l with
        | some q =>
          have HE : Hid (R = (6, l)) := Lib.hid (by rw [← HR.out, ← HN.out]; simp only [newR]; rw [if_pos (show okName s from hk), hf])
          rw [hf] at HF1
          obtain ⟨k0, kf⟩ := KR.out.cells
          simp only [slV] at k0
          obtain ⟨w2, hw2⟩ : ∃ y, wr.setCell ⟨W.heap.size, 0, none⟩ (.slice none 0 0) = y := ⟨_, rfl⟩
          have hk2 : BxC w2 W.heap.size (none, 0, 0) := by rw [← hw2]; exact KR.out.put (none, 0, 0)
          obtain ⟨r0, -⟩ := hk2.cells
          have HB2 : Hid (Below W.heap.size W w2) := Lib.hid (by rw [← hw2]; exact (Below.step HB1.out HB.out).setCell (p := ⟨W.heap.size, 0, none⟩) (Nat.le_refl _) _)
          clear hk2 hf hk
          go_wp2_with fail
          refine HV.out.mono ?_; rintro e w ⟨rfl, h⟩; rw [h, hd]; clear h w hd
          go_wp2_with fail
          refine HF1.out.mono ?_; rintro e w ⟨rfl, h⟩; rw [h]; clear h w
          simp only [findV]
          go_wp2_with fail
          exact bodyPost_ret (v := .tuple #[.agg #[.slice none 0 0], .int .i64 6]) (by simp [results, Try.results34, go_sem, r0]) rfl ⟨_, by rw [HE.out], by rw [HE.out]; intro h; exact absurd h (by simp), ⟨_, _, _, rfl⟩, HB2.out⟩
        | none =>
          have HE : Hid (newR (L.drop (i + 1)) (putR s x l) = newR L []) := Lib.hid (by rw [← HN.out]; simp only [newR]; rw [if_pos (show okName s from hk), hf])
          rw [hf] at HF1
          have g0 : ∀ w, Below wr.heap.size wr w → w.cell? (b'.add (i * 2)) = some (.string s) := fun w hw => (HC.out w hw).1
          have g1 : ∀ w, Below wr.heap.size wr w → w.cell? ⟨(b'.add (i * 2)).block, (b'.add (i * 2)).off + 1, none⟩ = some (.int .i64 x) := fun w hw => (HC.out w hw).2
          clear hf hk
          go_wp2_with fail
          refine HV.out.mono ?_; rintro e w ⟨rfl, h⟩; rw [h, hd]; clear h w hd
          go_wp2_with fail
          refine HF1.out.mono ?_; rintro e w ⟨rfl, h⟩; rw [h]; clear h w
          simp only [findV]
          go_wp2_with fail
          clear m0 m1
          refine wp_region_anyH (Below wr.heap.size wr) (by kernel_rfl) ?_
          have B0 : Below wr.heap.size wr wr.drew := (Below.refl _ _).drew
          refine AnyH.take (i := 0) (d := some 33) (v := ?_) (by kernel_rfl) rfl rfl HF (fun _ _ _ h => h) (.inl ⟨by rfl, ?_⟩) (by first | assumption | rfl) ?_
          rotate_left
          · intro w hS; try subst hS
            go_simp; try with_reducible rfl
          try simp only [Act.put, List.setIfInBounds_toArray, List.set_cons_zero, List.set_cons_succ]
          refine AnyH.take (i := 1) (d := some 34) (v := ?_) (by kernel_rfl) rfl rfl HF (fun _ _ _ h => h) (.inl ⟨by rfl, ?_⟩) (by first | assumption | rfl) ?_
          rotate_left
          · intro w hS; try subst hS
            go_simp; try with_reducible rfl
          try simp only [Act.put, List.setIfInBounds_toArray, List.set_cons_zero, List.set_cons_succ]
          refine AnyH.take (i := 2) (d := some 35) (v := ?_) (by kernel_rfl) rfl rfl HF (fun _ _ _ h => h) (.inl ⟨by rfl, ?_⟩) (by first | assumption | rfl) ?_
          rotate_left
          · intro w hS; try subst hS
            go_simp; try with_reducible rfl
          try simp only [Act.put, List.setIfInBounds_toArray, List.set_cons_zero, List.set_cons_succ]
          refine AnyH.take (i := 3) (d := some 36) (v := ?_) (by kernel_rfl) rfl rfl HF (fun _ _ _ h => h) (.inl ⟨by rfl, ?_⟩) (by first | assumption | rfl) ?_
          rotate_left
          · intro w hS; try subst hS
            go_simp; try with_reducible rfl
          try simp only [Act.put, List.setIfInBounds_toArray, List.set_cons_zero, List.set_cons_succ]
          refine AnyH.take (i := 4) (d := some 37) (v := ?_) (by kernel_rfl) rfl rfl HF (fun _ _ _ h => h) (.inl ⟨by rfl, ?_⟩) (by first | assumption | rfl) ?_
          rotate_left
          · intro w hS; try subst hS
            go_simp; try with_reducible rfl
          try simp only [Act.put, List.setIfInBounds_toArray, List.set_cons_zero, List.set_cons_succ]
          refine AnyH.take (i := 5) (d := some 38) (v := ?_) (by kernel_rfl) rfl rfl HF (fun _ _ _ h => h) (.inl ⟨by rfl, ?_⟩) (by first | assumption | rfl) ?_
          rotate_left
          · intro w hS; try subst hS
            go_simp; try with_reducible rfl
          try simp only [Act.put, List.setIfInBounds_toArray, List.set_cons_zero, List.set_cons_succ]
          refine AnyH.take (i := 6) (d := some 39) (v := ?_) (by kernel_rfl) rfl rfl HF (fun _ _ _ h => h) (.inl ⟨by rfl, ?_⟩) (by first | assumption | rfl) ?_
          rotate_left
          · intro w hS; try subst hS
            go_simp; try with_reducible rfl
          try simp only [Act.put, List.setIfInBounds_toArray, List.set_cons_zero, List.set_cons_succ]
          refine AnyH.take (i := 7) (d := some 40) (v := ?_) (by kernel_rfl) rfl rfl HF (fun _ _ _ h => h) (.inl ⟨by rfl, ?_⟩) (by first | assumption | rfl) ?_
          rotate_left
          · intro w hS; try subst hS
            go_simp; try with_reducible rfl
          try simp only [Act.put, List.setIfInBounds_toArray, List.set_cons_zero, List.set_cons_succ]
          refine AnyH.take (i := 8) (d := some 41) (v := ?_) (by kernel_rfl) rfl rfl HF (fun _ _ _ h => h) (.inl ⟨by rfl, ?_⟩) (by first | assumption | rfl) ?_
          rotate_left
          · intro w hS; try subst hS
            go_simp; try with_reducible rfl
          try simp only [Act.put, List.setIfInBounds_toArray, List.set_cons_zero, List.set_cons_succ]
          refine AnyH.take (i := 9) (d := some 42) (v := ?_) (by kernel_rfl) rfl rfl HF (fun _ _ _ h => h) (.inl ⟨by rfl, ?_⟩) (by first | assumption | rfl) ?_
          rotate_left
          · intro w hS; try subst hS
            go_simp; try with_reducible rfl
          try simp only [Act.put, List.setIfInBounds_toArray, List.set_cons_zero, List.set_cons_succ]
          refine AnyH.take (i := 10) (d := some 43) (v := ?_) (by kernel_rfl) rfl rfl HF (fun _ _ _ h => h) (.inl ⟨by rfl, ?_⟩) (by first | assumption | rfl) ?_
          rotate_left
          · intro w hS; try subst hS
            go_simp; try with_reducible rfl
          try simp only [Act.put, List.setIfInBounds_toArray, List.set_cons_zero, List.set_cons_succ]
          refine AnyH.one (i := 11) (by kernel_rfl) (by kernel_rfl) rfl HF (by rfl) (fun K hK => ?_)
          go_simp
          first | ((with_reducible refine And.intro ?hdep ?_); (case hdep => first | rfl | (intro h; cases h))) | skip
          refine callsIn_wide.2 ((refPut_any s x (HP.out.below B0) (by have := HZ.out; omega)).mono ?_)
          rintro e w5 ⟨v5, rfl, hP5, b5⟩
          have B5 := Below.step B0 b5
          have HP5 := Lib.hid hP5
          clear b5 hP5
          refine hK _ _ B5 ?_
          clear hK K
          try simp only [Act.put, List.setIfInBounds_toArray, List.set_cons_zero, List.set_cons_succ]
          refine AnyH.take (i := 12) (d := some 4) (v := ?_) (by kernel_rfl) rfl rfl HF (fun _ _ _ h => h) (.inl ⟨by rfl, ?_⟩) (by first | assumption | rfl) ?_
          rotate_left
          · intro w hS; try subst hS
            go_simp; try with_reducible rfl
          try simp only [Act.put, List.setIfInBounds_toArray, List.set_cons_zero, List.set_cons_succ]
          refine AnyH.done (by kernel_rfl) ?_
          have HB5 := Lib.hid (Below.step HB.out B5)
          clear B0 B5 g0 g1
          go_wp2_with fail
          go_roundw
          case rel => exact ⟨i + 1, _, by omega, by go_num, HP5.out, HE.out, by have h1 := putR_len s x l; have h2 := HZ.out; omega, HB5.out⟩
          case measure => simp [intOf]; omega
      · have hd : decide (1 ≤ s.size ∧ s.size ≤ 32) = false := decide_eq_false hk
        have HE : Hid (R = (13, l)) := Lib.hid (by rw [← HR.out, ← HN.out]; simp only [newR]; rw [if_neg (show ¬ okName s from hk)])
        obtain ⟨k0, kf⟩ := KR.out.cells
        simp only [slV] at k0
        obtain ⟨w2, hw2⟩ : ∃ y, wr.setCell ⟨W.heap.size, 0, none⟩ (.slice none 0 0) = y := ⟨_, rfl⟩
        have hk2 : BxC w2 W.heap.size (none, 0, 0) := by rw [← hw2]; exact KR.out.put (none, 0, 0)
        obtain ⟨r0, -⟩ := hk2.cells
        have HB2 : Hid (Below W.heap.size W w2) := Lib.hid (by rw [← hw2]; exact (Below.step HB1.out HB.out).setCell (p := ⟨W.heap.size, 0, none⟩) (Nat.le_refl _) _)
        clear hk2 hk
        go_wp2_with fail
        refine HV.out.mono ?_; rintro e w ⟨rfl, h⟩; rw [h, hd]; clear h w hd
        go_wp2_with fail
        exact bodyPost_ret (v := .tuple #[.agg #[.slice none 0 0], .int .i64 13]) (by simp [results, Try.results34, go_sem, r0]) rfl ⟨_, by rw [HE.out], by rw [HE.out]; intro h; exact absurd h (by simp), ⟨_, _, _, rfl⟩, HB2.out⟩
    · have hiL : L.length = i := by omega
      have hi3 : ¬ (i : Int) < (L.length : Int) := by omega
      have HE : Hid (R = (0, l)) := Lib.hid (by rw [← HR.out, ← HN0.out, ← hiL, List.drop_length]; rfl)
      obtain ⟨wb, hwb⟩ : ∃ y, wr.alloc (.cells #[.slice sa sn sc, .slice none 0 0] 104) = y := ⟨_, rfl⟩
      have hbb : Below wr.heap.size wr wb := by rw [← hwb]; exact (Below.refl _ _).alloc (Nat.le_refl _) _
      have hS : Vrs 0 wb (.slice (some ⟨wr.heap.size, 0, none⟩) 1 1) [((sa, sn, sc), (none, 0, 0))] := by rw [← hwb]; exact SlA.mono (SlA.lit (l := [((sa, sn, sc), (none, 0, 0))]) encU_len rfl (by simp; unfold maxLen; omega)) (Nat.zero_le _)
      have KR : BxC wb W.heap.size (none, 0, 0) := box_below hbb (box_below HB.out K1.out)
      obtain ⟨k0, kf⟩ := KR.cells
      simp only [slV] at k0
      obtain ⟨w2, hw2⟩ : ∃ y, wb.setCell ⟨W.heap.size, 0, none⟩ (.slice (some ⟨wr.heap.size, 0, none⟩) 1 1) = y := ⟨_, rfl⟩
      have hk2 : BxC w2 W.heap.size (some ⟨wr.heap.size, 0, none⟩, 1, 1) := by rw [← hw2]; exact KR.put (some ⟨wr.heap.size, 0, none⟩, 1, 1)
      obtain ⟨r0, -⟩ := hk2.cells
      have hkt := fun t ht => KeepT.setCell (nt := t) (a := ⟨W.heap.size, 0, none⟩) (v := .slice (some ⟨wr.heap.size, 0, none⟩) 1 1) KR ht
      rw [hw2] at hkt
      have HB2 : Hid (Below W.heap.size W w2) := Lib.hid (by rw [← hw2]; exact (Below.step HB1.out (Below.step HB.out hbb)).setCell (p := ⟨W.heap.size, 0, none⟩) (Nat.le_refl _) _)
      have HVV : Hid (VersAt w2 (.slice (some ⟨wr.heap.size, 0, none⟩) 1 1) [(l, [])]) := Lib.hid (by
        refine versAt_snoc (us := []) (Vs := []) (hS.keep (hkt _ (by decide))) rfl (fun i h => by simp at h) ⟨(HP.out.below hbb).keep (hkt _ (by decide)), SlA.nil _ _ _ _ _⟩)
      clear hS KR hk2 hkt hbb hz
      go_wp2_with fail
      exact bodyPost_ret (v := .tuple #[.agg #[.slice (some ⟨wr.heap.size, 0, none⟩) 1 1], .int .i64 0]) (by simp [results, Try.results34, go_sem, r0]) rfl ⟨_, by rw [HE.out], by rw [HE.out]; intro _; exact HVV.out, ⟨_, _, _, rfl⟩, HB2.out⟩
end S
end Go.Proofs.Ytlfodhejpbjfcaa
