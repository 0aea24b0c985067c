/- balance.text, balance.Text: a balanced ID of letters. -/
import Derived.Test.YtplccefjljdjnaaDep
import Derived.Test.YtplccefjljdjnaaPla
set_option linter.unusedVariables false
set_option linter.unusedSimpArgs false
namespace Go.Proofs.Ytplccefjljdjnaa
open Go.RowKit Go.Lib
namespace M
attribute [local go_sem] Oper.semAt_some
/-- Letters in a block, from an offset on. -/
def ByV (W : World) (g o : Nat) (l : List Nat) : Prop := ∃ (cs : Array Value) (fz : Nat × Nat), W.heap[g]? = some (.cells cs 5 fz) ∧ ∀ (i x : Nat), l[i]? = some x → cs[o + i]? = some (.int .u8 x)
theorem ByV.kt {A B : World} {g o : Nat} {l : List Nat} (h : ByV A g o l) (hk : Kt A B) : ByV B g o l := by
  obtain ⟨cs, fz, h1, h2⟩ := h
  exact ⟨cs, fz, hk _ (by decide) (by decide) _ _ _ h1, h2⟩
theorem ByV.below {A B : World} {g o : Nat} {l : List Nat} (h : ByV A g o l) (hb : Below A.heap.size A B) : ByV B g o l := by
  obtain ⟨cs, fz, h1, h2⟩ := h
  exact ⟨cs, fz, below_block hb h1, h2⟩
theorem ByV.cell {W : World} {g o : Nat} {l : List Nat} (h : ByV W g o l) {i x : Nat} (hi : l[i]? = some x) : W.cell? ⟨g, o + i, none⟩ = some (.int .u8 x) := by
  obtain ⟨cs, fz, h1, h2⟩ := h
  simp [World.cell?, h1, h2 i x hi]
theorem ByV.take {W : World} {g o : Nat} {l : List Nat} (h : ByV W g o l) (k : Nat) : ByV W g o (l.take k) := by
  obtain ⟨cs, fz, h1, h2⟩ := h
  refine ⟨cs, fz, h1, fun i x hi => h2 i x ?_⟩
  by_cases hk : i < k
  · rwa [List.getElem?_take, if_pos hk] at hi
  · rw [List.getElem?_take, if_neg hk] at hi; cases hi
theorem ByV.drop {W : World} {g o : Nat} {l : List Nat} (h : ByV W g o l) (k : Nat) : ByV W g (o + k) (l.drop k) := by
  obtain ⟨cs, fz, h1, h2⟩ := h
  refine ⟨cs, fz, h1, fun i x hi => ?_⟩
  rw [List.getElem?_drop] at hi
  have := h2 (k + i) x hi
  rwa [show o + (k + i) = o + k + i by omega] at this
theorem errV_zero : errV 0 = .nilIface := rfl
/-- What a balanced text leaves. -/
def BtP (n0 B most : Nat) (E : List En) (W : World) (l : List Nat) (e : Ending) (w' : World) : Prop := ∃ E' id, e = .returned (.tuple #[.int .i64 (id : Nat), .nilIface]) ∧ StAt n0 w' B most E' ∧ WfD E' ∧ Ext E E' ∧ E'.length + 1 ≤ E.length + 2 * l.length ∧ Bal E' id l (clg l.length) ∧ Below n0 W w' ∧ Kt W w'
set_option maxRecDepth 100000 in
set_option maxHeartbeats 4000000 in
theorem btext_any : ∀ (m : Nat) (l : List Nat), l.length = m → 0 < m → ∀ {n0 B most g o cap : Nat} {W : World} {E : List En}, StAt n0 W B most E → WfD E → ByV W g o l → m ≤ cap → cap ≤ maxLen → o + cap ≤ maxLen → (∀ b ∈ l, b < 256) → E.length + 2 * m ≤ most → E.length + 2 * m ≤ 1048575 →
    Calls Try.prog 57 #[.pointer (some ⟨B, 0, none⟩), .slice (some ⟨g, o, none⟩) m cap] W (BtP n0 B most E W l) := by
  intro m
  induction m using Nat.strongRecOn with
  | _ m ih =>
  intro l hlm hm0 n0 B most g o cap W E hs hwf hv hcap hcm hoc hb hmost hE
  unfold maxLen at hcm hoc
  have HF : ∀ f, Fence.wide.fn f := fun _ => trivial
  by_cases h1 : m = 1
  · subst h1
    obtain ⟨b, rfl⟩ : ∃ b, l = [b] := by
      match l, hlm with
      | [b], _ => exact ⟨b, rfl⟩
    have hb1 : b < 256 := hb b (by simp)
    have c0 := hv.cell (i := 0) (x := b) rfl
    rw [Nat.add_zero] at c0
    have HLT := Lib.hid (letter_any hs b hb1 (by omega) (by omega))
    have HBL := Lib.hid (let_bal hwf hb1)
    clear hs hwf hv ih hb hmost hE hlm hcap
    go_enter Try.func57, Try.ntmps57
    go_wp2_with fail
    refine HLT.out.mono ?_; rintro e w1 ⟨rfl, s1, b1, kt1⟩
    have HS1 := Lib.hid s1; have HB1 := Lib.hid b1; have HK1 := Lib.hid kt1
    clear s1 b1 kt1
    go_wp2_with fail
    go_ret2
    obtain ⟨a1, a2, a3, a4⟩ := HBL.out
    exact ⟨_, _, rfl, HS1.out, a1, a2, by simp only [List.length_singleton]; omega, by rw [clg_one (by simp)]; exact a4, HB1.out, HK1.out⟩
  · obtain ⟨h, hh⟩ : ∃ h, m / 2 = h := ⟨_, rfl⟩
    have hmb : ((m : Int) == 1) = false := by simp; omega
    have htq : Int.tdiv (m : Int) 2 = ((m / 2 : Nat) : Int) := rfl
    rw [hh] at htq
    have hwq : IntKind.i64.wrap (h : Int) = (h : Int) := by rw [IntKind.wrap_i64]; omega
    have hl1 : (l.take h).length = h := by rw [List.length_take]; omega
    have hl2 : (l.drop h).length = m - h := by rw [List.length_drop]; omega
    have HI1 := Lib.hid (ih h (by omega) (l.take h) hl1 (by omega) (cap := cap) hs hwf (hv.take h) (by omega) (by unfold maxLen; omega) (by unfold maxLen; omega) (fun b hbb => hb b (List.mem_of_mem_take hbb)) (by omega) (by omega))
    have HI2 : Hid (∀ (w : World) (E1 : List En), StAt n0 w B most E1 → WfD E1 → ByV w g (o + h) (l.drop h) → E1.length + 1 ≤ E.length + 2 * h → Calls Try.prog 57 #[.pointer (some ⟨B, 0, none⟩), .slice (some ⟨g, o + h, none⟩) (m - h) (cap - h)] w (BtP n0 B most E1 w (l.drop h))) := Lib.hid (fun w E1 q1 q2 q3 q4 => ih (m - h) (by omega) (l.drop h) hl2 (by omega) q1 q2 q3 (by omega) (by unfold maxLen; omega) (by unfold maxLen; omega) (fun b hbb => hb b (List.mem_of_mem_drop hbb)) (by omega) (by omega))
    have HV := Lib.hid (hv.drop h)
    have HM := Lib.hid (And.intro hmost hE)
    have HL := Lib.hid (And.intro hl1 hl2); have HLM := Lib.hid hlm; have HHM : Hid (0 < h ∧ h < m ∧ m - h ≤ h + 1 ∧ m - m / 2 = m - h) := Lib.hid ⟨by omega, by omega, by omega, by omega⟩
    have hhm : (h : Int) ≤ (cap : Int) := by omega
    have hhm2 : (h : Int) ≤ (m : Int) := by omega
    have hh0 : (0 : Int) ≤ (h : Int) := by omega
    have hhm3 : h ≤ cap := by omega
    have hhm4 : h ≤ m := by omega
    have hhm5 : ¬ cap = h := by omega
    clear hs hwf hv ih hb hmost hE hlm hl1 hl2 hh hcap hcm hoc
    go_enter Try.func57, Try.ntmps57
    go_wp2_with fail
    refine HI1.out.mono ?_
    rintro e w1 ⟨E1, i1, rfl, s1, f1, x1, n1, bl1, b1, kt1⟩
    have HS1 := Lib.hid s1; have HF1 := Lib.hid f1; have HX1 := Lib.hid x1; have HN1 := Lib.hid n1; have HBL1 := Lib.hid bl1; have HB1 := Lib.hid b1; have HK1 := Lib.hid kt1
    rw [HL.out.1] at HN1 HBL1
    clear s1 f1 x1 n1 bl1 b1 kt1 HI1
    have HC2 := Lib.hid (HI2.out w1 E1 HS1.out HF1.out (HV.out.kt HK1.out) HN1.out)
    clear HI2
    go_wp2_with fail
    refine HC2.out.mono ?_
    rintro e w2 ⟨E2, i2, rfl, s2, f2, x2, n2, bl2, b2, kt2⟩
    rw [HL.out.2] at n2 bl2
    have HS2 := Lib.hid s2; have HF2 := Lib.hid f2; have HX2 := Lib.hid x2; have HN2 := Lib.hid n2; have HBL2 := Lib.hid bl2; have HB2 := Lib.hid (HB1.out.trans b2); have HK2 := Lib.hid (HK1.out.trans kt2)
    clear s2 f2 x2 n2 bl2 b2 kt2 HC2
    have hln : E2.length + 2 ≤ E.length + 2 * m := by have h1 := HN1.out; have h2 := HN2.out; have := HHM.out; omega
    have HPB := Lib.hid (pair_bal HF2.out (HBL1.out.ext HX2.out) HBL2.out (by
      have h1 := clg_mono (m - h) h (by have := HHM.out; omega)
      have h2 := clg_mono (h + 1) (m - h) (by have := HHM.out; omega)
      have h3 := clg_near h
      omega) (by rw [HL.out.1, HL.out.2]; have := HM.out.2; omega))
    have HPR := Lib.hid (pair_any HS2.out HF2.out.wf (Nat.le_trans HBL1.out.le HX2.out.le) HBL2.out.le (by have := HM.out.1; omega) (by have := HM.out.2; omega))
    rw [HPB.out.1, errV_zero] at HPR
    have HLN := Lib.hid hln
    clear hln
    go_wp2_with fail
    refine HPR.out.mono ?_
    rintro e w3 ⟨rfl, s3, b3, kt3⟩
    obtain ⟨-, a1, a2, a3, a4⟩ := HPB.out
    have HZ : Hid (BtP n0 B most E W l (.returned (.tuple #[.int .i64 (pairF E2 i1 i2).2.1, .nilIface])) w3) := Lib.hid ⟨_, _, rfl, s3, a1, HX1.out.trans (HX2.out.trans a2), by have := HLN.out; rw [HLM.out]; omega, by
      rw [List.take_append_drop] at a4
      have e1 : clg l.length = 1 + max (clg h) (clg (m - h)) := by
        rw [HLM.out, clg_step (by have := HHM.out; omega), HHM.out.2.2.2, Nat.max_eq_right (clg_mono (m - h) h (by have := HHM.out; omega))]
      rw [e1]; exact a4, HB2.out.trans b3, HK2.out.trans kt3⟩
    clear s3 b3 kt3 a1 a2 a3 a4 HPB HPR
    go_wp2_with fail
    go_ret2
    exact HZ.out
end M
end Go.Proofs.Ytplccefjljdjnaa
