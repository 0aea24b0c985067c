/- The law's small and made: changes laid into a store. -/
import Derived.Test.YtplccefjljdjnaaDep
import Derived.Test.YtplccefjljdjnaaDepP
import Derived.Test.YtplccefjljdjnaaPatch3
import Derived.Test.YtplccefjljdjnaaRunApp
import Derived.Test.YtplccefjljdjnaaTail
import Derived.Lib.ConvBytes
namespace Go.Proofs.Ytplccefjljdjnaa
open Go.RowKit Go.Lib
namespace M
attribute [local go_sem] Oper.semAt_some
/-- Letters in a block, from an offset on. -/
def ByV (W : World) (g o : Nat) (l : List Nat) : Prop := ∃ (cs : Array Value) (fz : Nat × Nat), W.heap[g]? = some (.cells cs 5 fz) ∧ ∀ (i x : Nat), l[i]? = some x → cs[o + i]? = some (.int .u8 x)
theorem ByV.kt {A B : World} {g o : Nat} {l : List Nat} (h : ByV A g o l) (hk : Kt A B) : ByV B g o l := by
  obtain ⟨cs, fz, h1, h2⟩ := h
  exact ⟨cs, fz, hk _ (by decide) (by decide) _ _ _ h1, h2⟩
theorem ByV.below {A B : World} {g o : Nat} {l : List Nat} (h : ByV A g o l) (hb : Below A.heap.size A B) : ByV B g o l := by
  obtain ⟨cs, fz, h1, h2⟩ := h
  exact ⟨cs, fz, below_block hb h1, h2⟩
theorem ByV.cell {W : World} {g o : Nat} {l : List Nat} (h : ByV W g o l) {i x : Nat} (hi : l[i]? = some x) : W.cell? ⟨g, o + i, none⟩ = some (.int .u8 x) := by
  obtain ⟨cs, fz, h1, h2⟩ := h
  simp [World.cell?, h1, h2 i x hi]
theorem ByV.take {W : World} {g o : Nat} {l : List Nat} (h : ByV W g o l) (k : Nat) : ByV W g o (l.take k) := by
  obtain ⟨cs, fz, h1, h2⟩ := h
  refine ⟨cs, fz, h1, fun i x hi => h2 i x ?_⟩
  by_cases hk : i < k
  · rwa [List.getElem?_take, if_pos hk] at hi
  · rw [List.getElem?_take, if_neg hk] at hi; cases hi
theorem ByV.drop {W : World} {g o : Nat} {l : List Nat} (h : ByV W g o l) (k : Nat) : ByV W g (o + k) (l.drop k) := by
  obtain ⟨cs, fz, h1, h2⟩ := h
  refine ⟨cs, fz, h1, fun i x hi => ?_⟩
  rw [List.getElem?_drop] at hi
  have := h2 (k + i) x hi
  rwa [show o + (k + i) = o + k + i by omega] at this
theorem errV_zero : errV 0 = .nilIface := rfl
/-- What a balanced text leaves. -/
def BtP (n0 B most : Nat) (E : List En) (W : World) (l : List Nat) (e : Ending) (w' : World) : Prop := ∃ E' id, e = .returned (.tuple #[.int .i64 (id : Nat), .nilIface]) ∧ StAt n0 w' B most E' ∧ WfD E' ∧ Ext E E' ∧ E'.length + 1 ≤ E.length + 2 * l.length ∧ Bal E' id l (clg l.length) ∧ Below n0 W w' ∧ Kt W w'
set_option maxRecDepth 100000 in
set_option maxHeartbeats 4000000 in
theorem btext_any : ∀ (m : Nat) (l : List Nat), l.length = m → 0 < m → ∀ {n0 B most g o cap : Nat} {W : World} {E : List En}, StAt n0 W B most E → WfD E → ByV W g o l → m ≤ cap → cap ≤ maxLen → o + cap ≤ maxLen → (∀ b ∈ l, b < 256) → E.length + 2 * m ≤ most → E.length + 2 * m ≤ 1048575 →
    Calls Try.prog 57 #[.pointer (some ⟨B, 0, none⟩), .slice (some ⟨g, o, none⟩) m cap] W (BtP n0 B most E W l) := by
  intro m
  induction m using Nat.strongRecOn with
  | _ m ih =>
  intro l hlm hm0 n0 B most g o cap W E hs hwf hv hcap hcm hoc hb hmost hE
  unfold maxLen at hcm hoc
  have HF : ∀ f, Fence.wide.fn f := fun _ => trivial
  by_cases h1 : m = 1
  · subst h1
    obtain ⟨b, rfl⟩ : ∃ b, l = [b] := by
      match l, hlm with
      | [b], _ => exact ⟨b, rfl⟩
    have hb1 : b < 256 := hb b (by simp)
    have c0 := hv.cell (i := 0) (x := b) rfl
    rw [Nat.add_zero] at c0
    have HLT := Lib.hid (letter_any hs b hb1 (by omega) (by omega))
    have HBL := Lib.hid (let_bal hwf hb1)
    clear hs hwf hv ih hb hmost hE hlm hcap
    go_enter Try.func57, Try.ntmps57
    go_wp2_with fail
    refine HLT.out.mono ?_; rintro e w1 ⟨rfl, s1, b1, kt1⟩
    have HS1 := Lib.hid s1; have HB1 := Lib.hid b1; have HK1 := Lib.hid kt1
    clear s1 b1 kt1
    go_wp2_with fail
    go_ret2
    obtain ⟨a1, a2, a3, a4⟩ := HBL.out
    exact ⟨_, _, rfl, HS1.out, a1, a2, by simp only [List.length_singleton]; omega, by rw [clg_one (by simp)]; exact a4, HB1.out, HK1.out⟩
  · obtain ⟨h, hh⟩ : ∃ h, m / 2 = h := ⟨_, rfl⟩
    have hmb : ((m : Int) == 1) = false := by simp; omega
    have htq : Int.tdiv (m : Int) 2 = ((m / 2 : Nat) : Int) := rfl
    rw [hh] at htq
    have hwq : IntKind.i64.wrap (h : Int) = (h : Int) := by rw [IntKind.wrap_i64]; omega
    have hl1 : (l.take h).length = h := by rw [List.length_take]; omega
    have hl2 : (l.drop h).length = m - h := by rw [List.length_drop]; omega
    have HI1 := Lib.hid (ih h (by omega) (l.take h) hl1 (by omega) (cap := cap) hs hwf (hv.take h) (by omega) (by unfold maxLen; omega) (by unfold maxLen; omega) (fun b hbb => hb b (List.mem_of_mem_take hbb)) (by omega) (by omega))
    have HI2 : Hid (∀ (w : World) (E1 : List En), StAt n0 w B most E1 → WfD E1 → ByV w g (o + h) (l.drop h) → E1.length + 1 ≤ E.length + 2 * h → Calls Try.prog 57 #[.pointer (some ⟨B, 0, none⟩), .slice (some ⟨g, o + h, none⟩) (m - h) (cap - h)] w (BtP n0 B most E1 w (l.drop h))) := Lib.hid (fun w E1 q1 q2 q3 q4 => ih (m - h) (by omega) (l.drop h) hl2 (by omega) q1 q2 q3 (by omega) (by unfold maxLen; omega) (by unfold maxLen; omega) (fun b hbb => hb b (List.mem_of_mem_drop hbb)) (by omega) (by omega))
    have HV := Lib.hid (hv.drop h)
    have HM := Lib.hid (And.intro hmost hE)
    have HL := Lib.hid (And.intro hl1 hl2); have HLM := Lib.hid hlm; have HHM : Hid (0 < h ∧ h < m ∧ m - h ≤ h + 1 ∧ m - m / 2 = m - h) := Lib.hid ⟨by omega, by omega, by omega, by omega⟩
    have hhm : (h : Int) ≤ (cap : Int) := by omega
    have hhm2 : (h : Int) ≤ (m : Int) := by omega
    have hh0 : (0 : Int) ≤ (h : Int) := by omega
    have hhm3 : h ≤ cap := by omega
    have hhm4 : h ≤ m := by omega
    have hhm5 : ¬ cap = h := by omega
    clear hs hwf hv ih hb hmost hE hlm hl1 hl2 hh hcap hcm hoc
    go_enter Try.func57, Try.ntmps57
    go_wp2_with fail
    refine HI1.out.mono ?_
    rintro e w1 ⟨E1, i1, rfl, s1, f1, x1, n1, bl1, b1, kt1⟩
    have HS1 := Lib.hid s1; have HF1 := Lib.hid f1; have HX1 := Lib.hid x1; have HN1 := Lib.hid n1; have HBL1 := Lib.hid bl1; have HB1 := Lib.hid b1; have HK1 := Lib.hid kt1
    rw [HL.out.1] at HN1 HBL1
    clear s1 f1 x1 n1 bl1 b1 kt1 HI1
    have HC2 := Lib.hid (HI2.out w1 E1 HS1.out HF1.out (HV.out.kt HK1.out) HN1.out)
    clear HI2
    go_wp2_with fail
    refine HC2.out.mono ?_
    rintro e w2 ⟨E2, i2, rfl, s2, f2, x2, n2, bl2, b2, kt2⟩
    rw [HL.out.2] at n2 bl2
    have HS2 := Lib.hid s2; have HF2 := Lib.hid f2; have HX2 := Lib.hid x2; have HN2 := Lib.hid n2; have HBL2 := Lib.hid bl2; have HB2 := Lib.hid (HB1.out.trans b2); have HK2 := Lib.hid (HK1.out.trans kt2)
    clear s2 f2 x2 n2 bl2 b2 kt2 HC2
    have hln : E2.length + 2 ≤ E.length + 2 * m := by have h1 := HN1.out; have h2 := HN2.out; have := HHM.out; omega
    have HPB := Lib.hid (pair_bal HF2.out (HBL1.out.ext HX2.out) HBL2.out (by
      have h1 := clg_mono (m - h) h (by have := HHM.out; omega)
      have h2 := clg_mono (h + 1) (m - h) (by have := HHM.out; omega)
      have h3 := clg_near h
      omega) (by rw [HL.out.1, HL.out.2]; have := HM.out.2; omega))
    have HPR := Lib.hid (pair_any HS2.out HF2.out.wf (Nat.le_trans HBL1.out.le HX2.out.le) HBL2.out.le (by have := HM.out.1; omega) (by have := HM.out.2; omega))
    rw [HPB.out.1, errV_zero] at HPR
    have HLN := Lib.hid hln
    clear hln
    go_wp2_with fail
    refine HPR.out.mono ?_
    rintro e w3 ⟨rfl, s3, b3, kt3⟩
    obtain ⟨-, a1, a2, a3, a4⟩ := HPB.out
    have HZ : Hid (BtP n0 B most E W l (.returned (.tuple #[.int .i64 (pairF E2 i1 i2).2.1, .nilIface])) w3) := Lib.hid ⟨_, _, rfl, s3, a1, HX1.out.trans (HX2.out.trans a2), by have := HLN.out; rw [HLM.out]; omega, by
      rw [List.take_append_drop] at a4
      have e1 : clg l.length = 1 + max (clg h) (clg (m - h)) := by
        rw [HLM.out, clg_step (by have := HHM.out; omega), HHM.out.2.2.2, Nat.max_eq_right (clg_mono (m - h) h (by have := HHM.out; omega))]
      rw [e1]; exact a4, HB2.out.trans b3, HK2.out.trans kt3⟩
    clear s3 b3 kt3 a1 a2 a3 a4 HPB HPR
    go_wp2_with fail
    go_ret2
    exact HZ.out
end M
end Go.Proofs.Ytplccefjljdjnaa
namespace Go.Proofs.Ytplccefjljdjnaa
open Go.RowKit Go.Lib
namespace M
attribute [local go_sem] Oper.semAt_some
/-- A change with its letters. -/
structure Spc where
  pos : Int
  n : Int
  text : ByteArray
/-- Its letters. -/
def bts (s : ByteArray) : List Nat := s.data.toList.map (·.toNat)
theorem bts_length (s : ByteArray) : (bts s).length = s.size := by simp [bts]
theorem bts_small (s : ByteArray) : ∀ b ∈ bts s, b < 256 := by
  intro b hb
  obtain ⟨x, -, rfl⟩ := List.mem_map.1 hb
  exact x.toNat_lt
/-- Three cells of a change from an address on. -/
def SpAt (W : World) (b : Addr) (s : Spc) : Prop := W.cell? b = some (.int .i64 s.pos) ∧ W.cell? ⟨b.block, b.off + 1, none⟩ = some (.int .i64 s.n) ∧ W.cell? ⟨b.block, b.off + 2, none⟩ = some (.string s.text)
theorem cell_on2 {A C : World} {a : Addr} {v : Value} (h : A.cell? a = some v) (hb : Below A.heap.size A C) : C.cell? a = some v := by
  have h2 := h
  unfold World.cell? at h ⊢
  cases hh : A.heap[a.block]? with
  | none => rw [hh] at h; cases h
  | some o =>
    rw [hb.block a.block (Array.getElem?_eq_some_iff.1 hh).1]
    exact h
/-- The changes of an argument, wherever they lie. -/
def RowSp (W : World) (v : Value) (S : List Spc) : Prop :=
  ∃ a cap, v = .slice a S.length cap ∧ S.length ≤ cap ∧ cap ≤ maxLen ∧ (∀ (i : Nat) (h : i < S.length), ∃ b, a = some b ∧ b.block < W.heap.size ∧ SpAt W (b.add (i * 3)) S[i])
theorem add_block (b : Addr) (k : Nat) : (b.add k).block = b.block := by unfold Addr.add; split <;> rfl
theorem SpAt.keep {A C : World} {b : Addr} {s : Spc} (h : SpAt A b s) (hb : C.heap[b.block]? = A.heap[b.block]?) : SpAt C b s := by
  obtain ⟨h1, h2, h3⟩ := h
  refine ⟨?_, ?_, ?_⟩
  · unfold World.cell? at *; rw [hb]; exact h1
  · unfold World.cell? at *; dsimp only at *; rw [hb]; exact h2
  · unfold World.cell? at *; dsimp only at *; rw [hb]; exact h3
theorem RowSp.under {A C : World} {v : Value} {S : List Spc} {n : Nat} (h : RowSp A v S) (hb : Below n A C) (hn : A.heap.size ≤ n) : RowSp C v S := by
  obtain ⟨a, cap, rfl, h1, h2, h⟩ := h
  exact ⟨a, cap, rfl, h1, h2, fun i hi => (h i hi).imp fun b hh => ⟨hh.1, Nat.lt_of_lt_of_le hh.2.1 hb.size, hh.2.2.keep (by rw [add_block]; exact hb.block _ (Nat.lt_of_lt_of_le hh.2.1 hn))⟩⟩
theorem RowSp.below {A C : World} {v : Value} {S : List Spc} (h : RowSp A v S) (hb : Below A.heap.size A C) : RowSp C v S := h.under hb (Nat.le_refl _)
def smallF (S : List Spc) : Bool := S.all (fun s => decide (s.text.size ≤ 40)) && decide (S.length ≤ 12)
set_option maxRecDepth 100000 in
set_option maxHeartbeats 1000000 in
theorem small_any {W : World} {v : Value} {S : List Spc} (hS : RowSp W v S) : Calls Try.prog 14 #[v] W fun e w' => e = .returned (.bool (smallF S)) ∧ w' = W := by
  have H := Lib.hid hS
  obtain ⟨va, vc, rfl, -, hcm, -⟩ := hS
  unfold maxLen at hcm
  go_enter Try.func14, Try.ntmps14
  go_wp2_with fail
  go_loopw [3] (fun iv wr => ∃ i : Nat, iv = .int .i64 i ∧ i ≤ S.length ∧ (∀ k (h : k < S.length), k < i → S[k].text.size ≤ 40) ∧ wr = W) (fun iv _ => S.length - (intOf iv).toNat)
  case atStart => exact ⟨0, rfl, Nat.zero_le _, fun k h hk => by omega, rfl⟩
  case round =>
    obtain ⟨i, rfl, hi, hall, rfl⟩ := hrel
    have HALL := Lib.hid hall
    clear hall
    by_cases hlt : i < S.length
    · have hlt2 : (i : Int) < (S.length : Int) := by omega
      have hlt3 : (0 : Int) ≤ (i : Int) := by omega
      obtain ⟨a', cap', ha', hs1, hs2, hSi⟩ := H.out
      simp only [Value.slice.injEq] at ha'
      obtain ⟨rfl, -, rfl⟩ := ha'
      obtain ⟨b, rfl, -, q0, q1, q2⟩ := hSi i hlt
      have hsl : i + 1 ≤ 9223372036854775807 := by unfold maxLen at hs2; omega
      by_cases h40 : S[i].text.size ≤ 40
      · have h41 : ¬ (S[i].text.size : Int) > 40 := by omega
        have h42 : ¬ 40 < S[i].text.size := by omega
        have HX : Hid (∀ k (h : k < S.length), k < i + 1 → S[k].text.size ≤ 40) := Lib.hid (fun k h hk => by
          rcases Nat.lt_or_ge k i with g | g
          · exact HALL.out k h g
          · obtain rfl : k = i := by omega
            exact h40)
        generalize S[i].text = s at *
        clear hSi q0 q1
        go_wp2_with fail
        go_roundw
        case rel => exact ⟨i + 1, by go_num, by omega, HX.out, by first | rfl | trivial⟩
        case measure => first | (simp [intOf]; omega) | simp [intOf]
      · have h41 : (S[i].text.size : Int) > 40 := by omega
        have h42 : 40 < S[i].text.size := by omega
        have HE : Hid (smallF S = false) := Lib.hid (by
          unfold smallF
          rw [Bool.and_eq_false_iff]
          left
          rw [List.all_eq_false]
          exact ⟨S[i], List.getElem_mem hlt, by simp; omega⟩)
        generalize S[i].text = s at *
        clear hSi q0 q1 h40
        go_wp2_with fail
        go_ret
        exact ⟨by rw [HE.out]; rfl, rfl⟩
    · have hlt2 : ¬ (i : Int) < (S.length : Int) := by omega
      have HE : Hid (smallF S = decide (S.length ≤ 12)) := Lib.hid (by
        unfold smallF
        have : S.all (fun s => decide (s.text.size ≤ 40)) = true := List.all_eq_true.2 fun s hs => by
          obtain ⟨k, hk, rfl⟩ := List.mem_iff_getElem.1 hs
          have := HALL.out k hk (by omega)
          simpa using this
        rw [this]; rfl)
      by_cases h12 : S.length ≤ 12
      · have h13 : (S.length : Int) ≤ 12 := by omega
        have h14 : decide (S.length ≤ 12) = true := by simp [h12]
        go_wp2_with fail
        go_ret
        exact ⟨by rw [HE.out, h14]; rfl, rfl⟩
      · have h13 : ¬ (S.length : Int) ≤ 12 := by omega
        have h14 : decide (S.length ≤ 12) = false := by simp; omega
        go_wp2_with fail
        go_ret
        exact ⟨by rw [HE.out, h14]; rfl, rfl⟩
/-- balance.Text's answer: a balanced ID, or 0 for no letters. -/
def TxP (n0 B most : Nat) (E : List En) (W : World) (l : List Nat) (e : Ending) (w' : World) : Prop := ∃ E' id, e = .returned (.tuple #[.int .i64 (id : Nat), .nilIface]) ∧ StAt n0 w' B most E' ∧ WfD E' ∧ Ext E E' ∧ E'.length ≤ E.length + 2 * l.length ∧ id ≤ E'.length ∧ (id = 0 ↔ l = []) ∧ txt E' id = l ∧ (entAt E' id).even = true ∧ Below n0 W w' ∧ Kt W w'
set_option maxRecDepth 100000 in
set_option maxHeartbeats 1000000 in
theorem btxt_any {n0 B most g cap : Nat} {W : World} {E : List En} (hs : StAt n0 W B most E) (hwf : WfD E) {l : List Nat} {m : Nat} (hm : l.length = m) (hv : ByV W g 0 l) (hcap : m ≤ cap) (hcm : cap ≤ maxLen) (hl : m ≤ 65536) (hb : ∀ b ∈ l, b < 256) (hmost : E.length + 2 * m ≤ most) (hE : E.length + 2 * m ≤ 1048575) :
    Calls Try.prog 35 #[.pointer (some ⟨B, 0, none⟩), .slice (some ⟨g, 0, none⟩) m cap] W (TxP n0 B most E W l) := by
  have h1 : ¬ (m : Int) > 65536 := by omega
  by_cases h0 : m = 0
  · have h0b : ((m : Int) == 0) = true := by simp [h0]
    have HZ : Hid (TxP n0 B most E W l (.returned (.tuple #[.int .i64 0, .nilIface])) W) := Lib.hid ⟨E, 0, rfl, hs, hwf, Ext.refl _, by omega, Nat.zero_le _, by simp [List.eq_nil_of_length_eq_zero (hm.trans h0)], by rw [txt_zero, List.eq_nil_of_length_eq_zero (hm.trans h0)], rfl, Below.refl _ _, Kt.of (Below.refl _ _)⟩
    clear hs hwf hv hcap hb hmost hE h0 hm
    go_enter Try.func35, Try.ntmps35
    go_wp2_with fail
    go_ret2
    exact HZ.out
  · have h0b : ((m : Int) == 0) = false := by simp; omega
    have HT := Lib.hid (btext_any m l hm (by omega) hs hwf hv hcap hcm (by omega) hb hmost hE)
    have HM := Lib.hid (And.intro hm h0)
    clear hs hwf hv hcap hb hmost hE h0 hm
    go_enter Try.func35, Try.ntmps35
    go_wp2_with fail
    refine HT.out.mono ?_
    rintro e w2 ⟨E2, i2, rfl, s2, f2, x2, n2, bl2, b2, kt2⟩
    have HZ : Hid (TxP n0 B most E W l (.returned (.tuple #[.int .i64 (i2 : Nat), .nilIface])) w2) := Lib.hid ⟨E2, i2, rfl, s2, f2, x2, by omega, bl2.le, by
      constructor
      · intro h; have := bl2.pos; omega
      · intro h; have h1 := HM.out.1; have h2 := HM.out.2; rw [h] at h1; simp at h1; omega, bl2.txt, bl2.even, b2, kt2⟩
    clear s2 f2 x2 n2 bl2 b2 kt2 HT
    go_wp2_with fail
    go_ret2
    exact HZ.out
end M
end Go.Proofs.Ytplccefjljdjnaa
