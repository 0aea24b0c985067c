/- The law's small and made: changes laid into a store. -/
import Derived.Test.YtplccefjljdjnaaBtext
import Derived.Test.YtplccefjljdjnaaPatch3
import Derived.Test.YtplccefjljdjnaaCom
import Derived.Lib.ConvBytes
set_option linter.unusedVariables false
set_option linter.unusedSimpArgs false
namespace Go.Proofs.Ytplccefjljdjnaa
open Go.RowKit Go.Lib
namespace M
attribute [local go_sem] Oper.semAt_some
/-- A change with its letters. -/
structure Spc where
  pos : Int
  n : Int
  text : ByteArray
/-- Its letters. -/
def bts (s : ByteArray) : List Nat := s.data.toList.map (·.toNat)
theorem bts_length (s : ByteArray) : (bts s).length = s.size := by simp [bts]
theorem bts_small (s : ByteArray) : ∀ b ∈ bts s, b < 256 := by
  intro b hb
  obtain ⟨x, -, rfl⟩ := List.mem_map.1 hb
  exact x.toNat_lt
/-- Three cells of a change from an address on. -/
def SpAt (W : World) (b : Addr) (s : Spc) : Prop := W.cell? b = some (.int .i64 s.pos) ∧ W.cell? ⟨b.block, b.off + 1, none⟩ = some (.int .i64 s.n) ∧ W.cell? ⟨b.block, b.off + 2, none⟩ = some (.string s.text)
theorem cell_on2 {A C : World} {a : Addr} {v : Value} (h : A.cell? a = some v) (hb : Below A.heap.size A C) : C.cell? a = some v := by
  have h2 := h
  unfold World.cell? at h ⊢
  cases hh : A.heap[a.block]? with
  | none => rw [hh] at h; cases h
  | some o =>
    rw [hb.block a.block (Array.getElem?_eq_some_iff.1 hh).1]
    exact h
/-- The changes of an argument, wherever they lie. -/
def RowSp (W : World) (v : Value) (S : List Spc) : Prop :=
  ∃ a cap, v = .slice a S.length cap ∧ S.length ≤ cap ∧ cap ≤ maxLen ∧ (∀ (i : Nat) (h : i < S.length), ∃ b, a = some b ∧ b.block < W.heap.size ∧ SpAt W (b.add (i * 3)) S[i])
theorem add_block (b : Addr) (k : Nat) : (b.add k).block = b.block := by unfold Addr.add; split <;> rfl
theorem SpAt.keep {A C : World} {b : Addr} {s : Spc} (h : SpAt A b s) (hb : C.heap[b.block]? = A.heap[b.block]?) : SpAt C b s := by
  obtain ⟨h1, h2, h3⟩ := h
  refine ⟨?_, ?_, ?_⟩
  · unfold World.cell? at *; rw [hb]; exact h1
  · unfold World.cell? at *; dsimp only at *; rw [hb]; exact h2
  · unfold World.cell? at *; dsimp only at *; rw [hb]; exact h3
theorem RowSp.under {A C : World} {v : Value} {S : List Spc} {n : Nat} (h : RowSp A v S) (hb : Below n A C) (hn : A.heap.size ≤ n) : RowSp C v S := by
  obtain ⟨a, cap, rfl, h1, h2, h⟩ := h
  exact ⟨a, cap, rfl, h1, h2, fun i hi => (h i hi).imp fun b hh => ⟨hh.1, Nat.lt_of_lt_of_le hh.2.1 hb.size, hh.2.2.keep (by rw [add_block]; exact hb.block _ (Nat.lt_of_lt_of_le hh.2.1 hn))⟩⟩
theorem RowSp.below {A C : World} {v : Value} {S : List Spc} (h : RowSp A v S) (hb : Below A.heap.size A C) : RowSp C v S := h.under hb (Nat.le_refl _)
def smallF (S : List Spc) : Bool := S.all (fun s => decide (s.text.size ≤ 40)) && decide (S.length ≤ 12)
set_option maxRecDepth 100000 in
set_option maxHeartbeats 1000000 in
theorem small_any {W : World} {v : Value} {S : List Spc} (hS : RowSp W v S) : Calls Try.prog 14 #[v] W fun e w' => e = .returned (.bool (smallF S)) ∧ w' = W := by
  have H := Lib.hid hS
  obtain ⟨va, vc, rfl, -, hcm, -⟩ := hS
  unfold maxLen at hcm
  go_enter Try.func14, Try.ntmps14
  go_wp2_with fail
  go_loopw [3] (fun iv wr => ∃ i : Nat, iv = .int .i64 i ∧ i ≤ S.length ∧ (∀ k (h : k < S.length), k < i → S[k].text.size ≤ 40) ∧ wr = W) (fun iv _ => S.length - (intOf iv).toNat)
  case atStart => exact ⟨0, rfl, Nat.zero_le _, fun k h hk => by omega, rfl⟩
  case round =>
    obtain ⟨i, rfl, hi, hall, rfl⟩ := hrel
    have HALL := Lib.hid hall
    clear hall
    by_cases hlt : i < S.length
    · have hlt2 : (i : Int) < (S.length : Int) := by omega
      have hlt3 : (0 : Int) ≤ (i : Int) := by omega
      obtain ⟨a', cap', ha', hs1, hs2, hSi⟩ := H.out
      simp only [Value.slice.injEq] at ha'
      obtain ⟨rfl, -, rfl⟩ := ha'
      obtain ⟨b, rfl, -, q0, q1, q2⟩ := hSi i hlt
      have hsl : i + 1 ≤ 9223372036854775807 := by unfold maxLen at hs2; omega
      by_cases h40 : S[i].text.size ≤ 40
      · have h41 : ¬ (S[i].text.size : Int) > 40 := by omega
        have h42 : ¬ 40 < S[i].text.size := by omega
        have HX : Hid (∀ k (h : k < S.length), k < i + 1 → S[k].text.size ≤ 40) := Lib.hid (fun k h hk => by
          rcases Nat.lt_or_ge k i with g | g
          · exact HALL.out k h g
          · obtain rfl : k = i := by omega
            exact h40)
        generalize S[i].text = s at *
        clear hSi q0 q1
        go_wp2_with fail
        go_roundw
        case rel => exact ⟨i + 1, by go_num, by omega, HX.out, by first | rfl | trivial⟩
        case measure => first | (simp [intOf]; omega) | simp [intOf]
      · have h41 : (S[i].text.size : Int) > 40 := by omega
        have h42 : 40 < S[i].text.size := by omega
        have HE : Hid (smallF S = false) := Lib.hid (by
          unfold smallF
          rw [Bool.and_eq_false_iff]
          left
          rw [List.all_eq_false]
          exact ⟨S[i], List.getElem_mem hlt, by simp; omega⟩)
        generalize S[i].text = s at *
        clear hSi q0 q1 h40
        go_wp2_with fail
        go_ret
        exact ⟨by rw [HE.out]; rfl, rfl⟩
    · have hlt2 : ¬ (i : Int) < (S.length : Int) := by omega
      have HE : Hid (smallF S = decide (S.length ≤ 12)) := Lib.hid (by
        unfold smallF
        have : S.all (fun s => decide (s.text.size ≤ 40)) = true := List.all_eq_true.2 fun s hs => by
          obtain ⟨k, hk, rfl⟩ := List.mem_iff_getElem.1 hs
          have := HALL.out k hk (by omega)
          simpa using this
        rw [this]; rfl)
      by_cases h12 : S.length ≤ 12
      · have h13 : (S.length : Int) ≤ 12 := by omega
        have h14 : decide (S.length ≤ 12) = true := by simp [h12]
        go_wp2_with fail
        go_ret
        exact ⟨by rw [HE.out, h14]; rfl, rfl⟩
      · have h13 : ¬ (S.length : Int) ≤ 12 := by omega
        have h14 : decide (S.length ≤ 12) = false := by simp; omega
        go_wp2_with fail
        go_ret
        exact ⟨by rw [HE.out, h14]; rfl, rfl⟩
/-- balance.Text's answer: a balanced ID, or 0 for no letters. -/
def TxP (n0 B most : Nat) (E : List En) (W : World) (l : List Nat) (e : Ending) (w' : World) : Prop := ∃ E' id, e = .returned (.tuple #[.int .i64 (id : Nat), .nilIface]) ∧ StAt n0 w' B most E' ∧ WfD E' ∧ Ext E E' ∧ E'.length ≤ E.length + 2 * l.length ∧ id ≤ E'.length ∧ (id = 0 ↔ l = []) ∧ txt E' id = l ∧ (entAt E' id).even = true ∧ Below n0 W w' ∧ Kt W w'
set_option maxRecDepth 100000 in
set_option maxHeartbeats 1000000 in
theorem btxt_any {n0 B most g cap : Nat} {W : World} {E : List En} (hs : StAt n0 W B most E) (hwf : WfD E) {l : List Nat} {m : Nat} (hm : l.length = m) (hv : ByV W g 0 l) (hcap : m ≤ cap) (hcm : cap ≤ maxLen) (hl : m ≤ 65536) (hb : ∀ b ∈ l, b < 256) (hmost : E.length + 2 * m ≤ most) (hE : E.length + 2 * m ≤ 1048575) :
    Calls Try.prog 35 #[.pointer (some ⟨B, 0, none⟩), .slice (some ⟨g, 0, none⟩) m cap] W (TxP n0 B most E W l) := by
  have h1 : ¬ (m : Int) > 65536 := by omega
  by_cases h0 : m = 0
  · have h0b : ((m : Int) == 0) = true := by simp [h0]
    have HZ : Hid (TxP n0 B most E W l (.returned (.tuple #[.int .i64 0, .nilIface])) W) := Lib.hid ⟨E, 0, rfl, hs, hwf, Ext.refl _, by omega, Nat.zero_le _, by simp [List.eq_nil_of_length_eq_zero (hm.trans h0)], by rw [txt_zero, List.eq_nil_of_length_eq_zero (hm.trans h0)], rfl, Below.refl _ _, Kt.of (Below.refl _ _)⟩
    clear hs hwf hv hcap hb hmost hE h0 hm
    go_enter Try.func35, Try.ntmps35
    go_wp2_with fail
    go_ret2
    exact HZ.out
  · have h0b : ((m : Int) == 0) = false := by simp; omega
    have HT := Lib.hid (btext_any m l hm (by omega) hs hwf hv hcap hcm (by omega) hb hmost hE)
    have HM := Lib.hid (And.intro hm h0)
    clear hs hwf hv hcap hb hmost hE h0 hm
    go_enter Try.func35, Try.ntmps35
    go_wp2_with fail
    refine HT.out.mono ?_
    rintro e w2 ⟨E2, i2, rfl, s2, f2, x2, n2, bl2, b2, kt2⟩
    have HZ : Hid (TxP n0 B most E W l (.returned (.tuple #[.int .i64 (i2 : Nat), .nilIface])) w2) := Lib.hid ⟨E2, i2, rfl, s2, f2, x2, by omega, bl2.le, by
      constructor
      · intro h; have := bl2.pos; omega
      · intro h; have h1 := HM.out.1; have h2 := HM.out.2; rw [h] at h1; simp at h1; omega, bl2.txt, bl2.even, b2, kt2⟩
    clear s2 f2 x2 n2 bl2 b2 kt2 HT
    go_wp2_with fail
    go_ret2
    exact HZ.out
end M
end Go.Proofs.Ytplccefjljdjnaa
