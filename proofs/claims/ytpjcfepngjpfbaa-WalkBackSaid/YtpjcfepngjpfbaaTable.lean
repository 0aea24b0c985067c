/- law17's table: the rules and the lengths of a store. -/
import Derived.Test.YtpjcfepngjpfbaaAw
import Derived.Test.YtpjcfepngjpfbaaAcc
import Derived.Test.YtpjcfepngjpfbaaCom
set_option linter.unusedVariables false
set_option linter.unusedSimpArgs false
namespace Go.Proofs.Ytpjcfepngjpfbaa
open Go.RowKit Go.Lib
namespace M
attribute [local go_sem] Oper.semAt_some
def encRu (r : Ru) : List Value := [.int .i64 r.kind, .int .u8 r.letter, .int .i64 r.left, .int .i64 r.right, .int .i64 r.times]
theorem encRu_len (r : Ru) : (encRu r).length = 5 := rfl
def encLn (n : Nat) : List Value := [.int .i64 n]
theorem encLn_len (n : Nat) : (encLn n).length = 1 := rfl
abbrev Rus (B : Nat) (W : World) (v : Value) (l : List Ru) : Prop := SlA B W 59 5 encRu v l
abbrev Lns (B : Nat) (W : World) (v : Value) (l : List Nat) : Prop := SlA B W 3 1 encLn v l
theorem elemRu : Elem Try.prog 42 59 5 40 := elem_of Try.underlying42 (z := .agg #[.int .i64 0, .int .u8 0, .int .i64 0, .int .i64 0, .int .i64 0]) (by kernel_rfl) rfl (by decide) (by decide)
theorem elemLn : Elem Try.prog 25 3 1 8 := elem_of Try.underlying25 (z := .int .i64 0) (by kernel_rfl) rfl (by decide) (by decide)
def rusF (E : List En) (n : Nat) : List Ru := (List.range n).map fun i => (entAt E i).ru
def lnsF (E : List En) (n : Nat) : List Nat := (List.range n).map fun i => (txt E i).length
theorem rusF_len (E : List En) (n : Nat) : (rusF E n).length = n := by simp [rusF]
theorem lnsF_len (E : List En) (n : Nat) : (lnsF E n).length = n := by simp [lnsF]
theorem rusF_succ (E : List En) (n : Nat) : rusF E (n + 1) = rusF E n ++ [(entAt E n).ru] := by simp [rusF, List.range_succ]
theorem lnsF_succ (E : List En) (n : Nat) : lnsF E (n + 1) = lnsF E n ++ [(txt E n).length] := by simp [lnsF, List.range_succ]
theorem encRu_oneT (r : Ru) : ∀ u ∈ encRu r, u.oneCell' = true := by simp [encRu, Value.oneCell']
theorem encLn_oneT (n : Nat) : ∀ u ∈ encLn n, u.oneCell' = true := by simp [encLn, Value.oneCell']
/-- What stands while a rule and a length are appended. -/
structure STb (W : World) (rv lv : Value) (R : List Ru) (L : List Nat) (g8 : Nat) (r : Ru) (g10 : Nat) (u : Wt) (w : World) : Prop where
  below : Below W.heap.size W w
  rus : Rus W.heap.size w rv R
  lns : Lns W.heap.size w lv L
  ru : RuC w g8 r
  wt : WtC w g10 u
theorem STb.step {W : World} {rv lv : Value} {R : List Ru} {L : List Nat} {g8 : Nat} {r : Ru} {g10 : Nat} {u : Wt} {w w' : World} (h : STb W rv lv R L g8 r g10 u w) (hb : Below w.heap.size w w') : STb W rv lv R L g8 r g10 u w' :=
  ⟨Below.after h.below hb, h.rus.below hb, h.lns.below hb, below_block hb h.ru, below_block hb h.wt⟩
def PPt (z : Nat) (R : List Ru) (L : List Nat) (r : Ru) (n : Nat) (j : Nat) (v : Value) (w : World) : Prop := match j with
  | 2 => ∃ g, v = .slice (some ⟨g, 0, none⟩) 1 1 ∧ Rus z w v [r]
  | 3 => Rus z w v (R ++ [r])
  | 7 => ∃ g, v = .slice (some ⟨g, 0, none⟩) 1 1 ∧ Lns z w v [n]
  | 8 => Lns z w v (L ++ [n])
  | _ => True
def FRt (j : Nat) (w w' : World) : Prop := match j with
  | 3 => KeepT 3 w w'
  | 8 => KeepT 59 w w'
  | _ => Below w.heap.size w w'
theorem PPt.below {z : Nat} {R : List Ru} {L : List Nat} {r : Ru} {n j : Nat} {v : Value} {w w' : World} (h : PPt z R L r n j v w) (hb : Below w.heap.size w w') : PPt z R L r n j v w' := by
  unfold PPt at *
  split
  · obtain ⟨g, e, k⟩ := h; exact ⟨g, e, k.below hb⟩
  · exact SlA.below h hb
  · obtain ⟨g, e, k⟩ := h; exact ⟨g, e, k.below hb⟩
  · exact SlA.below h hb
  · trivial
set_option maxRecDepth 100000 in
set_option maxHeartbeats 8000000 in
theorem table_any {n0 B most : Nat} {W : World} {E : List En} (hs : StAt n0 W B most E) (hwf : Wf E) (hE : E.length ≤ 1048576) :
    Calls Try.prog 18 #[.pointer (some ⟨B, 0, none⟩)] W fun e w' => ∃ rv lv, e = .returned (.tuple #[rv, lv, .bool true]) ∧ Rus W.heap.size w' rv (rusF E (E.length + 1)) ∧ Lns W.heap.size w' lv (lnsF E (E.length + 1)) ∧ Below W.heap.size W w' := by
  have HF : ∀ f, Fence.wide.fn f := fun _ => trivial
  have HS := Lib.hid hs; have HWF := Lib.hid hwf; have HEL := Lib.hid hE
  obtain ⟨W1, hW1⟩ : ∃ w, W.alloc (.cells #[.int .i64 0, .int .u8 0, .int .i64 0, .int .i64 0, .int .i64 0] 59) = w := ⟨_, rfl⟩
  obtain ⟨W2, hW2⟩ : ∃ w, W1.alloc (.cells #[.int .i64 0] 3) = w := ⟨_, rfl⟩
  have b1 : Below W.heap.size W W1 := by rw [← hW1]; exact (Below.refl _ _).alloc (Nat.le_refl _) _
  have b2 : Below W1.heap.size W1 W2 := by rw [← hW2]; exact (Below.refl _ _).alloc (Nat.le_refl _) _
  have l1 : Rus W.heap.size W1 (.slice (some ⟨W.heap.size, 0, none⟩) 1 1) (rusF E 1) := by rw [← hW1]; exact SlA.lit (l := [⟨0, 0, 0, 0, 0⟩]) encRu_len rfl (by simp; unfold maxLen; omega)
  have l2 : Lns W1.heap.size W2 (.slice (some ⟨W1.heap.size, 0, none⟩) 1 1) (lnsF E 1) := by rw [← hW2]; exact SlA.lit (l := [0]) encLn_len rfl (by simp; unfold maxLen; omega)
  have HL1 := Lib.hid (SlA.below l1 b2); have HL2 := Lib.hid (SlA.mono l2 b1.size)
  have HB2 := Lib.hid (Below.after b1 b2)
  clear hs hwf hE b1 b2 l1 l2
  go_enter Try.func18, Try.ntmps18
  go_wp2_with fail
  clear hW1 hW2
  go_loopw [5, 6, 7] (fun rv lv iv wr => ∃ (i : Nat) (ra : Option Addr) (rc : Nat) (la : Option Addr) (lc : Nat), rv = .slice ra i rc ∧ lv = .slice la i lc ∧ iv = .int .i64 i ∧ 1 ≤ i ∧ i ≤ E.length + 1 ∧ Rus W.heap.size wr (.slice ra i rc) (rusF E i) ∧ Lns W.heap.size wr (.slice la i lc) (lnsF E i) ∧ Below W.heap.size W wr) (fun _ _ iv _ => E.length + 1 - (intOf iv).toNat)
  case atStart => exact ⟨1, _, _, _, _, rfl, rfl, rfl, by omega, by omega, HL1.out, HL2.out, HB2.out⟩
  case round =>
    clear HL1 HL2 HB2
    obtain ⟨i, ra, rc, la, lc, rfl, rfl, rfl, hi1, hi2, hR, hL, hB⟩ := hrel
    have HR := Lib.hid hR; have HLN := Lib.hid hL; have HB := Lib.hid hB
    have HLE := Lib.hid (slen_any (HS.out.below hB))
    have HI := Lib.hid (And.intro hi1 hi2)
    clear hR hL hB hi1 hi2
    by_cases hlast : i = E.length + 1
    · have d1 : ¬ (i : Int) ≤ (E.length : Int) := by omega
      have d2 : decide ((i : Int) ≤ (E.length : Int)) = false := decide_eq_false d1
      have HLA := Lib.hid hlast
      clear hlast
      go_wp2_with fail
      refine HLE.out.mono ?_; rintro x w ⟨rfl, h⟩; rw [h]; clear h w
      go_wp2_with fail
      refine bodyPost_ret (v := .tuple #[.slice ra i rc, .slice la i lc, .bool true]) (by simp [results, Try.results18, go_sem]) rfl ?_
      exact ⟨_, _, rfl, by rw [← HLA.out]; exact HR.out, by rw [← HLA.out]; exact HLN.out, HB.out⟩
    · have d1 : (i : Int) ≤ (E.length : Int) := by have := HI.out; omega
      have d2 : decide ((i : Int) ≤ (E.length : Int)) = true := decide_eq_true d1
      have hie : i ≤ E.length := by omega
      have hi0 : 0 < i := HI.out.1
      have HRU : Hid (∀ w, Below W.heap.size W w → Calls Try.prog 23 #[.pointer (some ⟨B, 0, none⟩), .int .i64 i] w fun e w' => e = .returned (.tuple #[ruV (entAt E i).ru, .nilIface]) ∧ Below w.heap.size w w') := Lib.hid (fun w hw => rule_any (HS.out.below hw) hi0 hie HEL.out)
      have HWT : Hid (∀ w, Below W.heap.size W w → Calls Try.prog 39 #[.pointer (some ⟨B, 0, none⟩), .int .i64 i] w fun e w' => e = .returned (.tuple #[wtV (entAt E i).w, .nilIface]) ∧ Below w.heap.size w w') := Lib.hid (fun w hw => weight_any (HS.out.below hw) hie HEL.out)
      have hrl : (entAt E i).ru.left < i ∧ (entAt E i).ru.right < i := by
        rcases (HWF.out.rule i hi0 hie).cases with ⟨-, -, a, b, -⟩ | ⟨-, -, -, a, -, b, -⟩ | ⟨-, -, -, a, b, -⟩ <;> omega
      have HLX := Lib.hid (rusF_succ E i); have HLY := Lib.hid (lnsF_succ E i)
      obtain ⟨r, hr⟩ : ∃ r, (entAt E i).ru = r := ⟨_, rfl⟩
      obtain ⟨u, hu⟩ : ∃ u, (entAt E i).w = u := ⟨_, rfl⟩
      have HUL : Hid (u.len = (txt E i).length) := Lib.hid (by rw [← hu, (HWF.out.len hie).1]; rfl)
      rw [hr] at HRU hrl HLX
      rw [hu] at HWT
      unfold ruV at HRU
      unfold wtV at HWT
      rw [← HUL.out] at HLY
      have e1 : ¬ (r.left : Int) < 0 := by omega
      have e2 : ¬ (r.right : Int) < 0 := by omega
      have e3 : ¬ (i : Int) ≤ (r.left : Int) := by omega
      have e4 : ¬ (i : Int) ≤ (r.right : Int) := by omega
      have e3' : ¬ i ≤ r.left := by omega
      have e4' : ¬ i ≤ r.right := by omega
      have hiw : IntKind.i64.wrap ((i : Int) + 1) = ((i + 1 : Nat) : Int) := by rw [IntKind.wrap_i64]; have := HEL.out; omega
      obtain ⟨i2, hi2⟩ : ∃ y, i + 1 = y := ⟨_, rfl⟩
      rw [hi2] at hiw
      have HI2 := Lib.hid hi2
      rw [hi2] at HLX HLY
      obtain ⟨R, hRR⟩ : ∃ R, rusF E i = R := ⟨_, rfl⟩
      obtain ⟨L, hLL⟩ : ∃ L, lnsF E i = L := ⟨_, rfl⟩
      have HRL : Hid (R.length = i ∧ L.length = i) := Lib.hid ⟨by rw [← hRR]; exact rusF_len E i, by rw [← hLL]; exact lnsF_len E i⟩
      rw [hRR] at HR HLX
      rw [hLL] at HLN HLY
      clear hlast hi0 hrl hr hu hi2 hRR hLL
      go_wp2_with fail
      refine HLE.out.mono ?_; rintro x w ⟨rfl, h⟩; rw [h]; clear h w
      go_wp2_with fail
      refine (HRU.out wr HB.out).mono ?_; rintro e w3 ⟨rfl, b3⟩
      obtain ⟨wz4, w4, hz4, hs4, kr, br, ⟨r0, r1, r2, r3, r4⟩, f0, f1, f2, f3, f4⟩ := newRu w3 r
      obtain ⟨g8, hg8⟩ : ∃ y, w3.heap.size = y := ⟨_, rfl⟩
      rw [hg8] at hs4 kr r0 r1 r2 r3 r4 f0 f1 f2 f3 f4
      have b4 := Below.after b3 br
      have HNE : Hid (∀ k, (Value.slice ra i rc).ownBlock = some k → k ≠ g8) := Lib.hid (fun k hk => by
        rcases HR.out.2 with ⟨h, -⟩ | ⟨g, c, cur, h, -, hh, -⟩
        · rw [h] at hk; simp [Value.ownBlock] at hk
        · rw [h] at hk
          have e : g = k := by simpa [Value.ownBlock] using hk
          subst e
          have h1 := (Array.getElem?_eq_some_iff.1 hh).1
          have h2 := b3.size
          omega)
      have HB4 := Lib.hid (Below.after HB.out b4); have HR4 := Lib.hid (SlA.below HR.out b4); have HL4 := Lib.hid (SlA.below HLN.out b4); have HK4 := Lib.hid kr
      clear b3 br b4 kr HLE
      go_wp2_with fail
      refine (HWT.out w4 HB4.out).mono ?_; rintro e w5 ⟨rfl, b5⟩
      obtain ⟨wz6, w6, hz6, hs6, ka, ba, ⟨s0, s1, s2, s3, s4, s5⟩, v0, v1, v2, v3, v4, v5⟩ := newWt w5 u
      obtain ⟨g10, hg10⟩ : ∃ g, w5.heap.size = g := ⟨_, rfl⟩
      rw [hg10] at hs6 ka s0 s1 s2 s3 s4 s5 v0 v1 v2 v3 v4 v5
      have b6 := Below.after b5 ba
      have HST : Hid (STb W (.slice ra i rc) (.slice la i lc) R L g8 r g10 u w6) := Lib.hid ⟨Below.after HB4.out b6, SlA.below HR4.out b6, SlA.below HL4.out b6, below_block b6 HK4.out, ka⟩
      obtain ⟨o0, o1, o2, o3, o4⟩ := HST.out.ru.cells
      clear b5 ba b6 ka HB4 HR4 HL4 HK4 HR HLN HB hz4 hs4 r0 r1 r2 r3 r4 f0 f1 f2 f3 f4 hg8
      go_wp2_with fail
      clear hz6 hs6 s0 s1 s2 s3 s4 s5 v0 v1 v2 v3 v4 v5 hg10 o0 o1 o2 o3 o4
      have m0 : ∀ w, STb W (.slice ra i rc) (.slice la i lc) R L g8 r g10 u w → w.cell? ⟨g8, 0, none⟩ = some (.int .i64 r.kind) := fun w h => h.ru.cells.1
      have m1 : ∀ w, STb W (.slice ra i rc) (.slice la i lc) R L g8 r g10 u w → w.cell? ⟨g8, 1, none⟩ = some (.int .u8 r.letter) := fun w h => h.ru.cells.2.1
      have m2 : ∀ w, STb W (.slice ra i rc) (.slice la i lc) R L g8 r g10 u w → w.cell? ⟨g8, 2, none⟩ = some (.int .i64 r.left) := fun w h => h.ru.cells.2.2.1
      have m3 : ∀ w, STb W (.slice ra i rc) (.slice la i lc) R L g8 r g10 u w → w.cell? ⟨g8, 3, none⟩ = some (.int .i64 r.right) := fun w h => h.ru.cells.2.2.2.1
      have m4 : ∀ w, STb W (.slice ra i rc) (.slice la i lc) R L g8 r g10 u w → w.cell? ⟨g8, 4, none⟩ = some (.int .i64 r.times) := fun w h => h.ru.cells.2.2.2.2
      have m5 : ∀ w, STb W (.slice ra i rc) (.slice la i lc) R L g8 r g10 u w → w.cell? ⟨g10, 0, none⟩ = some (.int .i64 u.len) := fun w h => h.wt.cells.1
      refine wp_region_anyH (STb W (.slice ra i rc) (.slice la i lc) R L g8 r g10 u) (by kernel_rfl) ?_
      have S0 : STb W (.slice ra i rc) (.slice la i lc) R L g8 r g10 u w6.drew := HST.out.step (Below.refl _ _).drew
      refine AnyH.take (i := 0) (d := some 61) (v := ?_) (by kernel_rfl) rfl rfl HF (fun _ _ _ h => h) (.inl ⟨by rfl, ?_⟩) (by first | assumption | rfl) ?_
      rotate_left
      · intro w hS; try subst hS
        go_simp; try with_reducible rfl
      try simp only [Act.put, List.setIfInBounds_toArray, List.set_cons_zero, List.set_cons_succ]
      refine AnyH.take (i := 1) (d := some 62) (v := ?_) (by kernel_rfl) rfl rfl HF (fun _ _ _ h => h) (.inl ⟨by rfl, ?_⟩) (by first | assumption | rfl) ?_
      rotate_left
      · intro w hS; try subst hS
        go_simp; try with_reducible rfl
      try simp only [Act.put, List.setIfInBounds_toArray, List.set_cons_zero, List.set_cons_succ]
      refine AnyH.take (i := 4) (d := some 65) (v := ?_) (by kernel_rfl) rfl rfl HF (fun _ _ _ h => h) (.inl ⟨by rfl, ?_⟩) (by first | assumption | rfl) ?_
      rotate_left
      · intro w hS; try subst hS
        go_simp; try with_reducible rfl
      try simp only [Act.put, List.setIfInBounds_toArray, List.set_cons_zero, List.set_cons_succ]
      refine AnyH.take (i := 5) (d := some 66) (v := ?_) (by kernel_rfl) rfl rfl HF (fun _ _ _ h => h) (.inl ⟨by rfl, ?_⟩) (by first | assumption | rfl) ?_
      rotate_left
      · intro w hS; try subst hS
        go_simp; try with_reducible rfl
      try simp only [Act.put, List.setIfInBounds_toArray, List.set_cons_zero, List.set_cons_succ]
      refine AnyH.take (i := 6) (d := some 67) (v := ?_) (by kernel_rfl) rfl rfl HF (fun _ _ _ h => h) (.inl ⟨by rfl, ?_⟩) (by first | assumption | rfl) ?_
      rotate_left
      · intro w hS; try subst hS
        go_simp; try with_reducible rfl
      try simp only [Act.put, List.setIfInBounds_toArray, List.set_cons_zero, List.set_cons_succ]
      clear m0 m1 m2 m3 m4 m5
      refine AnyH.floatAL [2, 3, 7, 8] 2
        (fun x => match x with | 3 => [2] | 8 => [2, 3, 7] | _ => [])
        (fun x => match x with | 3 => [2] | 8 => [7] | _ => [])
        (fun x => match x with | 2 => [7] | 3 => [7] | 7 => [2, 3] | _ => [3])
        (fun x => match x with | 2 => 63 | 3 => 64 | 7 => 68 | _ => 69) (fun x => x == 3 || x == 8)
        (PPt W.heap.size R L r u.len) FRt ?fok ?dok ?mok (by kernel_rfl) HF S0 ?mono ?step ?tail
      case fok => kernel_rfl
      case dok => kernel_rfl
      case mok => kernel_rfl
      case mono =>
        intro x hx i hi v w w' hP hR
        simp only [List.mem_cons, List.not_mem_nil, or_false] at hx
        rcases hx with rfl | rfl | rfl | rfl
        · exact hP.below hR
        · simp only [List.mem_cons, List.not_mem_nil, or_false] at hi
          subst hi
          obtain ⟨B, e, h⟩ := hP; exact ⟨B, e, SlA.keep h hR⟩
        · exact hP.below hR
        · simp only [List.mem_cons, List.not_mem_nil, or_false] at hi
          subst hi
          exact SlA.keep (show Rus W.heap.size w v (R ++ [r]) from hP) hR
      case step =>
        intro x hx vs w hS hP K hK
        have hsz := hS.below.size
        have hrl := HRL.out; have hib := HI.out; have hel := HEL.out
        simp only [List.mem_cons, List.not_mem_nil, or_false] at hx
        rcases hx with rfl | rfl | rfl | rfl
        · refine StepIn.mk rfl (by rfl) ?_
          simp only [putL, List.foldl_nil, List.foldl_cons, Act.put, List.setIfInBounds_toArray, List.set_cons_zero, List.set_cons_succ] at hK ⊢
          go_simp
          exact hK _ _ (hS.step ((Below.refl _ _).alloc (Nat.le_refl _) _)) ((Below.refl _ _).alloc (Nat.le_refl _) _) ⟨_, rfl, SlA.mono (SlA.lit (l := [r]) encRu_len rfl (by simp; unfold maxLen; omega)) hsz⟩
        · obtain ⟨g, e2, h2⟩ := hP 2 (by simp)
          rw [e2] at h2
          obtain ⟨v', w', hrun, hown, hg, hb, hold⟩ := run_catK (l2 := [r]) elemRu encRu_len encRu_oneT 42 hS.rus h2 rfl (by simp; omega) hsz
          refine StepIn.mk rfl (by rfl) ?_
          simp only [putL, List.foldl_nil, List.foldl_cons, e2, Act.put, List.setIfInBounds_toArray, List.set_cons_zero, List.set_cons_succ] at hK ⊢
          simp [execOp, resolve, invoke, builtin, hrun, Result.andThen, Act.eval, Oper.uponIn]
          refine hK _ _ ⟨hS.below.trans hb, hold, SlA.keep hS.lns (keep_own hS.rus hg (by decide)), ?_, keep_own hS.rus hg (by decide) _ _ _ hS.wt⟩ (keep_own hS.rus hg (by decide)) hown
          have h8 := hS.ru
          unfold RuC at h8 ⊢
          exact (hg.block g8 (Array.getElem?_eq_some_iff.1 h8).1 (fun e => HNE.out g8 e.symm rfl)).trans h8
        · refine StepIn.mk rfl (by rfl) ?_
          simp only [putL, List.foldl_nil, List.foldl_cons, Act.put, List.setIfInBounds_toArray, List.set_cons_zero, List.set_cons_succ] at hK ⊢
          go_simp
          exact hK _ _ (hS.step ((Below.refl _ _).alloc (Nat.le_refl _) _)) ((Below.refl _ _).alloc (Nat.le_refl _) _) ⟨_, rfl, SlA.mono (SlA.lit (l := [u.len]) encLn_len rfl (by simp; unfold maxLen; omega)) hsz⟩
        · obtain ⟨g, e7, h7⟩ := hP 7 (by simp)
          rw [e7] at h7
          obtain ⟨v', w', hrun, hown, hg, hb, hold⟩ := run_catK (l2 := [u.len]) elemLn encLn_len encLn_oneT 25 hS.lns h7 rfl (by simp; omega) hsz
          refine StepIn.mk rfl (by rfl) ?_
          simp only [putL, List.foldl_nil, List.foldl_cons, e7, Act.put, List.setIfInBounds_toArray, List.set_cons_zero, List.set_cons_succ] at hK ⊢
          simp [execOp, resolve, invoke, builtin, hrun, Result.andThen, Act.eval, Oper.uponIn]
          exact hK _ _ ⟨hS.below.trans hb, SlA.keep hS.rus (keep_own hS.lns hg (by decide)), hold, keep_own hS.lns hg (by decide) _ _ _ hS.ru, keep_own hS.lns hg (by decide) _ _ _ hS.wt⟩ (keep_own hS.lns hg (by decide)) hown
      case tail =>
        intro vs w hS hP
        have h3 : Rus W.heap.size w (vs 3) (R ++ [r]) := hP 3 (by simp) rfl
        have h8 : Lns W.heap.size w (vs 8) (L ++ [u.len]) := hP 8 (by simp) rfl
        have hl3 : (R ++ [r]).length = i2 := by rw [List.length_append, List.length_singleton, HRL.out.1]; exact HI2.out
        have hl8 : (L ++ [u.len]).length = i2 := by rw [List.length_append, List.length_singleton, HRL.out.2]; exact HI2.out
        obtain ⟨a3, c3, e3⟩ : ∃ a c, vs 3 = .slice a i2 c := by obtain ⟨a, c, h⟩ := h3.len; exact ⟨a, c, by rw [h, hl3]⟩
        obtain ⟨a8, c8, e8⟩ : ∃ a c, vs 8 = .slice a i2 c := by obtain ⟨a, c, h⟩ := h8.len; exact ⟨a, c, by rw [h, hl8]⟩
        rw [e3] at h3
        rw [e8] at h8
        simp only [putL, List.foldl_nil, List.foldl_cons, e3, e8, Act.put, List.setIfInBounds_toArray, List.set_cons_zero, List.set_cons_succ]
        have H3 := Lib.hid h3; have H8 := Lib.hid h8; have HBE := Lib.hid hS.below
        clear hP h3 h8 S0 hl3 hl8 e3 e8
        generalize vs 2 = x2 at *
        generalize vs 7 = x7 at *
        refine AnyH.take (i := 9) (d := some 5) (v := ?_) (by kernel_rfl) rfl rfl HF (fun _ _ _ h => h) (.inl ⟨by rfl, ?_⟩) (by first | assumption | rfl) ?_
        rotate_left
        · intro w hS; try subst hS
          go_simp; try with_reducible rfl
        try simp only [Act.put, List.setIfInBounds_toArray, List.set_cons_zero, List.set_cons_succ]
        refine AnyH.take (i := 10) (d := some 6) (v := ?_) (by kernel_rfl) rfl rfl HF (fun _ _ _ h => h) (.inl ⟨by rfl, ?_⟩) (by first | assumption | rfl) ?_
        rotate_left
        · intro w hS; try subst hS
          go_simp; try with_reducible rfl
        try simp only [Act.put, List.setIfInBounds_toArray, List.set_cons_zero, List.set_cons_succ]
        refine AnyH.done (by kernel_rfl) ?_
        go_wp2_with fail
        go_roundw
        case rel => exact ⟨i2, _, _, _, _, rfl, rfl, rfl, by have := HI2.out; omega, by have := HI2.out; omega, by rw [HLX.out]; exact H3.out, by rw [HLY.out]; exact H8.out, HBE.out⟩
        case measure => have := HI2.out; simp [intOf]; omega
end M
end Go.Proofs.Ytpjcfepngjpfbaa
