/- The store of rules: Rule, Weight. -/
import Derived.Test.YtpjcfepngjpfbaaStoreAdd
namespace Go.Proofs.Ytpjcfepngjpfbaa
open Go.RowKit
namespace M
attribute [local go_sem] Oper.semAt_some
/-- The text of a number, of texts that are there. -/
def tx (T : List (List Nat)) (i : Nat) : List Nat := if i = 0 then [] else (T[i - 1]?).getD []
def txOf (T : List (List Nat)) (r : Ru) : List Nat := if r.kind = 1 then [r.letter] else if r.kind = 2 then tx T r.left ++ tx T r.right else rep r.times (tx T r.left)
/-- The texts of a store's rules. -/
def txts (E : List En) : List (List Nat) := E.foldl (fun T e => T ++ [txOf T e.ru]) []
theorem txts_snoc (E : List En) (e : En) : txts (E ++ [e]) = txts E ++ [txOf (txts E) e.ru] := by
  unfold txts
  rw [List.foldl_append]; rfl
theorem txts_length (E : List En) : (txts E).length = E.length := by
  rcases List.eq_nil_or_concat E with rfl | ⟨E', e, rfl⟩
  · rfl
  · rw [List.concat_eq_append, txts_snoc, List.length_append, List.length_append, txts_length E']; rfl
termination_by E.length
decreasing_by simp_all
/-- The text of a number. -/
def txt (E : List En) (i : Nat) : List Nat := tx (txts E) i
theorem txt_zero (E : List En) : txt E 0 = [] := rfl
theorem txt_snoc {E : List En} {e : En} {i : Nat} (hi : i ≤ E.length) : txt (E ++ [e]) i = txt E i := by
  unfold txt tx
  by_cases h : i = 0
  · rw [if_pos h, if_pos h]
  · rw [if_neg h, if_neg h, txts_snoc, List.getElem?_append_left (by rw [txts_length]; omega)]
theorem txt_last (E : List En) (e : En) : txt (E ++ [e]) (E.length + 1) = txOf (txts E) e.ru := by
  unfold txt tx
  rw [if_neg (by omega), txts_snoc, List.getElem?_append_right (by rw [txts_length]; omega), txts_length]
  simp
/-- A rule that may be added. -/
structure OkEn (E : List En) (e : En) : Prop where
  kind : (e.ru.kind = 1 ∧ e.ru.letter < 256 ∧ e.ru.left = 0 ∧ e.ru.right = 0 ∧ e.ru.times = 0) ∨ (e.ru.kind = 2 ∧ e.ru.letter = 0 ∧ 0 < e.ru.left ∧ e.ru.left ≤ E.length ∧ 0 < e.ru.right ∧ e.ru.right ≤ E.length ∧ e.ru.times = 0) ∨ (e.ru.kind = 3 ∧ e.ru.letter = 0 ∧ 0 < e.ru.left ∧ e.ru.left ≤ E.length ∧ e.ru.right = 0 ∧ 2 ≤ e.ru.times ∧ e.ru.times ≤ 1152921504606846976)
  w : e.w = wt (txOf (txts E) e.ru)
  len : (txOf (txts E) e.ru).length ≤ 1152921504606846976
  pos : 0 < (txOf (txts E) e.ru).length
  depth : e.depth ≤ E.length
/-- A store whose rules fit. -/
inductive Wf : List En → Prop
  | nil : Wf []
  | snoc {E : List En} {e : En} : Wf E → OkEn E e → Wf (E ++ [e])
theorem Wf.get {E : List En} (h : Wf E) : ∀ i, 0 < i → i ≤ E.length → (entAt E i).w = wt (txt E i) ∧ (txt E i).length ≤ 1152921504606846976 ∧ 0 < (txt E i).length ∧ (entAt E i).depth + 1 ≤ i := by
  induction h with
  | nil => intro i h1 h2; simp at h2; omega
  | @snoc E e hE he ih =>
    intro i h1 h2
    rw [List.length_append, List.length_singleton] at h2
    by_cases hi : i ≤ E.length
    · obtain ⟨a, b, c, d⟩ := ih i h1 hi
      have e1 : entAt (E ++ [e]) i = entAt E i := by
        unfold entAt
        rw [if_neg (by omega), if_neg (by omega), List.getElem?_append_left (by omega)]
      rw [txt_snoc hi, e1]
      exact ⟨a, b, c, d⟩
    · obtain rfl : i = E.length + 1 := by omega
      have e1 : entAt (E ++ [e]) (E.length + 1) = e := by
        unfold entAt
        rw [if_neg (by omega), List.getElem?_append_right (by omega)]
        simp
      rw [txt_last, e1]
      exact ⟨he.w, he.len, he.pos, by have := he.depth; omega⟩
/-- What a rule that is asked for makes of the store. -/
def addF (E : List En) (e : En) : List En × Nat := if fid e.ru 1 E = 0 then (E ++ [e], E.length + 1) else (E, fid e.ru 1 E)
def letE (b : Nat) : En := ⟨⟨1, b, 0, 0, 0⟩, wt [b], 0, true⟩
theorem letE_ok (E : List En) {b : Nat} (hb : b < 256) : OkEn E (letE b) := ⟨.inl ⟨rfl, hb, rfl, rfl, rfl⟩, rfl, by show ([b] : List Nat).length ≤ _; simp, by show 0 < ([b] : List Nat).length; simp, Nat.zero_le _⟩
theorem addF_wf {E : List En} (h : Wf E) {e : En} (he : OkEn E e) : Wf (addF E e).1 ∧ (addF E e).1.length ≤ E.length + 1 ∧ 0 < (addF E e).2 ∧ (addF E e).2 ≤ (addF E e).1.length := by
  unfold addF
  by_cases hf : fid e.ru 1 E = 0
  · rw [if_pos hf]
    exact ⟨.snoc h he, by simp, by simp, by simp⟩
  · rw [if_neg hf]
    obtain ⟨j, e', h1, h2, -⟩ := fid_le hf
    have := (List.getElem?_eq_some_iff.1 h2).1
    exact ⟨h, by simp, by dsimp only; omega, by dsimp only; omega⟩
set_option maxRecDepth 100000 in
set_option maxHeartbeats 2000000 in
theorem letter_any {n0 B most : Nat} {W : World} {E : List En} (h : StAt n0 W B most E) (b : Nat) (hb : b < 256) (hroom : E.length < most) (hE : E.length ≤ 1048575) :
    Calls Try.prog 33 #[.pointer (some ⟨B, 0, none⟩), .int .u8 b] W fun x w' => x = .returned (.tuple #[.int .i64 (addF E (letE b)).2, .nilIface]) ∧ StAt n0 w' B most (addF E (letE b)).1 ∧ Below n0 W w' ∧ Kt W w' := by
  have HF : ∀ f, Fence.wide.fn f := fun _ => trivial
  have hlt := h.lt
  obtain ⟨Wz, hWz⟩ : ∃ w, W.alloc (.cells #[.int .i64 0, .int .u8 0, .int .i64 0, .int .i64 0, .int .i64 0] 59) = w := ⟨_, rfl⟩
  have k0 : RuC Wz W.heap.size ⟨0, 0, 0, 0, 0⟩ := by rw [← hWz]; exact heap_new' _ _
  have b0 : Below W.heap.size W Wz := by rw [← hWz]; exact (Below.refl _ _).alloc (Nat.le_refl _) _
  obtain ⟨z0, z1, z2, z3, z4⟩ : Wz.cell? ⟨W.heap.size, 0, none⟩ = some (.int .i64 0) ∧ Wz.cell? ⟨W.heap.size, 1, none⟩ = some (.int .u8 0) ∧ Wz.cell? ⟨W.heap.size, 2, none⟩ = some (.int .i64 0) ∧ Wz.cell? ⟨W.heap.size, 3, none⟩ = some (.int .i64 0) ∧ Wz.cell? ⟨W.heap.size, 4, none⟩ = some (.int .i64 0) := k0.cells
  have y0 := k0.free 0; have y1 := k0.free 1; have y2 := k0.free 2; have y3 := k0.free 3; have y4 := k0.free 4
  obtain ⟨W1, hW1⟩ : ∃ w, ((((Wz.setCell ⟨W.heap.size, 0, none⟩ (.int .i64 1)).setCell ⟨W.heap.size, 1, none⟩ (.int .u8 b)).setCell ⟨W.heap.size, 2, none⟩ (.int .i64 0)).setCell ⟨W.heap.size, 3, none⟩ (.int .i64 0)).setCell ⟨W.heap.size, 4, none⟩ (.int .i64 0) = w := ⟨_, rfl⟩
  have k1 : RuC W1 W.heap.size ⟨1, b, 0, 0, 0⟩ := by rw [← hW1]; exact k0.set ⟨1, b, 0, 0, 0⟩
  have b1 : Below W.heap.size W W1 := by
    rw [← hW1]
    exact ((((b0.setCell (p := ⟨W.heap.size, 0, none⟩) (Nat.le_refl _) _).setCell (p := ⟨W.heap.size, 1, none⟩) (Nat.le_refl _) _).setCell (p := ⟨W.heap.size, 2, none⟩) (Nat.le_refl _) _).setCell (p := ⟨W.heap.size, 3, none⟩) (Nat.le_refl _) _).setCell (p := ⟨W.heap.size, 4, none⟩) (Nat.le_refl _) _
  have H1 := Lib.hid (h.below b1); have K1 := Lib.hid k1; have B1 := Lib.hid b1; have HLT := Lib.hid hlt
  have hok : (letE b).ru.ok := ⟨by show 1 ≤ _; omega, by show b ≤ 255; omega, Nat.zero_le _, Nat.zero_le _, Nat.zero_le _⟩
  have HOK := Lib.hid hok
  obtain ⟨c0, c1, c2, c3, c4⟩ : W1.cell? ⟨W.heap.size, 0, none⟩ = some (.int .i64 1) ∧ W1.cell? ⟨W.heap.size, 1, none⟩ = some (.int .u8 b) ∧ W1.cell? ⟨W.heap.size, 2, none⟩ = some (.int .i64 0) ∧ W1.cell? ⟨W.heap.size, 3, none⟩ = some (.int .i64 0) ∧ W1.cell? ⟨W.heap.size, 4, none⟩ = some (.int .i64 0) := k1.cells
  clear h k1 b1 hlt hok k0 b0
  obtain ⟨f, hf⟩ : ∃ f, fid (letE b).ru 1 E = f := ⟨_, rfl⟩
  have HFD := Lib.hid hf
  have HA : Hid (addF E (letE b) = if f = 0 then (E ++ [letE b], E.length + 1) else (E, f)) := Lib.hid (by unfold addF; rw [hf])
  have HFI := Lib.hid (find_any H1.out HOK.out)
  rw [hf] at HFI
  clear hf
  by_cases hf0 : f = 0
  · rw [if_neg (fun h => by have := h.2; omega)] at HFI
    rw [HA.out, if_pos hf0]
    subst hf0
    clear HA
    go_enter Try.func33, Try.ntmps33
    go_wp2_with fail
    refine HFI.out.mono ?_
    rintro e w2 ⟨rfl, b2⟩
    have B2 := Lib.hid b2
    clear HFI hW1 hWz z0 z1 z2 z3 z4 y0 y1 y2 y3 y4 c0 c1 c2 c3 c4
    have q : ∀ w, Below w2.heap.size w2 w → RuC w W.heap.size ⟨1, b, 0, 0, 0⟩ := fun w hw => below_block (Below.after B2.out hw) K1.out
    have q0 : ∀ w, Below w2.heap.size w2 w → w.cell? ⟨W.heap.size, 0, none⟩ = some (.int .i64 1) := fun w hw => (q w hw).cells.1
    have q1 : ∀ w, Below w2.heap.size w2 w → w.cell? ⟨W.heap.size, 1, none⟩ = some (.int .u8 b) := fun w hw => (q w hw).cells.2.1
    have q2 : ∀ w, Below w2.heap.size w2 w → w.cell? ⟨W.heap.size, 2, none⟩ = some (.int .i64 0) := fun w hw => (q w hw).cells.2.2.1
    have q3 : ∀ w, Below w2.heap.size w2 w → w.cell? ⟨W.heap.size, 3, none⟩ = some (.int .i64 0) := fun w hw => (q w hw).cells.2.2.2.1
    have q4 : ∀ w, Below w2.heap.size w2 w → w.cell? ⟨W.heap.size, 4, none⟩ = some (.int .i64 0) := fun w hw => (q w hw).cells.2.2.2.2
    clear q b2
    go_wp2_with fail
    refine wp_region_anyNP (Below w2.heap.size w2) (by kernel_rfl) ?_
    have S0 : Below w2.heap.size w2 w2.drew := (Below.refl _ _).drew
    refine AnyH.take (i := 0) (d := some 28) (v := ?_) (by kernel_rfl) rfl rfl HF (fun _ _ _ h => h) (.inl ⟨by rfl, ?_⟩) (by first | assumption | rfl) ?_
    rotate_left
    · intro w hS; try subst hS
      go_simp; try with_reducible rfl
    try simp only [Act.put, List.setIfInBounds_toArray, List.set_cons_zero, List.set_cons_succ]
    refine AnyH.take (i := 1) (d := some 29) (v := ?_) (by kernel_rfl) rfl rfl HF (fun _ _ _ h => h) (.inl ⟨by rfl, ?_⟩) (by first | assumption | rfl) ?_
    rotate_left
    · intro w hS; try subst hS
      go_simp; try with_reducible rfl
    try simp only [Act.put, List.setIfInBounds_toArray, List.set_cons_zero, List.set_cons_succ]
    refine AnyH.take (i := 2) (d := some 30) (v := ?_) (by kernel_rfl) rfl rfl HF (fun _ _ _ h => h) (.inl ⟨by rfl, ?_⟩) (by first | assumption | rfl) ?_
    rotate_left
    · intro w hS; try subst hS
      go_simp; try with_reducible rfl
    try simp only [Act.put, List.setIfInBounds_toArray, List.set_cons_zero, List.set_cons_succ]
    refine AnyH.one (i := 3) (by kernel_rfl) (by kernel_rfl) rfl HF (by rfl) (fun K hK => ?_)
    go_simp
    first | ((with_reducible refine And.intro ?hdep ?_); (case hdep => first | rfl | (intro h; cases h))) | skip
    refine callsIn_wide.2 ((wletter_any w2.drew b hb).mono ?_)
    rintro e w3 ⟨rfl, b3⟩
    have S3 := Below.after S0 b3
    obtain ⟨u, hu⟩ : ∃ u, wt [b] = u := ⟨_, rfl⟩
    have HU := Lib.hid hu
    have ev : wtV u = .agg #[.int .i64 u.len, .int .i64 u.lines, .int .i64 u.head, .int .i64 u.tail, .int .u64 u.d.v, .int .u64 u.d.s] := rfl
    rw [hu, ev]
    clear hu ev b3
    refine hK _ _ S3 ?_
    clear hK K
    try simp only [Act.put, List.setIfInBounds_toArray, List.set_cons_zero, List.set_cons_succ]
    refine AnyH.take (i := 4) (d := some 32) (v := ?_) (by kernel_rfl) rfl rfl HF (fun _ _ _ h => h) (.inl ⟨by rfl, ?_⟩) (by first | assumption | rfl) ?_
    rotate_left
    · intro w hS; try subst hS
      go_simp; try with_reducible rfl
    try simp only [Act.put, List.setIfInBounds_toArray, List.set_cons_zero, List.set_cons_succ]
    refine AnyH.tailL 5 (by kernel_rfl) ?_
    simp only [List.drop_succ_cons, List.drop_zero]
    have hle : letE b = ⟨⟨1, b, 0, 0, 0⟩, u, 0, true⟩ := by unfold letE; rw [HU.out]
    have HAD := Lib.hid (sadd_any (H1.out.below (Below.after B2.out S3)) (letE b) HOK.out HFD.out (by omega))
    have hev : enV (letE b) = .agg #[.int .i64 1, .int .u8 b, .int .i64 0, .int .i64 0, .int .i64 0, .int .i64 u.len, .int .i64 u.lines, .int .i64 u.head, .int .i64 u.tail, .int .u64 u.d.v, .int .u64 u.d.s, .int .i64 0, .bool true] := by rw [hle]; rfl
    rw [hev] at HAD
    have B3 := Lib.hid (Below.after B2.out S3)
    clear hle hev q0 q1 q2 q3 q4 S0 S3 HU
    gi_wp2_with fail
    refine ⟨rfl, callsIn_wide.2 (HAD.out.mono ?_)⟩
    rintro e w4 ⟨rfl, hS, hB, hK⟩
    have HS := Lib.hid hS
    have HB := Lib.hid (show Below n0 W w4 from ((B1.out.mono HLT.out).trans (B3.out.mono (Nat.le_trans HLT.out B1.out.size))).trans hB)
    have HK := Lib.hid (((Kt.of B1.out).trans (Kt.of B3.out)).trans hK)
    clear hS hB hK HAD
    gi_wp2_with fail
    refine NP.normal ?_
    go_wp2_with fail
    go_ret2
    exact ⟨by simp, HS.out, HB.out, HK.out⟩
  · rw [if_neg (fun h => hf0 h.1)] at HFI
    rw [HA.out, if_neg hf0]
    have hfn : ((f : Int) != 0) = true := by simp; omega
    clear HA
    go_enter Try.func33, Try.ntmps33
    go_wp2_with fail
    refine HFI.out.mono ?_
    rintro e w2 ⟨rfl, b2⟩
    have B2 := Lib.hid b2
    clear HFI hW1 hWz z0 z1 z2 z3 z4 y0 y1 y2 y3 y4 c0 c1 c2 c3 c4
    go_wp2_with fail
    go_ret2
    exact ⟨rfl, H1.out.below b2, (B1.out.mono HLT.out).trans (b2.mono (Nat.le_trans HLT.out B1.out.size)), (Kt.of B1.out).trans (Kt.of b2)⟩
end M
end Go.Proofs.Ytpjcfepngjpfbaa
namespace Go.Proofs.Ytpjcfepngjpfbaa
open Go.RowKit
namespace M
attribute [local go_sem] Oper.semAt_some
set_option maxRecDepth 100000 in
set_option maxHeartbeats 1000000 in
theorem rule_any {n0 B most : Nat} {W : World} {E : List En} (h : StAt n0 W B most E) {i : Nat} (h0 : 0 < i) (hi : i ≤ E.length) (hE : E.length ≤ 1048576) :
    Calls Try.prog 23 #[.pointer (some ⟨B, 0, none⟩), .int .i64 i] W fun e w' => e = .returned (.tuple #[ruV (entAt E i).ru, .nilIface]) ∧ Below W.heap.size W w' := by
  obtain ⟨W1, hW1⟩ : ∃ w, W.alloc (.cells #[.int .i64 0, .int .u8 0, .int .i64 0, .int .i64 0, .int .i64 0] 59) = w := ⟨_, rfl⟩
  have k1 : RuC W1 W.heap.size ⟨0, 0, 0, 0, 0⟩ := by rw [← hW1]; exact heap_new' _ _
  have b1 : Below W.heap.size W W1 := by rw [← hW1]; exact (Below.refl _ _).alloc (Nat.le_refl _) _
  have HKN := Lib.hid (known_any (h.below b1) (i : Int))
  rw [decide_eq_true (show 0 ≤ (i : Int) ∧ (i : Int) ≤ (E.length : Int) by omega)] at HKN
  obtain ⟨lv, mb, h1, h2, h3, h4, h5⟩ := h.below b1
  clear h
  obtain ⟨-, c1, -, -⟩ := h1.cells
  have hi0 : ((i : Int) == 0) = false := by simp; omega
  have hlt : i - 1 < E.length := by omega
  obtain ⟨g, cap, rfl, -, -, hc⟩ := h2.at hlt
  obtain ⟨⟨q0, q1, q2, q3, q4⟩, -⟩ := hc W1 (Below.refl _ _) (i - 1) hlt
  have HW := Lib.hid (entAt_some h0 hi)
  generalize E[i - 1] = e at *
  have hs : IntKind.i64.wrap ((i : Int) - 1) = ((i - 1 : Nat) : Int) := by rw [IntKind.wrap_i64]; omega
  have hi3 : ((i - 1 : Nat) : Int) < (E.length : Int) := by omega
  have hi4 : (0 : Int) ≤ ((i - 1 : Nat) : Int) := by omega
  obtain ⟨j, hj⟩ : ∃ j, i - 1 = j := ⟨_, rfl⟩
  rw [hj] at hs hi3 hi4 q0 q1 q2 q3 q4
  obtain ⟨x0, x1, x2, x3, x4⟩ : W1.cell? ⟨W.heap.size, 0, none⟩ = some (.int .i64 0) ∧ W1.cell? ⟨W.heap.size, 1, none⟩ = some (.int .u8 0) ∧ W1.cell? ⟨W.heap.size, 2, none⟩ = some (.int .i64 0) ∧ W1.cell? ⟨W.heap.size, 3, none⟩ = some (.int .i64 0) ∧ W1.cell? ⟨W.heap.size, 4, none⟩ = some (.int .i64 0) := k1.cells
  have f0 := k1.free 0; have f1 := k1.free 1; have f2 := k1.free 2; have f3 := k1.free 3; have f4 := k1.free 4
  obtain ⟨w3, hw3⟩ : ∃ w, ((((W1.setCell ⟨W.heap.size, 0, none⟩ (.int .i64 e.ru.kind)).setCell ⟨W.heap.size, 1, none⟩ (.int .u8 e.ru.letter)).setCell ⟨W.heap.size, 2, none⟩ (.int .i64 e.ru.left)).setCell ⟨W.heap.size, 3, none⟩ (.int .i64 e.ru.right)).setCell ⟨W.heap.size, 4, none⟩ (.int .i64 e.ru.times) = w := ⟨_, rfl⟩
  have K3 : Hid (RuC w3 W.heap.size e.ru) := Lib.hid (by rw [← hw3]; exact k1.set e.ru)
  have B3 : Hid (Below W.heap.size W w3) := Lib.hid (by
    rw [← hw3]
    exact ((((b1.setCell (p := ⟨W.heap.size, 0, none⟩) (Nat.le_refl _) _).setCell (p := ⟨W.heap.size, 1, none⟩) (Nat.le_refl _) _).setCell (p := ⟨W.heap.size, 2, none⟩) (Nat.le_refl _) _).setCell (p := ⟨W.heap.size, 3, none⟩) (Nat.le_refl _) _).setCell (p := ⟨W.heap.size, 4, none⟩) (Nat.le_refl _) _)
  clear h1 h2 h3 h4 h5 hc k1 b1 hlt hj
  go_enter Try.func23, Try.ntmps23
  go_wp2_with fail
  refine HKN.out.mono ?_; rintro e' w4 ⟨rfl, h⟩; rw [h]; clear h w4
  go_wp2_with fail
  obtain ⟨x0, x1, x2, x3, x4⟩ := K3.out.cells
  exact bodyPost_ret (v := .tuple #[ruV e.ru, .nilIface]) (by simp [results, Try.results23, go_sem, x0, x1, x2, x3, x4]) rfl ⟨by rw [HW.out], B3.out⟩
set_option maxRecDepth 100000 in
set_option maxHeartbeats 1000000 in
theorem weight_any {n0 B most : Nat} {W : World} {E : List En} (h : StAt n0 W B most E) {i : Nat} (hi : i ≤ E.length) (hE : E.length ≤ 1048576) :
    Calls Try.prog 39 #[.pointer (some ⟨B, 0, none⟩), .int .i64 i] W fun e w' => e = .returned (.tuple #[wtV (entAt E i).w, .nilIface]) ∧ Below W.heap.size W w' := by
  obtain ⟨W1, hW1⟩ : ∃ w, W.alloc (.cells #[.int .i64 0, .int .i64 0, .int .i64 0, .int .i64 0, .int .u64 0, .int .u64 0] 88) = w := ⟨_, rfl⟩
  have k1 : WtC W1 W.heap.size w0 := by rw [← hW1]; exact heap_new' _ _
  have b1 : Below W.heap.size W W1 := by rw [← hW1]; exact (Below.refl _ _).alloc (Nat.le_refl _) _
  have HKN := Lib.hid (known_any (h.below b1) (i : Int))
  rw [decide_eq_true (show 0 ≤ (i : Int) ∧ (i : Int) ≤ (E.length : Int) by omega)] at HKN
  have HAT := Lib.hid (at_any (h.below b1) hi hE)
  have hfl : ∀ (a b c d e f g h i j k l m : Value) (w : World), (Instr.field 122 (.agg #[a, b, c, d, e, f, g, h, i, j, k, l, m]) 1).run Try.prog w = .ok (.agg #[f, g, h, i, j, k]) w := fun _ _ _ _ _ _ _ _ _ _ _ _ _ _ => by kernel_rfl
  have K1 := Lib.hid k1; have B1 := Lib.hid b1
  obtain ⟨e, he⟩ : ∃ e, entAt E i = e := ⟨_, rfl⟩
  rw [he] at HAT ⊢
  unfold enV at HAT
  clear h k1 b1 he
  go_enter Try.func39, Try.ntmps39
  go_wp2_with fail
  refine HKN.out.mono ?_; rintro e' w4 ⟨rfl, h⟩; rw [h]; clear h w4 hW1
  go_wp2_with fail
  refine HAT.out.mono ?_; rintro e' w2 ⟨rfl, b2⟩
  have k2 := below_block b2 K1.out
  obtain ⟨x0, x1, x2, x3, x4, x5⟩ := WtC.cells k2
  have f0 := WtC.free k2 0; have f1 := WtC.free k2 1; have f2 := WtC.free k2 2; have f3 := WtC.free k2 3; have f4 := WtC.free k2 4; have f5 := WtC.free k2 5
  simp only [w0] at x0 x1 x2 x3 x4 x5
  have K3 := Lib.hid (WtC.set k2 e.w)
  have B3 := Lib.hid (setW_below (Below.after B1.out b2) (Nat.le_refl _) e.w)
  obtain ⟨w3, hw3⟩ : ∃ w, setW w2 W.heap.size e.w = w := ⟨_, rfl⟩
  rw [hw3] at K3 B3
  simp only [setW] at hw3
  clear k2 b2
  go_wp2_with fail
  obtain ⟨x0, x1, x2, x3, x4, x5⟩ := K3.out.cells
  exact bodyPost_ret (v := .tuple #[wtV e.w, .nilIface]) (by simp [results, Try.results39, go_sem, x0, x1, x2, x3, x4, x5]) rfl ⟨rfl, B3.out⟩
end M
end Go.Proofs.Ytpjcfepngjpfbaa
