/- Rules as a map's keys: the store's map.
The store of rules: its blocks; known, at.
The store of rules: an entry's block; at.
The store of rules: find.
The store of rules: add.
The store of rules: what its rules derive; Letter.
The store of rules: Rule, Weight.
An empty store. -/
import Derived.Test.YtplccefjljdjnaaWtA
import Derived.Test.YtplccefjljdjnaaCom
import Derived.DeepKeys4
set_option linter.unusedVariables false
set_option linter.unusedSimpArgs false
namespace Go.Proofs.Ytplccefjljdjnaa
open Go.RowKit Go.MapKept Go.ChangeMaps Go.WideMaps
namespace M
structure Ru where
  kind : Nat
  letter : Nat
  left : Nat
  right : Nat
  times : Nat
deriving DecidableEq
abbrev ruV (r : Ru) : Value := .agg #[.int .i64 r.kind, .int .u8 r.letter, .int .i64 r.left, .int .i64 r.right, .int .i64 r.times]
def Ru.ok (r : Ru) : Prop := r.kind ≤ 9223372036854775807 ∧ r.letter ≤ 255 ∧ r.left ≤ 9223372036854775807 ∧ r.right ≤ 9223372036854775807 ∧ r.times ≤ 9223372036854775807
theorem ruV_inj {a b : Ru} (h : ruV a = ruV b) : a = b := by
  obtain ⟨a1, a2, a3, a4, a5⟩ := a
  obtain ⟨b1, b2, b3, b4, b5⟩ := b
  simp only [ruV, Value.agg.injEq, Array.mk.injEq, List.cons.injEq, Value.int.injEq, true_and, and_true] at h
  simp only [Ru.mk.injEq]
  omega
theorem wfN {q : IntKind} {n : Nat} (h : q = .i64 ∧ n ≤ 9223372036854775807 ∨ q = .u8 ∧ n ≤ 255) : (Lit.int q (n : Int)).wf = true := by
  rcases h with ⟨rfl, h⟩ | ⟨rfl, h⟩
  · simp [Lit.wf, IntKind.min, IntKind.max, IntKind.signed, IntKind.bits]; omega
  · simp [Lit.wf, IntKind.min, IntKind.max, IntKind.signed, IntKind.bits]; omega
theorem ru_keyed : Maps.Keyed Try.prog 111 := Maps.Keyed.of_law (deep_law_laid (by kernel_rfl) (m := 9999) (by decide) (by decide +kernel) (by kernel_rfl) (by kernel_rfl))
theorem keyOf_ru {r : Ru} (h : r.ok) : ∃ l, keyOf Try.prog 111 (ruV r) = some l := by
  have hkt : Try.prog.keyType 111 = true := by kernel_rfl
  have hc : Try.prog.cellsOf 111 = 5 := by kernel_rfl
  have hs := Try.underlying111
  have hI := Try.underlying3
  have hU := Try.underlying5
  have hD := Try.underlying65
  have eI : Try.prog.cellsOf 3 = 1 := by kernel_rfl
  have eU : Try.prog.cellsOf 5 = 1 := by kernel_rfl
  have eD : Try.prog.cellsOf 65 = 1 := by kernel_rfl
  obtain ⟨m, hm⟩ : ∃ m, Try.prog.types.size = m + 1 := ⟨Try.prog.types.size - 1, by kernel_rfl⟩
  obtain ⟨h1, h2, h3, h4, h5⟩ := h
  have w1 := wfN (q := .i64) (n := r.kind) (.inl ⟨rfl, h1⟩)
  have w2 := wfN (q := .u8) (n := r.letter) (.inr ⟨rfl, h2⟩)
  have w3 := wfN (q := .i64) (n := r.left) (.inl ⟨rfl, h3⟩)
  have w4 := wfN (q := .i64) (n := r.right) (.inl ⟨rfl, h4⟩)
  have w5 := wfN (q := .i64) (n := r.times) (.inl ⟨rfl, h5⟩)
  unfold keyOf
  simp only [hs]
  rw [if_pos (by simp [hkt, Value.formed, hs, hc]), hm]
  unfold Program.keyLits
  simp only [hs, Value.cells]
  rw [if_pos (by simp [hc])]
  simp [List.mapM_cons, List.mapM_nil, eI, eU, eD, Program.keyLits, hI, hU, hD, w1, w2, w3, w4, w5]
/-- An entry of the store. -/
structure En where
  ru : Ru
  w : Wt
  depth : Nat
  even : Bool
/-- The map's entries, the first with number n. -/
def idl : Nat → List En → List (Value × Value)
  | _, [] => []
  | n, e :: E => (ruV e.ru, .int .i64 n) :: idl (n + 1) E
theorem idl_length : ∀ (n : Nat) (E : List En), (idl n E).length = E.length
  | _, [] => rfl
  | n, e :: E => by simp [idl, idl_length]
theorem idl_append : ∀ (n : Nat) (E : List En) (e : En), idl n (E ++ [e]) = idl n E ++ [(ruV e.ru, .int .i64 (n + E.length : Nat))]
  | n, [], e => rfl
  | n, a :: E, e => by
    have h := idl_append (n + 1) E e
    simp only [List.cons_append, idl, h, List.length_cons]
    rw [show n + 1 + E.length = n + (E.length + 1) by omega]
theorem idl_at : ∀ (n : Nat) (E : List En) (j : Nat) (x : Value × Value), (idl n E)[j]? = some x → ∃ e, E[j]? = some e ∧ x = (ruV e.ru, .int .i64 (n + j : Nat))
  | _, [], j, x, h => by simp [idl] at h
  | n, e :: E, 0, x, h => by
    simp only [idl, List.getElem?_cons_zero, Option.some.injEq] at h
    exact ⟨e, rfl, h.symm⟩
  | n, e :: E, j + 1, x, h => by
    simp only [idl, List.getElem?_cons_succ] at h
    obtain ⟨e', h1, h2⟩ := idl_at (n + 1) E j x h
    exact ⟨e', h1, by rw [h2, show n + 1 + j = n + (j + 1) by omega]⟩
/-- The number of a rule; 0 if it is not there. -/
def fid (r : Ru) : Nat → List En → Nat
  | _, [] => 0
  | n, e :: E => if e.ru = r then n else fid r (n + 1) E
theorem fid_none {r : Ru} : ∀ {n : Nat} {E : List En}, (∀ e ∈ E, e.ru ≠ r) → fid r n E = 0
  | _, [], _ => rfl
  | n, e :: E, h => by rw [fid, if_neg (h e (List.mem_cons_self ..))]; exact fid_none fun x hx => h x (List.mem_cons_of_mem _ hx)
theorem fid_at {r : Ru} : ∀ {n j : Nat} {E : List En} {e : En}, (E.map En.ru).Nodup → E[j]? = some e → e.ru = r → fid r n E = n + j
  | n, 0, a :: E, e, _, h, hr => by
    simp only [List.getElem?_cons_zero, Option.some.injEq] at h
    subst h
    rw [fid, if_pos hr, Nat.add_zero]
  | n, j + 1, a :: E, e, hn, h, hr => by
    rw [List.getElem?_cons_succ] at h
    obtain ⟨h1, h2⟩ := List.nodup_cons.1 hn
    rw [fid, if_neg (fun x => h1 (List.mem_map.2 ⟨e, List.mem_of_getElem? h, hr.trans x.symm⟩)), fid_at h2 h hr]
    omega
theorem fid_zero {r : Ru} : ∀ {n : Nat} {E : List En}, 0 < n → fid r n E = 0 → ∀ e ∈ E, e.ru ≠ r
  | _, [], _, _, e, he => by cases he
  | n, a :: E, hn, h, e, he => by
    rw [fid] at h
    split at h
    · omega
    · rename_i hne
      rcases List.mem_cons.1 he with rfl | he
      · exact hne
      · exact fid_zero (by omega) h e he
theorem fid_le {r : Ru} : ∀ {n : Nat} {E : List En}, fid r n E ≠ 0 → ∃ j e, fid r n E = n + j ∧ E[j]? = some e ∧ e.ru = r
  | _, [], h => absurd rfl h
  | n, a :: E, h => by
    rw [fid] at h ⊢
    split at h
    · rename_i hr; rw [if_pos hr]; exact ⟨0, a, rfl, rfl, hr⟩
    · rename_i hr
      rw [if_neg hr]
      obtain ⟨j, e, h1, h2, h3⟩ := fid_le h
      exact ⟨j + 1, e, by omega, by simpa using h2, h3⟩
/-- The store's map. -/
def MapR (w : World) (b : Nat) (E : List En) : Prop :=
  ∃ es clock, w.heap[b]? = some (.map es clock) ∧ Stamped es clock ∧ es.toList.map (fun e => (e.key, e.val)) = idl 1 E ∧ ∀ e ∈ E, e.ru.ok
section
variable {w : World} {b : Nat} {E : List En}
theorem MapR.lt (h : MapR w b E) : b < w.heap.size := by obtain ⟨es, c, h, -⟩ := h; exact (Array.getElem?_eq_some_iff.1 h).1
theorem MapR.of_block {w' : World} (h : MapR w b E) (hb : w'.heap[b]? = w.heap[b]?) : MapR w' b E := by
  obtain ⟨es, c, h1, h2⟩ := h
  exact ⟨es, c, hb.trans h1, h2⟩
theorem MapR.below {w' : World} (h : MapR w b E) (hb : Below w.heap.size w w') : MapR w' b E := h.of_block (hb.block b h.lt)
theorem MapR.made (w : World) : MapR (w.alloc (.map #[] 0)) w.heap.size [] :=
  ⟨#[], 0, heap_new' _ _, stamped_empty 0, by simp [idl], by simp⟩
theorem MapR.nodup (h : MapR w b E) : (E.map En.ru).Nodup := by
  obtain ⟨es, c, -, h2, h3, -⟩ := h
  have h4 := ((stamped_iff es c).1 h2).2.2
  have h5 : (es.toList.map (fun e => (e.key, e.val))).Pairwise (fun x y => x.1 ≠ y.1) := List.pairwise_map.2 h4
  rw [h3] at h5
  have : ∀ (n : Nat) (E : List En), (idl n E).Pairwise (fun x y => x.1 ≠ y.1) → (E.map En.ru).Nodup := by
    intro n E
    induction E generalizing n with
    | nil => intro _; exact List.nodup_nil
    | cons a E ih =>
      intro h
      rw [idl] at h
      obtain ⟨h1, h2⟩ := List.pairwise_cons.1 h
      rw [List.map_cons]
      refine List.nodup_cons.2 ⟨fun hin => ?_, ih _ h2⟩
      obtain ⟨e, he, hr⟩ := List.mem_map.1 hin
      obtain ⟨j, hj, hje⟩ := List.getElem_of_mem he
      have hl : j < (idl (n + 1) E).length := by rw [idl_length]; exact hj
      obtain ⟨e', h3, h4⟩ := idl_at (n + 1) E j _ (List.getElem?_eq_getElem hl)
      rw [List.getElem?_eq_getElem hj, hje] at h3
      cases h3
      refine h1 _ (List.getElem_mem hl) ?_
      rw [h4]
      show ruV a.ru = ruV e.ru
      rw [hr]
  exact this 1 E h5
theorem MapR.reads {es : Array MapEntry} (h3 : es.toList.map (fun e => (e.key, e.val)) = idl 1 E) (h4 : ∀ e ∈ E, e.ru.ok) : ∀ x ∈ es.toList, ∃ lx, keyOf Try.prog 111 x.key = some lx := by
  intro x hx
  have : (x.key, x.val) ∈ idl 1 E := by rw [← h3]; exact List.mem_map.2 ⟨x, hx, rfl⟩
  obtain ⟨j, hj, hje⟩ := List.getElem_of_mem this
  obtain ⟨e, h5, h6⟩ := idl_at 1 E j _ (List.getElem?_eq_getElem hj)
  rw [hje] at h6
  have : x.key = ruV e.ru := (Prod.mk.inj h6).1
  rw [this]
  exact keyOf_ru (h4 e (List.mem_of_getElem? h5))
theorem MapR.look (h : MapR w b E) {r : Ru} (hr : r.ok) :
    (Instr.lookup 88 (.map (some b)) (ruV r) true).run Try.prog w = .ok (.tuple #[.int .i64 (fid r 1 E), .bool (decide (fid r 1 E ≠ 0))]) w := by
  have hn := h.nodup
  obtain ⟨es, clock, hb, h2, h3, h4⟩ := h
  have K := ru_keyed
  obtain ⟨lx, hkey⟩ := keyOf_ru hr
  have ht := Try.underlying88
  have hz : (zeroValue 65).run Try.prog w = .ok (.int .i64 0) w := by kernel_rfl
  rcases K.find w hkey es.toList (MapR.reads h3 h4) with ⟨h5, h6⟩ | ⟨j, e0, h5, h6, h7⟩
  · have hf : fid r 1 E = 0 := fid_none fun e he hre => by
      obtain ⟨j, hj, hje⟩ := List.getElem_of_mem he
      have hl : j < (idl 1 E).length := by rw [idl_length]; exact hj
      obtain ⟨e', h8, h9⟩ := idl_at 1 E j _ (List.getElem?_eq_getElem hl)
      rw [List.getElem?_eq_getElem hj, hje] at h8
      cases h8
      have h10 : (idl 1 E)[j] ∈ es.toList.map (fun e => (e.key, e.val)) := by rw [h3]; exact List.getElem_mem hl
      obtain ⟨x, hx, hxe⟩ := List.mem_map.1 h10
      rw [h9] at hxe
      exact h6 x hx (by rw [(Prod.mk.inj hxe).1, hre])
    rw [hf]
    simp [Instr.lookup, run_underlying ht, MapKept.run_getObj_map hb, K.check w _ hkey, h5, hz, Result.andThen]
  · have h8 : (idl 1 E)[j]? = some (e0.key, e0.val) := by rw [← h3, List.getElem?_map, h6]; rfl
    obtain ⟨e, h9, h10⟩ := idl_at 1 E j _ h8
    have h11 : e0.key = ruV e.ru := (Prod.mk.inj h10).1
    have h12 : e0.val = .int .i64 (1 + j : Nat) := (Prod.mk.inj h10).2
    have hre : e.ru = r := ruV_inj (h11.symm.trans h7)
    have hf : fid r 1 E = 1 + j := fid_at hn h9 hre
    rw [hf]
    have hd : decide (1 + j ≠ 0) = true := decide_eq_true (by omega)
    simp [Instr.lookup, run_underlying ht, MapKept.run_getObj_map hb, K.check w _ hkey, h5, h12, Result.andThen]
theorem MapR.put (h : MapR w b E) (hroom : E.length < 9223372036854775807) (e : En) (hr : e.ru.ok) (hnew : fid e.ru 1 E = 0) :
    ∃ w', (Instr.mapUpdate 88 (.map (some b)) (ruV e.ru) (.int .i64 (E.length + 1 : Nat))).run Try.prog w = .ok () w' ∧ MapR w' b (E ++ [e]) ∧ w.grownBy w' (some b) ∧ w'.heap.size = w.heap.size := by
  obtain ⟨es, clock, hb, h2, h3, h4⟩ := h
  have K := ru_keyed
  obtain ⟨lx, hkey⟩ := keyOf_ru hr
  have ht := Try.underlying88
  have hsz : es.size = E.length := by have := congrArg List.length h3; rw [idl_length] at this; simpa using this
  have grow : ∀ o, w.grownBy (setBlock w b o) (some b) := fun o => ⟨rfl, rfl, rfl, by simp [setBlock], fun i _ hi => heap_setBlock_other hb _ (fun e => hi (by rw [e]))⟩
  rcases K.find w hkey es.toList (MapR.reads h3 h4) with ⟨h5, h6⟩ | ⟨j, e0, h5, h6, h7⟩
  · refine ⟨setBlock w b (.map (es.push ⟨ruV e.ru, .int .i64 (E.length + 1 : Nat), clock⟩) (clock + 1)), ?_, ⟨_, _, heap_setBlock_same hb _, stamped_push h2 h6, ?_, ?_⟩, grow _, by simp [setBlock]⟩
    · have : es.size < maxLen := by unfold maxLen; omega
      simp [Instr.mapUpdate, run_underlying ht, MapKept.run_getObj_map hb, K.check w false hkey, h5, MapKept.run_setObj_map _ hb, Result.andThen, setBlock]
    · rw [Array.toList_push, List.map_append, h3, idl_append, show 1 + E.length = E.length + 1 by omega]
      rfl
    · intro x hx
      rcases List.mem_append.1 hx with hx | hx
      · exact h4 x hx
      · simp only [List.mem_singleton] at hx; subst hx; exact hr
  · exfalso
    have h8 : (idl 1 E)[j]? = some (e0.key, e0.val) := by rw [← h3, List.getElem?_map, h6]; rfl
    obtain ⟨e', h9, h10⟩ := idl_at 1 E j _ h8
    have hre : e'.ru = e.ru := ruV_inj ((Prod.mk.inj h10).1.symm.trans h7)
    exact fid_zero (by omega) hnew e' (List.mem_of_getElem? h9) hre
end
end M
end Go.Proofs.Ytplccefjljdjnaa
namespace Go.Proofs.Ytplccefjljdjnaa
open Go.RowKit
namespace M
attribute [local go_sem] Oper.semAt_some
def enL (e : En) : List Value := [.int .i64 e.ru.kind, .int .u8 e.ru.letter, .int .i64 e.ru.left, .int .i64 e.ru.right, .int .i64 e.ru.times, .int .i64 e.w.len, .int .i64 e.w.lines, .int .i64 e.w.head, .int .i64 e.w.tail, .int .u64 e.w.d.v, .int .u64 e.w.d.s, .int .i64 e.depth, .bool e.even]
theorem enL_len (e : En) : (enL e).length = 13 := rfl
abbrev enV (e : En) : Value := .agg #[.int .i64 e.ru.kind, .int .u8 e.ru.letter, .int .i64 e.ru.left, .int .i64 e.ru.right, .int .i64 e.ru.times, .int .i64 e.w.len, .int .i64 e.w.lines, .int .i64 e.w.head, .int .i64 e.w.tail, .int .u64 e.w.d.v, .int .u64 e.w.d.s, .int .i64 e.depth, .bool e.even]
abbrev Ens (B : Nat) (W : World) (v : Value) (E : List En) : Prop := SlA B W 121 13 enL v E
theorem elemE : Elem Try.prog 89 121 13 104 := elem_of Try.underlying89 (z := .agg #[.int .i64 0, .int .u8 0, .int .i64 0, .int .i64 0, .int .i64 0, .int .i64 0, .int .i64 0, .int .i64 0, .int .i64 0, .int .u64 0, .int .u64 0, .int .i64 0, .bool false]) (by kernel_rfl) rfl (by decide) (by decide)
/-- Thirteen cells of an entry from an offset on. -/
def EnAt (W : World) (g o : Nat) (e : En) : Prop := (W.cell? ⟨g, o, none⟩ = some (.int .i64 e.ru.kind) ∧ W.cell? ⟨g, o + 1, none⟩ = some (.int .u8 e.ru.letter) ∧ W.cell? ⟨g, o + 2, none⟩ = some (.int .i64 e.ru.left) ∧ W.cell? ⟨g, o + 3, none⟩ = some (.int .i64 e.ru.right) ∧ W.cell? ⟨g, o + 4, none⟩ = some (.int .i64 e.ru.times)) ∧
  (W.cell? ⟨g, o + 5, none⟩ = some (.int .i64 e.w.len) ∧ W.cell? ⟨g, o + 6, none⟩ = some (.int .i64 e.w.lines) ∧ W.cell? ⟨g, o + 7, none⟩ = some (.int .i64 e.w.head) ∧ W.cell? ⟨g, o + 8, none⟩ = some (.int .i64 e.w.tail) ∧ W.cell? ⟨g, o + 9, none⟩ = some (.int .u64 e.w.d.v) ∧ W.cell? ⟨g, o + 10, none⟩ = some (.int .u64 e.w.d.s)) ∧
  W.cell? ⟨g, o + 11, none⟩ = some (.int .i64 e.depth) ∧ W.cell? ⟨g, o + 12, none⟩ = some (.bool e.even)
theorem Ens.at {B : Nat} {W : World} {v : Value} {E : List En} (h : Ens B W v E) {i : Nat} (hi : i < E.length) :
    ∃ g cap, v = .slice (some ⟨g, 0, none⟩) E.length cap ∧ E.length ≤ cap ∧ cap ≤ maxLen ∧ ∀ (W' : World), Below W.heap.size W W' → ∀ i (hi : i < E.length), EnAt W' g (i * 13) E[i] := by
  rcases h.shape with ⟨-, rfl⟩ | ⟨g, cap, rfl, h1, h2⟩
  · simp at hi
  · refine ⟨g, cap, rfl, h1, h2, fun W' hb i hi => ?_⟩
    have h' := h.below hb
    have c := fun (j : Nat) (hj : j < 13) => SlA.cell enL_len h' hi (j := j) hj
    exact ⟨⟨c 0 (by omega), c 1 (by omega), c 2 (by omega), c 3 (by omega), c 4 (by omega)⟩, ⟨c 5 (by omega), c 6 (by omega), c 7 (by omega), c 8 (by omega), c 9 (by omega), c 10 (by omega)⟩, c 11 (by omega), c 12 (by omega)⟩
/-- The store's own block. -/
def StC (W : World) (B most : Nat) (lv : Value) (mb : Nat) : Prop := W.heap[B]? = some (.cells #[.int .i64 most, lv, .map (some mb)] 91 (0, 0))
theorem StC.cells {W : World} {B most mb : Nat} {lv : Value} (h : StC W B most lv mb) : W.cell? ⟨B, 0, none⟩ = some (.int .i64 most) ∧ W.cell? ⟨B, 1, none⟩ = some lv ∧ W.cell? ⟨B, 2, none⟩ = some (.map (some mb)) ∧ W.frozen? ⟨B, 1, none⟩ = false := by
  unfold StC at h
  simp [World.cell?, World.frozen?, h]
/-- A store; nothing of it lies below n0. -/
def StAt (n0 : Nat) (W : World) (B most : Nat) (E : List En) : Prop := ∃ lv mb, StC W B most lv mb ∧ Ens n0 W lv E ∧ MapR W mb E ∧ n0 ≤ B ∧ n0 ≤ mb
theorem StAt.below {n0 B most : Nat} {W W' : World} {E : List En} (h : StAt n0 W B most E) (hb : Below W.heap.size W W') : StAt n0 W' B most E := by
  obtain ⟨lv, mb, h1, h2, h3, h4⟩ := h
  exact ⟨lv, mb, below_block hb h1, h2.below hb, h3.below hb, h4⟩
theorem StAt.lt {n0 B most : Nat} {W : World} {E : List En} (h : StAt n0 W B most E) : n0 ≤ W.heap.size := by
  obtain ⟨lv, mb, h1, h2, h3, h4, h5⟩ := h
  exact Nat.le_trans h4 (Nat.le_of_lt (Array.getElem?_eq_some_iff.1 h1).1)
/-- What is known of a number. -/
def entAt (E : List En) (i : Nat) : En := if i = 0 then ⟨⟨0, 0, 0, 0, 0⟩, wt [], 0, true⟩ else (E[i - 1]?).getD ⟨⟨0, 0, 0, 0, 0⟩, wt [], 0, true⟩
theorem entAt_some {E : List En} {i : Nat} (h0 : 0 < i) (hi : i ≤ E.length) : entAt E i = E[i - 1]'(by omega) := by
  unfold entAt
  rw [if_neg (by omega), List.getElem?_eq_getElem (by omega)]; rfl
set_option maxRecDepth 100000 in
theorem known_any {n0 B most : Nat} {W : World} {E : List En} (h : StAt n0 W B most E) (i : Int) :
    Calls Try.prog 53 #[.pointer (some ⟨B, 0, none⟩), .int .i64 i] W fun e w' => e = .returned (.bool (decide (0 ≤ i ∧ i ≤ E.length))) ∧ w' = W := by
  obtain ⟨lv, mb, h1, h2, -, -, -⟩ := h
  obtain ⟨a, cap, rfl⟩ := h2.len
  obtain ⟨-, c1, -, -⟩ := h1.cells
  clear h1 h2
  by_cases k1 : 0 ≤ i
  · by_cases k2 : i ≤ (E.length : Int)
    · rw [decide_eq_true (show 0 ≤ i ∧ i ≤ (E.length : Int) from ⟨k1, k2⟩)]
      go_enter Try.func53, Try.ntmps53
      go_wp2_with fail
      go_ret
      exact ⟨rfl, rfl⟩
    · rw [decide_eq_false (show ¬ (0 ≤ i ∧ i ≤ (E.length : Int)) from fun h => k2 h.2)]
      go_enter Try.func53, Try.ntmps53
      go_wp2_with fail
      go_ret
      exact ⟨rfl, rfl⟩
  · rw [decide_eq_false (show ¬ (0 ≤ i ∧ i ≤ (E.length : Int)) from fun h => k1 h.1)]
    go_enter Try.func53, Try.ntmps53
    go_wp2_with fail
    go_ret
    exact ⟨rfl, rfl⟩
end M
end Go.Proofs.Ytplccefjljdjnaa
namespace Go.Proofs.Ytplccefjljdjnaa
open Go.RowKit
namespace M
attribute [local go_sem] Oper.semAt_some
/-- An entry in a block. -/
def EnC (W : World) (g : Nat) (e : En) : Prop := W.heap[g]? = some (.cells #[.int .i64 e.ru.kind, .int .u8 e.ru.letter, .int .i64 e.ru.left, .int .i64 e.ru.right, .int .i64 e.ru.times, .int .i64 e.w.len, .int .i64 e.w.lines, .int .i64 e.w.head, .int .i64 e.w.tail, .int .u64 e.w.d.v, .int .u64 e.w.d.s, .int .i64 e.depth, .bool e.even] 121 (0, 0))
def en0 : En := ⟨⟨0, 0, 0, 0, 0⟩, w0, 0, false⟩
section
variable {W : World} {g : Nat} {e : En}
theorem EnC.cells (h : EnC W g e) : W.cell? ⟨g, 0, none⟩ = some (.int .i64 e.ru.kind) ∧ W.cell? ⟨g, 1, none⟩ = some (.int .u8 e.ru.letter) ∧ W.cell? ⟨g, 2, none⟩ = some (.int .i64 e.ru.left) ∧ W.cell? ⟨g, 3, none⟩ = some (.int .i64 e.ru.right) ∧ W.cell? ⟨g, 4, none⟩ = some (.int .i64 e.ru.times) ∧ W.cell? ⟨g, 5, none⟩ = some (.int .i64 e.w.len) ∧ W.cell? ⟨g, 6, none⟩ = some (.int .i64 e.w.lines) ∧ W.cell? ⟨g, 7, none⟩ = some (.int .i64 e.w.head) ∧ W.cell? ⟨g, 8, none⟩ = some (.int .i64 e.w.tail) ∧ W.cell? ⟨g, 9, none⟩ = some (.int .u64 e.w.d.v) ∧ W.cell? ⟨g, 10, none⟩ = some (.int .u64 e.w.d.s) ∧ W.cell? ⟨g, 11, none⟩ = some (.int .i64 e.depth) ∧ W.cell? ⟨g, 12, none⟩ = some (.bool e.even) := by
  unfold EnC at h
  simp [World.cell?, h]
theorem EnC.free (h : EnC W g e) (i : Nat) : W.frozen? ⟨g, i, none⟩ = false := by
  unfold EnC at h
  simp [World.frozen?, h]
abbrev setE (W : World) (g : Nat) (e : En) : World := (((((((((((((W).setCell ⟨g, 0, none⟩ (.int .i64 e.ru.kind)).setCell ⟨g, 1, none⟩ (.int .u8 e.ru.letter)).setCell ⟨g, 2, none⟩ (.int .i64 e.ru.left)).setCell ⟨g, 3, none⟩ (.int .i64 e.ru.right)).setCell ⟨g, 4, none⟩ (.int .i64 e.ru.times)).setCell ⟨g, 5, none⟩ (.int .i64 e.w.len)).setCell ⟨g, 6, none⟩ (.int .i64 e.w.lines)).setCell ⟨g, 7, none⟩ (.int .i64 e.w.head)).setCell ⟨g, 8, none⟩ (.int .i64 e.w.tail)).setCell ⟨g, 9, none⟩ (.int .u64 e.w.d.v)).setCell ⟨g, 10, none⟩ (.int .u64 e.w.d.s)).setCell ⟨g, 11, none⟩ (.int .i64 e.depth)).setCell ⟨g, 12, none⟩ (.bool e.even)
set_option maxHeartbeats 1000000 in
theorem EnC.set {e0 : En} (h : EnC W g e0) (e : En) : EnC (setE W g e) g e := by
  unfold EnC at h ⊢
  have h1 := heap_set0 (i := 0) (.int .i64 e.ru.kind) h
  have h2 := heap_set0 (i := 1) (.int .u8 e.ru.letter) h1
  have h3 := heap_set0 (i := 2) (.int .i64 e.ru.left) h2
  have h4 := heap_set0 (i := 3) (.int .i64 e.ru.right) h3
  have h5 := heap_set0 (i := 4) (.int .i64 e.ru.times) h4
  have h6 := heap_set0 (i := 5) (.int .i64 e.w.len) h5
  have h7 := heap_set0 (i := 6) (.int .i64 e.w.lines) h6
  have h8 := heap_set0 (i := 7) (.int .i64 e.w.head) h7
  have h9 := heap_set0 (i := 8) (.int .i64 e.w.tail) h8
  have h10 := heap_set0 (i := 9) (.int .u64 e.w.d.v) h9
  have h11 := heap_set0 (i := 10) (.int .u64 e.w.d.s) h10
  have h12 := heap_set0 (i := 11) (.int .i64 e.depth) h11
  have h13 := heap_set0 (i := 12) (.bool e.even) h12
  simp only [List.setIfInBounds_toArray, List.set_cons_zero, List.set_cons_succ] at h13
  exact h13
theorem setE_below {n : Nat} {A : World} (h : Below n A W) (hg : n ≤ g) (e : En) : Below n A (setE W g e) :=
  (((((((((((((h).setCell (p := ⟨g, 0, none⟩) hg _).setCell (p := ⟨g, 1, none⟩) hg _).setCell (p := ⟨g, 2, none⟩) hg _).setCell (p := ⟨g, 3, none⟩) hg _).setCell (p := ⟨g, 4, none⟩) hg _).setCell (p := ⟨g, 5, none⟩) hg _).setCell (p := ⟨g, 6, none⟩) hg _).setCell (p := ⟨g, 7, none⟩) hg _).setCell (p := ⟨g, 8, none⟩) hg _).setCell (p := ⟨g, 9, none⟩) hg _).setCell (p := ⟨g, 10, none⟩) hg _).setCell (p := ⟨g, 11, none⟩) hg _).setCell (p := ⟨g, 12, none⟩) hg _
end
set_option maxRecDepth 100000 in
set_option maxHeartbeats 1000000 in
theorem at_any {n0 B most : Nat} {W : World} {E : List En} (h : StAt n0 W B most E) {i : Nat} (hi : i ≤ E.length) (hE : E.length ≤ 1048576) :
    Calls Try.prog 54 #[.pointer (some ⟨B, 0, none⟩), .int .i64 i] W fun e w' => e = .returned (enV (entAt E i)) ∧ Below W.heap.size W w' := by
  obtain ⟨W1, hW1⟩ : ∃ w, W.alloc (.cells #[.int .i64 0, .int .u8 0, .int .i64 0, .int .i64 0, .int .i64 0, .int .i64 0, .int .i64 0, .int .i64 0, .int .i64 0, .int .u64 0, .int .u64 0, .int .i64 0, .bool false] 121) = w := ⟨_, rfl⟩
  have k1 : EnC W1 W.heap.size en0 := by rw [← hW1]; exact heap_new' _ _
  have b1 : Below W.heap.size W W1 := by rw [← hW1]; exact (Below.refl _ _).alloc (Nat.le_refl _) _
  have K1 := Lib.hid k1; have B1 := Lib.hid b1
  obtain ⟨lv, mb, h1, h2, h3, h4, h5⟩ := h.below b1
  clear h
  obtain ⟨-, c1, -, -⟩ := h1.cells
  by_cases h0 : i = 0
  · subst h0
    have HW : Hid (entAt E 0 = ⟨⟨0, 0, 0, 0, 0⟩, wt [], 0, true⟩) := Lib.hid rfl
    clear h1 h2 h3 h4 h5 c1 k1 b1
    go_enter Try.func54, Try.ntmps54
    go_wp2_with fail
    refine (wunit_any W1).mono ?_; rintro e w2 ⟨rfl, b2⟩
    obtain ⟨wu, hwu⟩ : ∃ u, wt [] = u := ⟨_, rfl⟩
    have ev : wtV wu = .agg #[.int .i64 wu.len, .int .i64 wu.lines, .int .i64 wu.head, .int .i64 wu.tail, .int .u64 wu.d.v, .int .u64 wu.d.s] := rfl
    rw [hwu, ev]
    rw [hwu] at HW
    clear hwu ev
    have k2 := below_block b2 K1.out
    obtain ⟨x0, x1, x2, x3, x4, x5, x6, x7, x8, x9, x10, x11, x12⟩ := EnC.cells k2
    have f0 := EnC.free k2 0; have f1 := EnC.free k2 1; have f2 := EnC.free k2 2; have f3 := EnC.free k2 3; have f4 := EnC.free k2 4; have f5 := EnC.free k2 5; have f6 := EnC.free k2 6; have f7 := EnC.free k2 7; have f8 := EnC.free k2 8; have f9 := EnC.free k2 9; have f10 := EnC.free k2 10; have f11 := EnC.free k2 11; have f12 := EnC.free k2 12
    simp only [en0, w0] at x0 x1 x2 x3 x4 x5 x6 x7 x8 x9 x10 x11 x12
    obtain ⟨w3, hw3⟩ : ∃ w, setE w2 W.heap.size ⟨⟨0, 0, 0, 0, 0⟩, wu, 0, true⟩ = w := ⟨_, rfl⟩
    have K3 := Lib.hid (EnC.set k2 ⟨⟨0, 0, 0, 0, 0⟩, wu, 0, true⟩)
    have B3 := Lib.hid (setE_below (Below.after B1.out b2) (Nat.le_refl _) ⟨⟨0, 0, 0, 0, 0⟩, wu, 0, true⟩)
    rw [hw3] at K3 B3
    have hw3' : (((((((((((((w2).setCell ⟨W.heap.size, 0, none⟩ (.int .i64 0)).setCell ⟨W.heap.size, 1, none⟩ (.int .u8 0)).setCell ⟨W.heap.size, 2, none⟩ (.int .i64 0)).setCell ⟨W.heap.size, 3, none⟩ (.int .i64 0)).setCell ⟨W.heap.size, 4, none⟩ (.int .i64 0)).setCell ⟨W.heap.size, 5, none⟩ (.int .i64 wu.len)).setCell ⟨W.heap.size, 6, none⟩ (.int .i64 wu.lines)).setCell ⟨W.heap.size, 7, none⟩ (.int .i64 wu.head)).setCell ⟨W.heap.size, 8, none⟩ (.int .i64 wu.tail)).setCell ⟨W.heap.size, 9, none⟩ (.int .u64 wu.d.v)).setCell ⟨W.heap.size, 10, none⟩ (.int .u64 wu.d.s)).setCell ⟨W.heap.size, 11, none⟩ (.int .i64 0)).setCell ⟨W.heap.size, 12, none⟩ (.bool true) = w3 := hw3
    clear hw3 k2 b2 hW1
    go_wp2_with fail
    obtain ⟨x0, x1, x2, x3, x4, x5, x6, x7, x8, x9, x10, x11, x12⟩ := K3.out.cells
    exact bodyPost_ret (v := enV ⟨⟨0, 0, 0, 0, 0⟩, wu, 0, true⟩) (by simp [results, Try.results54, go_sem, x0, x1, x2, x3, x4, x5, x6, x7, x8, x9, x10, x11, x12]) rfl ⟨by rw [HW.out], B3.out⟩
  · have hi0 : ((i : Int) == 0) = false := by simp; omega
    have hlt : i - 1 < E.length := by omega
    obtain ⟨g, cap, rfl, -, -, hc⟩ := h2.at hlt
    obtain ⟨⟨q0, q1, q2, q3, q4⟩, ⟨q5, q6, q7, q8, q9, q10⟩, q11, q12⟩ := hc W1 (Below.refl _ _) (i - 1) hlt
    have HW := Lib.hid (entAt_some (by omega) hi)
    generalize E[i - 1] = e at *
    have hs : IntKind.i64.wrap ((i : Int) - 1) = ((i - 1 : Nat) : Int) := by rw [IntKind.wrap_i64]; omega
    have hi3 : ((i - 1 : Nat) : Int) < (E.length : Int) := by omega
    have hi4 : (0 : Int) ≤ ((i - 1 : Nat) : Int) := by omega
    obtain ⟨j, hj⟩ : ∃ j, i - 1 = j := ⟨_, rfl⟩
    rw [hj] at hs hi3 hi4 q0 q1 q2 q3 q4 q5 q6 q7 q8 q9 q10 q11 q12
    obtain ⟨x0, x1, x2, x3, x4, x5, x6, x7, x8, x9, x10, x11, x12⟩ := k1.cells
    have k2 := k1
    have f0 := EnC.free k2 0; have f1 := EnC.free k2 1; have f2 := EnC.free k2 2; have f3 := EnC.free k2 3; have f4 := EnC.free k2 4; have f5 := EnC.free k2 5; have f6 := EnC.free k2 6; have f7 := EnC.free k2 7; have f8 := EnC.free k2 8; have f9 := EnC.free k2 9; have f10 := EnC.free k2 10; have f11 := EnC.free k2 11; have f12 := EnC.free k2 12
    simp only [en0, w0] at x0 x1 x2 x3 x4 x5 x6 x7 x8 x9 x10 x11 x12
    obtain ⟨w3, hw3⟩ : ∃ w, setE W1 W.heap.size e = w := ⟨_, rfl⟩
    have K3 := Lib.hid (EnC.set k1 e)
    have B3 := Lib.hid (setE_below b1 (Nat.le_refl _) e)
    rw [hw3] at K3 B3
    simp only [setE] at hw3
    clear h1 h2 h3 h4 h5 hc k1 k2 b1 hlt hj
    go_enter Try.func54, Try.ntmps54
    go_wp2_with fail
    obtain ⟨x0, x1, x2, x3, x4, x5, x6, x7, x8, x9, x10, x11, x12⟩ := K3.out.cells
    exact bodyPost_ret (v := enV e) (by simp [results, Try.results54, go_sem, x0, x1, x2, x3, x4, x5, x6, x7, x8, x9, x10, x11, x12]) rfl ⟨by rw [HW.out], B3.out⟩
end M
end Go.Proofs.Ytplccefjljdjnaa
namespace Go.Proofs.Ytplccefjljdjnaa
open Go.RowKit
namespace M
attribute [local go_sem] Oper.semAt_some
def RuC (W : World) (g : Nat) (r : Ru) : Prop := W.heap[g]? = some (.cells #[.int .i64 r.kind, .int .u8 r.letter, .int .i64 r.left, .int .i64 r.right, .int .i64 r.times] 111 (0, 0))
theorem RuC.cells {W : World} {g : Nat} {r : Ru} (h : RuC W g r) : W.cell? ⟨g, 0, none⟩ = some (.int .i64 r.kind) ∧ W.cell? ⟨g, 1, none⟩ = some (.int .u8 r.letter) ∧ W.cell? ⟨g, 2, none⟩ = some (.int .i64 r.left) ∧ W.cell? ⟨g, 3, none⟩ = some (.int .i64 r.right) ∧ W.cell? ⟨g, 4, none⟩ = some (.int .i64 r.times) := by
  unfold RuC at h
  simp [World.cell?, h]
theorem RuC.free {W : World} {g : Nat} {r : Ru} (h : RuC W g r) (i : Nat) : W.frozen? ⟨g, i, none⟩ = false := by
  unfold RuC at h
  simp [World.frozen?, h]
theorem RuC.set {W : World} {g : Nat} {r0 : Ru} (h : RuC W g r0) (r : Ru) : RuC (((((W.setCell ⟨g, 0, none⟩ (.int .i64 r.kind)).setCell ⟨g, 1, none⟩ (.int .u8 r.letter)).setCell ⟨g, 2, none⟩ (.int .i64 r.left)).setCell ⟨g, 3, none⟩ (.int .i64 r.right)).setCell ⟨g, 4, none⟩ (.int .i64 r.times)) g r := by
  unfold RuC at h ⊢
  exact heap_set0 _ (heap_set0 _ (heap_set0 _ (heap_set0 _ (heap_set0 _ h))))
theorem RuC.new (W : World) (r : Ru) : RuC (W.alloc (.cells #[.int .i64 r.kind, .int .u8 r.letter, .int .i64 r.left, .int .i64 r.right, .int .i64 r.times] 111)) W.heap.size r := heap_new' _ _
set_option maxRecDepth 100000 in
set_option maxHeartbeats 1000000 in
theorem find_any {n0 B most : Nat} {W : World} {E : List En} (h : StAt n0 W B most E) {r : Ru} (hr : r.ok) :
    Calls Try.prog 50 #[.pointer (some ⟨B, 0, none⟩), ruV r] W fun e w' => e = .returned (.tuple #[.int .i64 (fid r 1 E), if fid r 1 E = 0 ∧ most ≤ E.length then err 3 else .nilIface]) ∧ Below W.heap.size W w' := by
  have HF : ∀ f, Fence.wide.fn f := fun _ => trivial
  unfold ruV
  obtain ⟨W1, hW1⟩ : ∃ w, W.alloc (.cells #[.int .i64 r.kind, .int .u8 r.letter, .int .i64 r.left, .int .i64 r.right, .int .i64 r.times] 111) = w := ⟨_, rfl⟩
  have k1 : RuC W1 W.heap.size r := by rw [← hW1]; exact RuC.new _ _
  have b1 : Below W.heap.size W W1 := by rw [← hW1]; exact (Below.refl _ _).alloc (Nat.le_refl _) _
  have h1 := h.below b1
  obtain ⟨lv, mb, s1, s2, s3, s4, s5⟩ := h1
  obtain ⟨a, cap, rfl⟩ := s2.len
  have m0 : ∀ w, Below W1.heap.size W1 w → w.cell? ⟨B, 0, none⟩ = some (.int .i64 most) := fun w hw => (StC.cells (below_block hw s1)).1
  have m1 : ∀ w, Below W1.heap.size W1 w → w.cell? ⟨B, 1, none⟩ = some (.slice a E.length cap) := fun w hw => (StC.cells (below_block hw s1)).2.1
  have m2 : ∀ w, Below W1.heap.size W1 w → w.cell? ⟨B, 2, none⟩ = some (.map (some mb)) := fun w hw => (StC.cells (below_block hw s1)).2.2.1
  have q0 : ∀ w, Below W1.heap.size W1 w → w.cell? ⟨W.heap.size, 0, none⟩ = some (.int .i64 r.kind) := fun w hw => (RuC.cells (below_block hw k1)).1
  have q1 : ∀ w, Below W1.heap.size W1 w → w.cell? ⟨W.heap.size, 1, none⟩ = some (.int .u8 r.letter) := fun w hw => (RuC.cells (below_block hw k1)).2.1
  have q2 : ∀ w, Below W1.heap.size W1 w → w.cell? ⟨W.heap.size, 2, none⟩ = some (.int .i64 r.left) := fun w hw => (RuC.cells (below_block hw k1)).2.2.1
  have q3 : ∀ w, Below W1.heap.size W1 w → w.cell? ⟨W.heap.size, 3, none⟩ = some (.int .i64 r.right) := fun w hw => (RuC.cells (below_block hw k1)).2.2.2.1
  have q4 : ∀ w, Below W1.heap.size W1 w → w.cell? ⟨W.heap.size, 4, none⟩ = some (.int .i64 r.times) := fun w hw => (RuC.cells (below_block hw k1)).2.2.2.2
  have lk : ∀ w, Below W1.heap.size W1 w → (Instr.lookup 88 (.map (some mb)) (.agg #[.int .i64 r.kind, .int .u8 r.letter, .int .i64 r.left, .int .i64 r.right, .int .i64 r.times]) true).run Try.prog w = .ok (.tuple #[.int .i64 (fid r 1 E), .bool (decide (fid r 1 E ≠ 0))]) w := fun w hw => MapR.look (s3.below hw) hr
  have B1 := Lib.hid b1
  clear h k1 b1 s1 s2 s3 s4 s5
  obtain ⟨f, hf⟩ : ∃ f, fid r 1 E = f := ⟨_, rfl⟩
  rw [hf]
  simp only [hf] at lk
  clear hf
  by_cases hf0 : f = 0
  · subst hf0
    have hd : decide ((0 : Nat) ≠ 0) = false := rfl
    simp only [hd] at lk
    by_cases hm : most ≤ E.length
    · have t : (E.length : Int) ≥ (most : Int) := by omega
      rw [if_pos ⟨rfl, hm⟩]
      clear hm
      go_enter Try.func50, Try.ntmps50
      go_wp2_with fail
      clear hW1
      refine wp_region_anyH (Below W1.heap.size W1) (by kernel_rfl) ?_
      have S0 : Below W1.heap.size W1 W1.drew := (Below.refl _ _).drew
      refine AnyH.take (i := 0) (d := some 9) (v := ?_) (by kernel_rfl) rfl rfl HF (fun _ _ _ h => h) (.inl ⟨by rfl, ?_⟩) (by first | assumption | rfl) ?_
      rotate_left
      · intro w hS; try subst hS
        go_simp; try with_reducible rfl
      try simp only [Act.put, List.setIfInBounds_toArray, List.set_cons_zero, List.set_cons_succ]
      refine AnyH.take (i := 1) (d := some 10) (v := ?_) (by kernel_rfl) rfl rfl HF (fun _ _ _ h => h) (.inl ⟨by rfl, ?_⟩) (by first | assumption | rfl) ?_
      rotate_left
      · intro w hS; try subst hS
        go_simp; try with_reducible rfl
      try simp only [Act.put, List.setIfInBounds_toArray, List.set_cons_zero, List.set_cons_succ]
      refine AnyH.take (i := 2) (d := some 11) (v := ?_) (by kernel_rfl) rfl rfl HF (fun _ _ _ h => h) (.inl ⟨by rfl, ?_⟩) (by first | assumption | rfl) ?_
      rotate_left
      · intro w hS; try subst hS
        go_simp; try with_reducible rfl
      try simp only [Act.put, List.setIfInBounds_toArray, List.set_cons_zero, List.set_cons_succ]
      refine AnyH.take (i := 3) (d := some 12) (v := ?_) (by kernel_rfl) rfl rfl HF (fun _ _ _ h => h) (.inl ⟨by rfl, ?_⟩) (by first | assumption | rfl) ?_
      rotate_left
      · intro w hS; try subst hS
        go_simp; try with_reducible rfl
      try simp only [Act.put, List.setIfInBounds_toArray, List.set_cons_zero, List.set_cons_succ]
      refine AnyH.take (i := 4) (d := some 13) (v := ?_) (by kernel_rfl) rfl rfl HF (fun _ _ _ h => h) (.inl ⟨by rfl, ?_⟩) (by first | assumption | rfl) ?_
      rotate_left
      · intro w hS; try subst hS
        go_simp; try with_reducible rfl
      try simp only [Act.put, List.setIfInBounds_toArray, List.set_cons_zero, List.set_cons_succ]
      refine AnyH.take (i := 5) (d := some 14) (v := ?_) (by kernel_rfl) rfl rfl HF (fun _ _ _ h => h) (.inl ⟨by rfl, ?_⟩) (by first | assumption | rfl) ?_
      rotate_left
      · intro w hS; try subst hS
        go_simp; try with_reducible rfl
      try simp only [Act.put, List.setIfInBounds_toArray, List.set_cons_zero, List.set_cons_succ]
      refine AnyH.take (i := 6) (d := some 8) (v := ?_) (by kernel_rfl) rfl rfl HF (fun _ _ _ h => h) (.inl ⟨by rfl, ?_⟩) (by first | assumption | rfl) ?_
      rotate_left
      · intro w hS; try subst hS
        go_simp; try with_reducible rfl
      try simp only [Act.put, List.setIfInBounds_toArray, List.set_cons_zero, List.set_cons_succ]
      refine AnyH.take (i := 7) (d := some 15) (v := ?_) (by kernel_rfl) rfl rfl HF (fun _ _ _ h => h) (.inl ⟨by rfl, ?_⟩) (by first | assumption | rfl) ?_
      rotate_left
      · intro w hS; try subst hS
        go_simp; try with_reducible rfl
      try simp only [Act.put, List.setIfInBounds_toArray, List.set_cons_zero, List.set_cons_succ]
      refine AnyH.take (i := 8) (d := some 16) (v := ?_) (by kernel_rfl) rfl rfl HF (fun _ _ _ h => h) (.inl ⟨by rfl, ?_⟩) (by first | assumption | rfl) ?_
      rotate_left
      · intro w hS; try subst hS
        go_simp; try with_reducible rfl
      try simp only [Act.put, List.setIfInBounds_toArray, List.set_cons_zero, List.set_cons_succ]
      refine AnyH.take (i := 9) (d := some 6) (v := ?_) (by kernel_rfl) rfl rfl HF (fun _ _ _ h => h) (.inl ⟨by rfl, ?_⟩) (by first | assumption | rfl) ?_
      rotate_left
      · intro w hS; try subst hS
        go_simp; try with_reducible rfl
      try simp only [Act.put, List.setIfInBounds_toArray, List.set_cons_zero, List.set_cons_succ]
      refine AnyH.take (i := 10) (d := some 7) (v := ?_) (by kernel_rfl) rfl rfl HF (fun _ _ _ h => h) (.inl ⟨by rfl, ?_⟩) (by first | assumption | rfl) ?_
      rotate_left
      · intro w hS; try subst hS
        go_simp; try with_reducible rfl
      try simp only [Act.put, List.setIfInBounds_toArray, List.set_cons_zero, List.set_cons_succ]
      refine AnyH.done (by kernel_rfl) ?_
      obtain ⟨w2, hw2⟩ : ∃ w, W1.drew = w := ⟨_, rfl⟩
      rw [hw2] at S0 ⊢
      clear hw2
      go_wp2_with fail
      refine wp_region_anyH (Below W1.heap.size W1) (by kernel_rfl) ?_
      have S1 : Below W1.heap.size W1 w2.drew := S0.drew
      refine AnyH.take (i := 0) (d := some 19) (v := ?_) (by kernel_rfl) rfl rfl HF (fun _ _ _ h => h) (.inl ⟨by rfl, ?_⟩) (by first | assumption | rfl) ?_
      rotate_left
      · intro w hS; try subst hS
        go_simp; try with_reducible rfl
      try simp only [Act.put, List.setIfInBounds_toArray, List.set_cons_zero, List.set_cons_succ]
      refine AnyH.take (i := 1) (d := some 20) (v := ?_) (by kernel_rfl) rfl rfl HF (fun _ _ _ h => h) (.inl ⟨by rfl, ?_⟩) (by first | assumption | rfl) ?_
      rotate_left
      · intro w hS; try subst hS
        go_simp; try with_reducible rfl
      try simp only [Act.put, List.setIfInBounds_toArray, List.set_cons_zero, List.set_cons_succ]
      refine AnyH.take (i := 2) (d := some 21) (v := ?_) (by kernel_rfl) rfl rfl HF (fun _ _ _ h => h) (.inl ⟨by rfl, ?_⟩) (by first | assumption | rfl) ?_
      rotate_left
      · intro w hS; try subst hS
        go_simp; try with_reducible rfl
      try simp only [Act.put, List.setIfInBounds_toArray, List.set_cons_zero, List.set_cons_succ]
      refine AnyH.take (i := 3) (d := some 22) (v := ?_) (by kernel_rfl) rfl rfl HF (fun _ _ _ h => h) (.inl ⟨by rfl, ?_⟩) (by first | assumption | rfl) ?_
      rotate_left
      · intro w hS; try subst hS
        go_simp; try with_reducible rfl
      try simp only [Act.put, List.setIfInBounds_toArray, List.set_cons_zero, List.set_cons_succ]
      refine AnyH.take (i := 4) (d := some 23) (v := ?_) (by kernel_rfl) rfl rfl HF (fun _ _ _ h => h) (.inl ⟨by rfl, ?_⟩) (by first | assumption | rfl) ?_
      rotate_left
      · intro w hS; try subst hS
        go_simp; try with_reducible rfl
      try simp only [Act.put, List.setIfInBounds_toArray, List.set_cons_zero, List.set_cons_succ]
      refine AnyH.take (i := 5) (d := some 24) (v := ?_) (by kernel_rfl) rfl rfl HF (fun _ _ _ h => h) (.inl ⟨by rfl, ?_⟩) (by first | assumption | rfl) ?_
      rotate_left
      · intro w hS; try subst hS
        go_simp; try with_reducible rfl
      try simp only [Act.put, List.setIfInBounds_toArray, List.set_cons_zero, List.set_cons_succ]
      refine AnyH.take (i := 6) (d := some 25) (v := ?_) (by kernel_rfl) rfl rfl HF (fun _ _ _ h => h) (.inl ⟨by rfl, ?_⟩) (by first | assumption | rfl) ?_
      rotate_left
      · intro w hS; try subst hS
        go_simp; try with_reducible rfl
      try simp only [Act.put, List.setIfInBounds_toArray, List.set_cons_zero, List.set_cons_succ]
      refine AnyH.take (i := 7) (d := some 26) (v := ?_) (by kernel_rfl) rfl rfl HF (fun _ _ _ h => h) (.inl ⟨by rfl, ?_⟩) (by first | assumption | rfl) ?_
      rotate_left
      · intro w hS; try subst hS
        go_simp; try with_reducible rfl
      try simp only [Act.put, List.setIfInBounds_toArray, List.set_cons_zero, List.set_cons_succ]
      refine AnyH.take (i := 8) (d := some 27) (v := ?_) (by kernel_rfl) rfl rfl HF (fun _ _ _ h => h) (.inl ⟨by rfl, ?_⟩) (by first | assumption | rfl) ?_
      rotate_left
      · intro w hS; try subst hS
        go_simp; try with_reducible rfl
      try simp only [Act.put, List.setIfInBounds_toArray, List.set_cons_zero, List.set_cons_succ]
      refine AnyH.take (i := 9) (d := some 28) (v := ?_) (by kernel_rfl) rfl rfl HF (fun _ _ _ h => h) (.inl ⟨by rfl, ?_⟩) (by first | assumption | rfl) ?_
      rotate_left
      · intro w hS; try subst hS
        go_simp; try with_reducible rfl
      try simp only [Act.put, List.setIfInBounds_toArray, List.set_cons_zero, List.set_cons_succ]
      refine AnyH.done (by kernel_rfl) ?_
      go_wp2_with fail
      go_ret2
      exact ⟨rfl, Below.after B1.out S1⟩
    · have t : ¬ ((E.length : Int) ≥ (most : Int)) := by omega
      rw [if_neg (fun h => hm h.2)]
      clear hm
      go_enter Try.func50, Try.ntmps50
      go_wp2_with fail
      clear hW1
      refine wp_region_anyH (Below W1.heap.size W1) (by kernel_rfl) ?_
      have S0 : Below W1.heap.size W1 W1.drew := (Below.refl _ _).drew
      refine AnyH.take (i := 0) (d := some 9) (v := ?_) (by kernel_rfl) rfl rfl HF (fun _ _ _ h => h) (.inl ⟨by rfl, ?_⟩) (by first | assumption | rfl) ?_
      rotate_left
      · intro w hS; try subst hS
        go_simp; try with_reducible rfl
      try simp only [Act.put, List.setIfInBounds_toArray, List.set_cons_zero, List.set_cons_succ]
      refine AnyH.take (i := 1) (d := some 10) (v := ?_) (by kernel_rfl) rfl rfl HF (fun _ _ _ h => h) (.inl ⟨by rfl, ?_⟩) (by first | assumption | rfl) ?_
      rotate_left
      · intro w hS; try subst hS
        go_simp; try with_reducible rfl
      try simp only [Act.put, List.setIfInBounds_toArray, List.set_cons_zero, List.set_cons_succ]
      refine AnyH.take (i := 2) (d := some 11) (v := ?_) (by kernel_rfl) rfl rfl HF (fun _ _ _ h => h) (.inl ⟨by rfl, ?_⟩) (by first | assumption | rfl) ?_
      rotate_left
      · intro w hS; try subst hS
        go_simp; try with_reducible rfl
      try simp only [Act.put, List.setIfInBounds_toArray, List.set_cons_zero, List.set_cons_succ]
      refine AnyH.take (i := 3) (d := some 12) (v := ?_) (by kernel_rfl) rfl rfl HF (fun _ _ _ h => h) (.inl ⟨by rfl, ?_⟩) (by first | assumption | rfl) ?_
      rotate_left
      · intro w hS; try subst hS
        go_simp; try with_reducible rfl
      try simp only [Act.put, List.setIfInBounds_toArray, List.set_cons_zero, List.set_cons_succ]
      refine AnyH.take (i := 4) (d := some 13) (v := ?_) (by kernel_rfl) rfl rfl HF (fun _ _ _ h => h) (.inl ⟨by rfl, ?_⟩) (by first | assumption | rfl) ?_
      rotate_left
      · intro w hS; try subst hS
        go_simp; try with_reducible rfl
      try simp only [Act.put, List.setIfInBounds_toArray, List.set_cons_zero, List.set_cons_succ]
      refine AnyH.take (i := 5) (d := some 14) (v := ?_) (by kernel_rfl) rfl rfl HF (fun _ _ _ h => h) (.inl ⟨by rfl, ?_⟩) (by first | assumption | rfl) ?_
      rotate_left
      · intro w hS; try subst hS
        go_simp; try with_reducible rfl
      try simp only [Act.put, List.setIfInBounds_toArray, List.set_cons_zero, List.set_cons_succ]
      refine AnyH.take (i := 6) (d := some 8) (v := ?_) (by kernel_rfl) rfl rfl HF (fun _ _ _ h => h) (.inl ⟨by rfl, ?_⟩) (by first | assumption | rfl) ?_
      rotate_left
      · intro w hS; try subst hS
        go_simp; try with_reducible rfl
      try simp only [Act.put, List.setIfInBounds_toArray, List.set_cons_zero, List.set_cons_succ]
      refine AnyH.take (i := 7) (d := some 15) (v := ?_) (by kernel_rfl) rfl rfl HF (fun _ _ _ h => h) (.inl ⟨by rfl, ?_⟩) (by first | assumption | rfl) ?_
      rotate_left
      · intro w hS; try subst hS
        go_simp; try with_reducible rfl
      try simp only [Act.put, List.setIfInBounds_toArray, List.set_cons_zero, List.set_cons_succ]
      refine AnyH.take (i := 8) (d := some 16) (v := ?_) (by kernel_rfl) rfl rfl HF (fun _ _ _ h => h) (.inl ⟨by rfl, ?_⟩) (by first | assumption | rfl) ?_
      rotate_left
      · intro w hS; try subst hS
        go_simp; try with_reducible rfl
      try simp only [Act.put, List.setIfInBounds_toArray, List.set_cons_zero, List.set_cons_succ]
      refine AnyH.take (i := 9) (d := some 6) (v := ?_) (by kernel_rfl) rfl rfl HF (fun _ _ _ h => h) (.inl ⟨by rfl, ?_⟩) (by first | assumption | rfl) ?_
      rotate_left
      · intro w hS; try subst hS
        go_simp; try with_reducible rfl
      try simp only [Act.put, List.setIfInBounds_toArray, List.set_cons_zero, List.set_cons_succ]
      refine AnyH.take (i := 10) (d := some 7) (v := ?_) (by kernel_rfl) rfl rfl HF (fun _ _ _ h => h) (.inl ⟨by rfl, ?_⟩) (by first | assumption | rfl) ?_
      rotate_left
      · intro w hS; try subst hS
        go_simp; try with_reducible rfl
      try simp only [Act.put, List.setIfInBounds_toArray, List.set_cons_zero, List.set_cons_succ]
      refine AnyH.done (by kernel_rfl) ?_
      obtain ⟨w2, hw2⟩ : ∃ w, W1.drew = w := ⟨_, rfl⟩
      rw [hw2] at S0 ⊢
      clear hw2
      go_wp2_with fail
      refine wp_region_anyH (Below W1.heap.size W1) (by kernel_rfl) ?_
      have S1 : Below W1.heap.size W1 w2.drew := S0.drew
      refine AnyH.take (i := 0) (d := some 19) (v := ?_) (by kernel_rfl) rfl rfl HF (fun _ _ _ h => h) (.inl ⟨by rfl, ?_⟩) (by first | assumption | rfl) ?_
      rotate_left
      · intro w hS; try subst hS
        go_simp; try with_reducible rfl
      try simp only [Act.put, List.setIfInBounds_toArray, List.set_cons_zero, List.set_cons_succ]
      refine AnyH.take (i := 1) (d := some 20) (v := ?_) (by kernel_rfl) rfl rfl HF (fun _ _ _ h => h) (.inl ⟨by rfl, ?_⟩) (by first | assumption | rfl) ?_
      rotate_left
      · intro w hS; try subst hS
        go_simp; try with_reducible rfl
      try simp only [Act.put, List.setIfInBounds_toArray, List.set_cons_zero, List.set_cons_succ]
      refine AnyH.take (i := 2) (d := some 21) (v := ?_) (by kernel_rfl) rfl rfl HF (fun _ _ _ h => h) (.inl ⟨by rfl, ?_⟩) (by first | assumption | rfl) ?_
      rotate_left
      · intro w hS; try subst hS
        go_simp; try with_reducible rfl
      try simp only [Act.put, List.setIfInBounds_toArray, List.set_cons_zero, List.set_cons_succ]
      refine AnyH.take (i := 3) (d := some 22) (v := ?_) (by kernel_rfl) rfl rfl HF (fun _ _ _ h => h) (.inl ⟨by rfl, ?_⟩) (by first | assumption | rfl) ?_
      rotate_left
      · intro w hS; try subst hS
        go_simp; try with_reducible rfl
      try simp only [Act.put, List.setIfInBounds_toArray, List.set_cons_zero, List.set_cons_succ]
      refine AnyH.take (i := 4) (d := some 23) (v := ?_) (by kernel_rfl) rfl rfl HF (fun _ _ _ h => h) (.inl ⟨by rfl, ?_⟩) (by first | assumption | rfl) ?_
      rotate_left
      · intro w hS; try subst hS
        go_simp; try with_reducible rfl
      try simp only [Act.put, List.setIfInBounds_toArray, List.set_cons_zero, List.set_cons_succ]
      refine AnyH.take (i := 5) (d := some 24) (v := ?_) (by kernel_rfl) rfl rfl HF (fun _ _ _ h => h) (.inl ⟨by rfl, ?_⟩) (by first | assumption | rfl) ?_
      rotate_left
      · intro w hS; try subst hS
        go_simp; try with_reducible rfl
      try simp only [Act.put, List.setIfInBounds_toArray, List.set_cons_zero, List.set_cons_succ]
      refine AnyH.take (i := 6) (d := some 25) (v := ?_) (by kernel_rfl) rfl rfl HF (fun _ _ _ h => h) (.inl ⟨by rfl, ?_⟩) (by first | assumption | rfl) ?_
      rotate_left
      · intro w hS; try subst hS
        go_simp; try with_reducible rfl
      try simp only [Act.put, List.setIfInBounds_toArray, List.set_cons_zero, List.set_cons_succ]
      refine AnyH.take (i := 7) (d := some 26) (v := ?_) (by kernel_rfl) rfl rfl HF (fun _ _ _ h => h) (.inl ⟨by rfl, ?_⟩) (by first | assumption | rfl) ?_
      rotate_left
      · intro w hS; try subst hS
        go_simp; try with_reducible rfl
      try simp only [Act.put, List.setIfInBounds_toArray, List.set_cons_zero, List.set_cons_succ]
      refine AnyH.take (i := 8) (d := some 27) (v := ?_) (by kernel_rfl) rfl rfl HF (fun _ _ _ h => h) (.inl ⟨by rfl, ?_⟩) (by first | assumption | rfl) ?_
      rotate_left
      · intro w hS; try subst hS
        go_simp; try with_reducible rfl
      try simp only [Act.put, List.setIfInBounds_toArray, List.set_cons_zero, List.set_cons_succ]
      refine AnyH.take (i := 9) (d := some 28) (v := ?_) (by kernel_rfl) rfl rfl HF (fun _ _ _ h => h) (.inl ⟨by rfl, ?_⟩) (by first | assumption | rfl) ?_
      rotate_left
      · intro w hS; try subst hS
        go_simp; try with_reducible rfl
      try simp only [Act.put, List.setIfInBounds_toArray, List.set_cons_zero, List.set_cons_succ]
      refine AnyH.done (by kernel_rfl) ?_
      go_wp2_with fail
      go_ret2
      exact ⟨rfl, Below.after B1.out S1⟩
  · have hd : decide (f ≠ 0) = true := decide_eq_true hf0
    simp only [hd] at lk
    rw [if_neg (fun h => hf0 h.1)]
    clear hf0
    go_enter Try.func50, Try.ntmps50
    go_wp2_with fail
    clear hW1
    refine wp_region_anyH (Below W1.heap.size W1) (by kernel_rfl) ?_
    have S0 : Below W1.heap.size W1 W1.drew := (Below.refl _ _).drew
    refine AnyH.take (i := 0) (d := some 9) (v := ?_) (by kernel_rfl) rfl rfl HF (fun _ _ _ h => h) (.inl ⟨by rfl, ?_⟩) (by first | assumption | rfl) ?_
    rotate_left
    · intro w hS; try subst hS
      go_simp; try with_reducible rfl
    try simp only [Act.put, List.setIfInBounds_toArray, List.set_cons_zero, List.set_cons_succ]
    refine AnyH.take (i := 1) (d := some 10) (v := ?_) (by kernel_rfl) rfl rfl HF (fun _ _ _ h => h) (.inl ⟨by rfl, ?_⟩) (by first | assumption | rfl) ?_
    rotate_left
    · intro w hS; try subst hS
      go_simp; try with_reducible rfl
    try simp only [Act.put, List.setIfInBounds_toArray, List.set_cons_zero, List.set_cons_succ]
    refine AnyH.take (i := 2) (d := some 11) (v := ?_) (by kernel_rfl) rfl rfl HF (fun _ _ _ h => h) (.inl ⟨by rfl, ?_⟩) (by first | assumption | rfl) ?_
    rotate_left
    · intro w hS; try subst hS
      go_simp; try with_reducible rfl
    try simp only [Act.put, List.setIfInBounds_toArray, List.set_cons_zero, List.set_cons_succ]
    refine AnyH.take (i := 3) (d := some 12) (v := ?_) (by kernel_rfl) rfl rfl HF (fun _ _ _ h => h) (.inl ⟨by rfl, ?_⟩) (by first | assumption | rfl) ?_
    rotate_left
    · intro w hS; try subst hS
      go_simp; try with_reducible rfl
    try simp only [Act.put, List.setIfInBounds_toArray, List.set_cons_zero, List.set_cons_succ]
    refine AnyH.take (i := 4) (d := some 13) (v := ?_) (by kernel_rfl) rfl rfl HF (fun _ _ _ h => h) (.inl ⟨by rfl, ?_⟩) (by first | assumption | rfl) ?_
    rotate_left
    · intro w hS; try subst hS
      go_simp; try with_reducible rfl
    try simp only [Act.put, List.setIfInBounds_toArray, List.set_cons_zero, List.set_cons_succ]
    refine AnyH.take (i := 5) (d := some 14) (v := ?_) (by kernel_rfl) rfl rfl HF (fun _ _ _ h => h) (.inl ⟨by rfl, ?_⟩) (by first | assumption | rfl) ?_
    rotate_left
    · intro w hS; try subst hS
      go_simp; try with_reducible rfl
    try simp only [Act.put, List.setIfInBounds_toArray, List.set_cons_zero, List.set_cons_succ]
    refine AnyH.take (i := 6) (d := some 8) (v := ?_) (by kernel_rfl) rfl rfl HF (fun _ _ _ h => h) (.inl ⟨by rfl, ?_⟩) (by first | assumption | rfl) ?_
    rotate_left
    · intro w hS; try subst hS
      go_simp; try with_reducible rfl
    try simp only [Act.put, List.setIfInBounds_toArray, List.set_cons_zero, List.set_cons_succ]
    refine AnyH.take (i := 7) (d := some 15) (v := ?_) (by kernel_rfl) rfl rfl HF (fun _ _ _ h => h) (.inl ⟨by rfl, ?_⟩) (by first | assumption | rfl) ?_
    rotate_left
    · intro w hS; try subst hS
      go_simp; try with_reducible rfl
    try simp only [Act.put, List.setIfInBounds_toArray, List.set_cons_zero, List.set_cons_succ]
    refine AnyH.take (i := 8) (d := some 16) (v := ?_) (by kernel_rfl) rfl rfl HF (fun _ _ _ h => h) (.inl ⟨by rfl, ?_⟩) (by first | assumption | rfl) ?_
    rotate_left
    · intro w hS; try subst hS
      go_simp; try with_reducible rfl
    try simp only [Act.put, List.setIfInBounds_toArray, List.set_cons_zero, List.set_cons_succ]
    refine AnyH.take (i := 9) (d := some 6) (v := ?_) (by kernel_rfl) rfl rfl HF (fun _ _ _ h => h) (.inl ⟨by rfl, ?_⟩) (by first | assumption | rfl) ?_
    rotate_left
    · intro w hS; try subst hS
      go_simp; try with_reducible rfl
    try simp only [Act.put, List.setIfInBounds_toArray, List.set_cons_zero, List.set_cons_succ]
    refine AnyH.take (i := 10) (d := some 7) (v := ?_) (by kernel_rfl) rfl rfl HF (fun _ _ _ h => h) (.inl ⟨by rfl, ?_⟩) (by first | assumption | rfl) ?_
    rotate_left
    · intro w hS; try subst hS
      go_simp; try with_reducible rfl
    try simp only [Act.put, List.setIfInBounds_toArray, List.set_cons_zero, List.set_cons_succ]
    refine AnyH.done (by kernel_rfl) ?_
    obtain ⟨w2, hw2⟩ : ∃ w, W1.drew = w := ⟨_, rfl⟩
    rw [hw2] at S0 ⊢
    clear hw2
    go_wp2_with fail
    go_ret2
    exact ⟨rfl, Below.after B1.out S0⟩
end M
end Go.Proofs.Ytplccefjljdjnaa
namespace Go.Proofs.Ytplccefjljdjnaa
open Go.RowKit
theorem SlA.own_lt {α : Type} {B₀ : Nat} {W : World} {e : TypeId} {size : Nat} {enc : α → List Value} {v : Value} {l : List α} (h : SlA B₀ W e size enc v l) {g : Nat} (hg : v.ownBlock = some g) : g < W.heap.size := by
  rcases h.2 with ⟨rfl, _⟩ | ⟨g', cap, cur, rfl, _, hgb, _⟩
  · simp [Value.ownBlock] at hg
  · obtain rfl : g' = g := by simpa [Value.ownBlock] using hg
    exact (Array.getElem?_eq_some_iff.1 hgb).1
namespace M
attribute [local go_sem] Oper.semAt_some
/-- All cells' blocks stand but the stores' and the entries'. -/
def Kt (A B : World) : Prop := ∀ t : TypeId, t ≠ 91 → t ≠ 121 → ∀ (k : Nat) (cs : Array Value) (fz : Nat × Nat), A.heap[k]? = some (.cells cs t fz) → B.heap[k]? = some (.cells cs t fz)
theorem Kt.of {A B : World} (h : Below A.heap.size A B) : Kt A B := fun _ _ _ _ _ _ e => below_block h e
theorem Kt.trans {A B C : World} (h : Kt A B) (k : Kt B C) : Kt A C := fun t a b i cs fz e => k t a b i cs fz (h t a b i cs fz e)
/-- What floats while an entry is appended. -/
def SAdd (B most mb g : Nat) (lv : Value) (e : En) (w : World) : Prop := StC w B most lv mb ∧ EnC w g e
theorem SAdd.below {B most mb g : Nat} {lv : Value} {e : En} {w w' : World} (h : SAdd B most mb g lv e w) (hb : Below w.heap.size w w') : SAdd B most mb g lv e w' := ⟨below_block hb h.1, below_block hb h.2⟩
set_option maxRecDepth 100000 in
set_option maxHeartbeats 2000000 in
theorem sadd_any {n0 B most : Nat} {W : World} {E : List En} (h : StAt n0 W B most E) (e : En) (hr : e.ru.ok) (hnew : fid e.ru 1 E = 0) (hE : E.length ≤ 1048576) :
    Calls Try.prog 51 #[.pointer (some ⟨B, 0, none⟩), enV e] W fun x w' => x = .returned (.int .i64 (E.length + 1 : Nat)) ∧ StAt n0 w' B most (E ++ [e]) ∧ Below n0 W w' ∧ Kt W w' := by
  have HF : ∀ f, Fence.wide.fn f := fun _ => trivial
  unfold enV
  obtain ⟨W1, hW1⟩ : ∃ w, W.alloc (.cells #[.int .i64 e.ru.kind, .int .u8 e.ru.letter, .int .i64 e.ru.left, .int .i64 e.ru.right, .int .i64 e.ru.times, .int .i64 e.w.len, .int .i64 e.w.lines, .int .i64 e.w.head, .int .i64 e.w.tail, .int .u64 e.w.d.v, .int .u64 e.w.d.s, .int .i64 e.depth, .bool e.even] 121) = w := ⟨_, rfl⟩
  have k1 : EnC W1 W.heap.size e := by rw [← hW1]; exact heap_new' _ _
  have b1 : Below W.heap.size W W1 := by rw [← hW1]; exact (Below.refl _ _).alloc (Nat.le_refl _) _
  have hlt := h.lt
  obtain ⟨lv, mb, z1, z2, z3, z4, z5⟩ := h
  obtain ⟨a, cap, rfl⟩ := z2.len
  have hown : ∀ g, (Value.slice a E.length cap).ownBlock = some g → g < W.heap.size := fun g hg => z2.own_lt hg
  have hBlt : B < W.heap.size := (Array.getElem?_eq_some_iff.1 z1).1
  have hmlt : mb < W.heap.size := z3.lt
  have hBm : B ≠ mb := fun e => by
    obtain ⟨es, c, hm, -⟩ := z3
    unfold StC at z1
    rw [← e, z1] at hm; cases hm
  obtain ⟨w2, hw2⟩ : ∃ w, W1.drew = w := ⟨_, rfl⟩
  have S0 : Below W1.heap.size W1 w2 := by rw [← hw2]; exact (Below.refl _ _).drew
  have b2 : Below W.heap.size W w2 := Below.after b1 S0
  have s1 := below_block b2 z1; have s2 := z2.below b2; have s3 := z3.below b2
  have m1 : ∀ w, SAdd B most mb W.heap.size (.slice a E.length cap) e w → w.cell? ⟨B, 1, none⟩ = some (.slice a E.length cap) := fun w hw => (StC.cells hw.1).2.1
  have x0 : ∀ w, SAdd B most mb W.heap.size (.slice a E.length cap) e w → EnC w W.heap.size e := fun w hw => hw.2
  have hx2 : EnC w2 W.heap.size e := below_block S0 k1
  have K1 := Lib.hid hx2; have S1 := Lib.hid s1; have S3 := Lib.hid s3; have B2 := Lib.hid b2
  have HX := Lib.hid (And.intro hlt (And.intro z4 (And.intro z5 (And.intro hBlt (And.intro hmlt (And.intro hBm hown))))))
  have HR := Lib.hid (And.intro hr (And.intro hnew hE))
  have T0 : SAdd B most mb W.heap.size (.slice a E.length cap) e w2 := ⟨s1, hx2⟩
  have Z2 := Lib.hid s2
  clear k1 hx2 s2 b1 hlt z1 z2 z3 z4 z5 hown hBlt hmlt hBm b2 s1 s3 hr hnew hE
  have y0 : ∀ w, SAdd B most mb W.heap.size (.slice a E.length cap) e w → w.cell? ⟨W.heap.size, 0, none⟩ = some (.int .i64 e.ru.kind) := fun w hw => (x0 w hw).cells.1
  have y1 : ∀ w, SAdd B most mb W.heap.size (.slice a E.length cap) e w → w.cell? ⟨W.heap.size, 1, none⟩ = some (.int .u8 e.ru.letter) := fun w hw => (x0 w hw).cells.2.1
  have y2 : ∀ w, SAdd B most mb W.heap.size (.slice a E.length cap) e w → w.cell? ⟨W.heap.size, 2, none⟩ = some (.int .i64 e.ru.left) := fun w hw => (x0 w hw).cells.2.2.1
  have y3 : ∀ w, SAdd B most mb W.heap.size (.slice a E.length cap) e w → w.cell? ⟨W.heap.size, 3, none⟩ = some (.int .i64 e.ru.right) := fun w hw => (x0 w hw).cells.2.2.2.1
  have y4 : ∀ w, SAdd B most mb W.heap.size (.slice a E.length cap) e w → w.cell? ⟨W.heap.size, 4, none⟩ = some (.int .i64 e.ru.times) := fun w hw => (x0 w hw).cells.2.2.2.2.1
  have y5 : ∀ w, SAdd B most mb W.heap.size (.slice a E.length cap) e w → w.cell? ⟨W.heap.size, 5, none⟩ = some (.int .i64 e.w.len) := fun w hw => (x0 w hw).cells.2.2.2.2.2.1
  have y6 : ∀ w, SAdd B most mb W.heap.size (.slice a E.length cap) e w → w.cell? ⟨W.heap.size, 6, none⟩ = some (.int .i64 e.w.lines) := fun w hw => (x0 w hw).cells.2.2.2.2.2.2.1
  have y7 : ∀ w, SAdd B most mb W.heap.size (.slice a E.length cap) e w → w.cell? ⟨W.heap.size, 7, none⟩ = some (.int .i64 e.w.head) := fun w hw => (x0 w hw).cells.2.2.2.2.2.2.2.1
  have y8 : ∀ w, SAdd B most mb W.heap.size (.slice a E.length cap) e w → w.cell? ⟨W.heap.size, 8, none⟩ = some (.int .i64 e.w.tail) := fun w hw => (x0 w hw).cells.2.2.2.2.2.2.2.2.1
  have y9 : ∀ w, SAdd B most mb W.heap.size (.slice a E.length cap) e w → w.cell? ⟨W.heap.size, 9, none⟩ = some (.int .u64 e.w.d.v) := fun w hw => (x0 w hw).cells.2.2.2.2.2.2.2.2.2.1
  have y10 : ∀ w, SAdd B most mb W.heap.size (.slice a E.length cap) e w → w.cell? ⟨W.heap.size, 10, none⟩ = some (.int .u64 e.w.d.s) := fun w hw => (x0 w hw).cells.2.2.2.2.2.2.2.2.2.2.1
  have y11 : ∀ w, SAdd B most mb W.heap.size (.slice a E.length cap) e w → w.cell? ⟨W.heap.size, 11, none⟩ = some (.int .i64 e.depth) := fun w hw => (x0 w hw).cells.2.2.2.2.2.2.2.2.2.2.2.1
  have y12 : ∀ w, SAdd B most mb W.heap.size (.slice a E.length cap) e w → w.cell? ⟨W.heap.size, 12, none⟩ = some (.bool e.even) := fun w hw => (x0 w hw).cells.2.2.2.2.2.2.2.2.2.2.2.2
  clear x0
  go_enter Try.func51, Try.ntmps51
  go_wp2_with fail
  clear hW1
  refine wp_region_anyNP (SAdd B most mb W.heap.size (.slice a E.length cap) e) (by kernel_rfl) ?_
  rw [hw2]
  clear hw2
  refine AnyH.take (i := 0) (d := some 6) (v := ?_) (by kernel_rfl) rfl rfl HF (fun _ _ _ h => h) (.inl ⟨by rfl, ?_⟩) (by first | assumption | rfl) ?_
  rotate_left
  · intro w hS; try subst hS
    go_simp; try with_reducible rfl
  try simp only [Act.put, List.setIfInBounds_toArray, List.set_cons_zero, List.set_cons_succ]
  refine AnyH.take (i := 1) (d := some 7) (v := ?_) (by kernel_rfl) rfl rfl HF (fun _ _ _ h => h) (.inl ⟨by rfl, ?_⟩) (by first | assumption | rfl) ?_
  rotate_left
  · intro w hS; try subst hS
    go_simp; try with_reducible rfl
  try simp only [Act.put, List.setIfInBounds_toArray, List.set_cons_zero, List.set_cons_succ]
  refine AnyH.take (i := 2) (d := some 8) (v := ?_) (by kernel_rfl) rfl rfl HF (fun _ _ _ h => h) (.inl ⟨by rfl, ?_⟩) (by first | assumption | rfl) ?_
  rotate_left
  · intro w hS; try subst hS
    go_simp; try with_reducible rfl
  try simp only [Act.put, List.setIfInBounds_toArray, List.set_cons_zero, List.set_cons_succ]
  refine AnyH.take (i := 3) (d := some 9) (v := ?_) (by kernel_rfl) rfl rfl HF (fun _ _ _ h => h) (.inl ⟨by rfl, ?_⟩) (by first | assumption | rfl) ?_
  rotate_left
  · intro w hS; try subst hS
    go_simp; try with_reducible rfl
  try simp only [Act.put, List.setIfInBounds_toArray, List.set_cons_zero, List.set_cons_succ]
  refine AnyH.take (i := 4) (d := some 10) (v := ?_) (by kernel_rfl) rfl rfl HF (fun _ _ _ h => h) (.inl ⟨by rfl, ?_⟩) (by first | assumption | rfl) ?_
  rotate_left
  · intro w hS; try subst hS
    go_simp; try with_reducible rfl
  try simp only [Act.put, List.setIfInBounds_toArray, List.set_cons_zero, List.set_cons_succ]
  refine AnyH.take (i := 5) (d := some 11) (v := ?_) (by kernel_rfl) rfl rfl HF (fun _ _ _ h => h) (.inl ⟨by rfl, ?_⟩) (by first | assumption | rfl) ?_
  rotate_left
  · intro w hS; try subst hS
    go_simp; try with_reducible rfl
  try simp only [Act.put, List.setIfInBounds_toArray, List.set_cons_zero, List.set_cons_succ]
  refine AnyH.one (i := 6) (by kernel_rfl) (by kernel_rfl) rfl HF (by rfl) (fun K hK => ?_)
  go_simp
  have hb6 : Below w2.heap.size w2 (w2.alloc (.cells #[.int .i64 e.ru.kind, .int .u8 e.ru.letter, .int .i64 e.ru.left, .int .i64 e.ru.right, .int .i64 e.ru.times, .int .i64 e.w.len, .int .i64 e.w.lines, .int .i64 e.w.head, .int .i64 e.w.tail, .int .u64 e.w.d.v, .int .u64 e.w.d.s, .int .i64 e.depth, .bool e.even] 121)) := (Below.refl _ _).alloc (Nat.le_refl _) _
  have T6 := T0.below hb6
  refine hK _ _ T6 ?_
  clear hK K hb6
  try simp only [Act.put, List.setIfInBounds_toArray, List.set_cons_zero, List.set_cons_succ]
  obtain ⟨v', w3, hrun, hS', hg, hb'⟩ := run_app1 elemE enL_len 89 Z2.out e 1 (cs := #[.int .i64 e.ru.kind, .int .u8 e.ru.letter, .int .i64 e.ru.left, .int .i64 e.ru.right, .int .i64 e.ru.times, .int .i64 e.w.len, .int .i64 e.w.lines, .int .i64 e.w.head, .int .i64 e.w.tail, .int .u64 e.w.d.v, .int .u64 e.w.d.s, .int .i64 e.depth, .bool e.even]) rfl (by simp [enL, Value.oneCell']) (by have := HR.out.2.2; omega) (Nat.le_trans HX.out.1 B2.out.size)
  have hz1 : StC w3 B most (.slice a E.length cap) mb := app_other Z2.out hg T0.1 (by decide)
  have hz2 : EnC w3 W.heap.size e := by
    have h6 := T6.2
    unfold EnC at h6 ⊢
    rw [hg.block _ (Array.getElem?_eq_some_iff.1 h6).1 (fun e' => absurd (HX.out.2.2.2.2.2.2 _ e'.symm) (Nat.lt_irrefl _))]
    exact h6
  have HG := Lib.hid hg; have HS' := Lib.hid hS'; have HB' := Lib.hid hb'; have HZ2 := Lib.hid hz2
  have hMR : Hid (MapR w3 mb E) := Lib.hid (by
    obtain ⟨es, c, h1, h2⟩ := S3.out
    exact ⟨es, c, (app_keepsOthers Z2.out hg).same _ _ h1 rfl, h2⟩)
  refine AnyH.one (i := 7) (by kernel_rfl) (by kernel_rfl) rfl HF (by rfl) (fun K hK => ?_)
  simp [execOp, resolve, invoke, builtin, hrun, Result.andThen, Act.eval, Oper.uponIn]
  refine hK _ _ ⟨hz1, hz2⟩ ?_
  clear hK K hrun hg hS' hb' hz2
  try simp only [Act.put, List.setIfInBounds_toArray, List.set_cons_zero, List.set_cons_succ]
  refine AnyH.tailL 8 (by kernel_rfl) ?_
  simp only [List.drop_succ_cons, List.drop_zero]
  obtain ⟨n, hn⟩ : ∃ n, E.length + 1 = n := ⟨_, rfl⟩
  have HN := Lib.hid hn
  have hlen : (E ++ [e]).length = n := by simp [hn]
  obtain ⟨va, vc, hv'⟩ := HS'.out.len
  rw [hlen] at hv'
  subst hv'
  obtain ⟨-, g1, -, gf⟩ := hz1.cells
  obtain ⟨w4, hw4⟩ : ∃ w, w3.setCell ⟨B, 1, none⟩ (.slice va n vc) = w := ⟨_, rfl⟩
  have S4 : StC w4 B most (.slice va n vc) mb := by
    rw [← hw4]; unfold StC at hz1 ⊢
    exact heap_set0 _ hz1
  have hB4 : Below n0 W w4 := by
    rw [← hw4]
    exact ((B2.out.mono HX.out.1).trans HB'.out).setCell (p := ⟨B, 1, none⟩) HX.out.2.1 _
  have E4 : Ens n0 w4 (.slice va n vc) (E ++ [e]) := by
    rw [← hw4]; exact SlA.setCell HS'.out _ (a := ⟨B, 1, none⟩) hz1 (by decide)
  have M4 : MapR w4 mb E := by
    rw [← hw4]
    exact MapR.of_block hMR.out (Below.heap_setCell _ _ _ _ (fun e => HX.out.2.2.2.2.2.1 e.symm))
  have N4 : EnC w4 W.heap.size e := by
    rw [← hw4]
    exact set_other (fun e' => by have := HX.out.2.2.2.1; omega) HZ2.out
  have KT4 : Kt W w4 := fun t h1 h2 k cs fz hk => by
    rw [← hw4]
    refine set_other (fun e' => ?_) (app_other Z2.out HG.out (below_block B2.out hk) h2)
    subst e'
    have hB := below_block B2.out hk
    have hS := S1.out
    unfold StC at hS
    rw [hS] at hB
    simp only [Option.some.injEq, Obj.cells.injEq] at hB
    exact h1 hB.2.1.symm
  have HS4 := Lib.hid S4; have HB4 := Lib.hid hB4; have HE4 := Lib.hid E4; have HM4 := Lib.hid M4; have HN4 := Lib.hid N4; have HK4 := Lib.hid KT4
  obtain ⟨-, c1, -, -⟩ := S4.cells
  clear S4 hB4 E4 M4 N4 KT4 HZ2 hMR HS' HB' HG T0 T6 S0 m1 y0 y1 y2 y3 y4 y5 y6 y7 y8 y9 y10 y11 y12 hn hlen
  gi_wp2_with fail
  refine NP.normal ?_
  clear hz1 g1 gf hw4
  go_wp2_with fail
  obtain ⟨wd, hwd⟩ : ∃ w, w4.drew = w := ⟨_, rfl⟩
  have D0 : Below w4.heap.size w4 wd := by rw [← hwd]; exact (Below.refl _ _).drew
  obtain ⟨w5, hput, hM5, hg5, hs5⟩ := MapR.put (HM4.out.below D0) (by have := HR.out.2.2; omega) e HR.out.1 HR.out.2.1
  rw [HN.out] at hput
  unfold ruV at hput
  have n2 : ∀ w, Below w4.heap.size w4 w → w.cell? ⟨B, 2, none⟩ = some (.map (some mb)) := fun w hw => (StC.cells (below_block hw HS4.out)).2.2.1
  have r0 : ∀ w, Below w4.heap.size w4 w → w.cell? ⟨W.heap.size, 0, none⟩ = some (.int .i64 e.ru.kind) := fun w hw => (EnC.cells (below_block hw HN4.out)).1
  have r1 : ∀ w, Below w4.heap.size w4 w → w.cell? ⟨W.heap.size, 1, none⟩ = some (.int .u8 e.ru.letter) := fun w hw => (EnC.cells (below_block hw HN4.out)).2.1
  have r2 : ∀ w, Below w4.heap.size w4 w → w.cell? ⟨W.heap.size, 2, none⟩ = some (.int .i64 e.ru.left) := fun w hw => (EnC.cells (below_block hw HN4.out)).2.2.1
  have r3 : ∀ w, Below w4.heap.size w4 w → w.cell? ⟨W.heap.size, 3, none⟩ = some (.int .i64 e.ru.right) := fun w hw => (EnC.cells (below_block hw HN4.out)).2.2.2.1
  have r4 : ∀ w, Below w4.heap.size w4 w → w.cell? ⟨W.heap.size, 4, none⟩ = some (.int .i64 e.ru.times) := fun w hw => (EnC.cells (below_block hw HN4.out)).2.2.2.2.1
  have HEND : Hid (StAt n0 w5 B most (E ++ [e]) ∧ Below n0 W w5 ∧ Kt W w5) := Lib.hid (by
    have hmc : ∃ o : Obj, wd.heap[mb]? = some o ∧ o.isCells = false := by
      obtain ⟨es, c, h1, -⟩ := HM4.out.below D0
      exact ⟨_, h1, rfl⟩
    have calm : ∀ {b : Nat}, b ≤ mb → CalmRow b wd (some mb) := fun {b} hb r hr => by cases hr; exact ⟨hb, hmc⟩
    refine ⟨⟨_, mb, own_cells hg5 (calm HX.out.2.2.1) (below_block D0 HS4.out), own_SlA hg5 (calm HX.out.2.2.1) (HE4.out.below D0), hM5, HX.out.2.1, HX.out.2.2.1⟩, ?_, ?_⟩
    · have hd : Below n0 W wd := HB4.out.trans (D0.mono (Nat.le_trans HX.out.1 HB4.out.size))
      exact own_below hg5 (calm HX.out.2.2.1) HX.out.1 (Nat.le_refl _) hd
    · intro t h1 h2 k cs fz hk
      exact own_cells hg5 (calm HX.out.2.2.1) (below_block D0 (HK4.out t h1 h2 k cs fz hk)))
  clear hM5 hg5 hs5
  refine wp_region_anyH (Below w4.heap.size w4) (by kernel_rfl) ?_
  rw [hwd]
  clear hwd
  refine AnyH.take (i := 0) (d := some 21) (v := ?_) (by kernel_rfl) rfl rfl HF (fun _ _ _ h => h) (.inl ⟨by rfl, ?_⟩) (by first | assumption | rfl) ?_
  rotate_left
  · intro w hS; try subst hS
    go_simp; try with_reducible rfl
  try simp only [Act.put, List.setIfInBounds_toArray, List.set_cons_zero, List.set_cons_succ]
  refine AnyH.take (i := 1) (d := some 22) (v := ?_) (by kernel_rfl) rfl rfl HF (fun _ _ _ h => h) (.inl ⟨by rfl, ?_⟩) (by first | assumption | rfl) ?_
  rotate_left
  · intro w hS; try subst hS
    go_simp; try with_reducible rfl
  try simp only [Act.put, List.setIfInBounds_toArray, List.set_cons_zero, List.set_cons_succ]
  refine AnyH.take (i := 2) (d := some 23) (v := ?_) (by kernel_rfl) rfl rfl HF (fun _ _ _ h => h) (.inl ⟨by rfl, ?_⟩) (by first | assumption | rfl) ?_
  rotate_left
  · intro w hS; try subst hS
    go_simp; try with_reducible rfl
  try simp only [Act.put, List.setIfInBounds_toArray, List.set_cons_zero, List.set_cons_succ]
  refine AnyH.take (i := 3) (d := some 24) (v := ?_) (by kernel_rfl) rfl rfl HF (fun _ _ _ h => h) (.inl ⟨by rfl, ?_⟩) (by first | assumption | rfl) ?_
  rotate_left
  · intro w hS; try subst hS
    go_simp; try with_reducible rfl
  try simp only [Act.put, List.setIfInBounds_toArray, List.set_cons_zero, List.set_cons_succ]
  refine AnyH.take (i := 4) (d := some 25) (v := ?_) (by kernel_rfl) rfl rfl HF (fun _ _ _ h => h) (.inl ⟨by rfl, ?_⟩) (by first | assumption | rfl) ?_
  rotate_left
  · intro w hS; try subst hS
    go_simp; try with_reducible rfl
  try simp only [Act.put, List.setIfInBounds_toArray, List.set_cons_zero, List.set_cons_succ]
  refine AnyH.take (i := 5) (d := some 26) (v := ?_) (by kernel_rfl) rfl rfl HF (fun _ _ _ h => h) (.inl ⟨by rfl, ?_⟩) (by first | assumption | rfl) ?_
  rotate_left
  · intro w hS; try subst hS
    go_simp; try with_reducible rfl
  try simp only [Act.put, List.setIfInBounds_toArray, List.set_cons_zero, List.set_cons_succ]
  refine AnyH.take (i := 6) (d := some 27) (v := ?_) (by kernel_rfl) rfl rfl HF (fun _ _ _ h => h) (.inl ⟨by rfl, ?_⟩) (by first | assumption | rfl) ?_
  rotate_left
  · intro w hS; try subst hS
    go_simp; try with_reducible rfl
  try simp only [Act.put, List.setIfInBounds_toArray, List.set_cons_zero, List.set_cons_succ]
  refine AnyH.tailL 7 (by kernel_rfl) ?_
  simp only [List.drop_succ_cons, List.drop_zero]
  clear n2 r0 r1 r2 r3 r4 D0 c1
  gi_wp2_with fail
  go_wp2_with fail
  go_ret
  exact ⟨by rw [HN.out]; rfl, HEND.out⟩
end M
end Go.Proofs.Ytplccefjljdjnaa
namespace Go.Proofs.Ytplccefjljdjnaa
open Go.RowKit
namespace M
attribute [local go_sem] Oper.semAt_some
/-- The text of a number, of texts that are there. -/
def tx (T : List (List Nat)) (i : Nat) : List Nat := if i = 0 then [] else (T[i - 1]?).getD []
def txOf (T : List (List Nat)) (r : Ru) : List Nat := if r.kind = 1 then [r.letter] else if r.kind = 2 then tx T r.left ++ tx T r.right else rep r.times (tx T r.left)
/-- The texts of a store's rules. -/
def txts (E : List En) : List (List Nat) := E.foldl (fun T e => T ++ [txOf T e.ru]) []
theorem txts_snoc (E : List En) (e : En) : txts (E ++ [e]) = txts E ++ [txOf (txts E) e.ru] := by
  unfold txts
  rw [List.foldl_append]; rfl
theorem txts_length (E : List En) : (txts E).length = E.length := by
  rcases List.eq_nil_or_concat E with rfl | ⟨E', e, rfl⟩
  · rfl
  · rw [List.concat_eq_append, txts_snoc, List.length_append, List.length_append, txts_length E']; rfl
termination_by E.length
decreasing_by simp_all
/-- The text of a number. -/
def txt (E : List En) (i : Nat) : List Nat := tx (txts E) i
theorem txt_zero (E : List En) : txt E 0 = [] := rfl
theorem txt_snoc {E : List En} {e : En} {i : Nat} (hi : i ≤ E.length) : txt (E ++ [e]) i = txt E i := by
  unfold txt tx
  by_cases h : i = 0
  · rw [if_pos h, if_pos h]
  · rw [if_neg h, if_neg h, txts_snoc, List.getElem?_append_left (by rw [txts_length]; omega)]
theorem txt_last (E : List En) (e : En) : txt (E ++ [e]) (E.length + 1) = txOf (txts E) e.ru := by
  unfold txt tx
  rw [if_neg (by omega), txts_snoc, List.getElem?_append_right (by rw [txts_length]; omega), txts_length]
  simp
/-- A rule that may be added. -/
structure OkEn (E : List En) (e : En) : Prop where
  kind : (e.ru.kind = 1 ∧ e.ru.letter < 256 ∧ e.ru.left = 0 ∧ e.ru.right = 0 ∧ e.ru.times = 0) ∨ (e.ru.kind = 2 ∧ e.ru.letter = 0 ∧ 0 < e.ru.left ∧ e.ru.left ≤ E.length ∧ 0 < e.ru.right ∧ e.ru.right ≤ E.length ∧ e.ru.times = 0) ∨ (e.ru.kind = 3 ∧ e.ru.letter = 0 ∧ 0 < e.ru.left ∧ e.ru.left ≤ E.length ∧ e.ru.right = 0 ∧ 2 ≤ e.ru.times ∧ e.ru.times ≤ 1152921504606846976)
  w : e.w = wt (txOf (txts E) e.ru)
  len : (txOf (txts E) e.ru).length ≤ 1152921504606846976
  pos : 0 < (txOf (txts E) e.ru).length
  depth : e.depth ≤ E.length
/-- A store whose rules fit. -/
inductive Wf : List En → Prop
  | nil : Wf []
  | snoc {E : List En} {e : En} : Wf E → OkEn E e → Wf (E ++ [e])
theorem Wf.get {E : List En} (h : Wf E) : ∀ i, 0 < i → i ≤ E.length → (entAt E i).w = wt (txt E i) ∧ (txt E i).length ≤ 1152921504606846976 ∧ 0 < (txt E i).length ∧ (entAt E i).depth + 1 ≤ i := by
  induction h with
  | nil => intro i h1 h2; simp at h2; omega
  | @snoc E e hE he ih =>
    intro i h1 h2
    rw [List.length_append, List.length_singleton] at h2
    by_cases hi : i ≤ E.length
    · obtain ⟨a, b, c, d⟩ := ih i h1 hi
      have e1 : entAt (E ++ [e]) i = entAt E i := by
        unfold entAt
        rw [if_neg (by omega), if_neg (by omega), List.getElem?_append_left (by omega)]
      rw [txt_snoc hi, e1]
      exact ⟨a, b, c, d⟩
    · obtain rfl : i = E.length + 1 := by omega
      have e1 : entAt (E ++ [e]) (E.length + 1) = e := by
        unfold entAt
        rw [if_neg (by omega), List.getElem?_append_right (by omega)]
        simp
      rw [txt_last, e1]
      exact ⟨he.w, he.len, he.pos, by have := he.depth; omega⟩
/-- What a rule that is asked for makes of the store. -/
def addF (E : List En) (e : En) : List En × Nat := if fid e.ru 1 E = 0 then (E ++ [e], E.length + 1) else (E, fid e.ru 1 E)
def letE (b : Nat) : En := ⟨⟨1, b, 0, 0, 0⟩, wt [b], 0, true⟩
theorem letE_ok (E : List En) {b : Nat} (hb : b < 256) : OkEn E (letE b) := ⟨.inl ⟨rfl, hb, rfl, rfl, rfl⟩, rfl, by show ([b] : List Nat).length ≤ _; simp, by show 0 < ([b] : List Nat).length; simp, Nat.zero_le _⟩
theorem addF_wf {E : List En} (h : Wf E) {e : En} (he : OkEn E e) : Wf (addF E e).1 ∧ (addF E e).1.length ≤ E.length + 1 ∧ 0 < (addF E e).2 ∧ (addF E e).2 ≤ (addF E e).1.length := by
  unfold addF
  by_cases hf : fid e.ru 1 E = 0
  · rw [if_pos hf]
    exact ⟨.snoc h he, by simp, by simp, by simp⟩
  · rw [if_neg hf]
    obtain ⟨j, e', h1, h2, -⟩ := fid_le hf
    have := (List.getElem?_eq_some_iff.1 h2).1
    exact ⟨h, by simp, by dsimp only; omega, by dsimp only; omega⟩
set_option maxRecDepth 100000 in
set_option maxHeartbeats 2000000 in
theorem letter_any {n0 B most : Nat} {W : World} {E : List En} (h : StAt n0 W B most E) (b : Nat) (hb : b < 256) (hroom : E.length < most) (hE : E.length ≤ 1048575) :
    Calls Try.prog 31 #[.pointer (some ⟨B, 0, none⟩), .int .u8 b] W fun x w' => x = .returned (.tuple #[.int .i64 (addF E (letE b)).2, .nilIface]) ∧ StAt n0 w' B most (addF E (letE b)).1 ∧ Below n0 W w' ∧ Kt W w' := by
  have HF : ∀ f, Fence.wide.fn f := fun _ => trivial
  have hlt := h.lt
  obtain ⟨Wz, hWz⟩ : ∃ w, W.alloc (.cells #[.int .i64 0, .int .u8 0, .int .i64 0, .int .i64 0, .int .i64 0] 111) = w := ⟨_, rfl⟩
  have k0 : RuC Wz W.heap.size ⟨0, 0, 0, 0, 0⟩ := by rw [← hWz]; exact heap_new' _ _
  have b0 : Below W.heap.size W Wz := by rw [← hWz]; exact (Below.refl _ _).alloc (Nat.le_refl _) _
  obtain ⟨z0, z1, z2, z3, z4⟩ : Wz.cell? ⟨W.heap.size, 0, none⟩ = some (.int .i64 0) ∧ Wz.cell? ⟨W.heap.size, 1, none⟩ = some (.int .u8 0) ∧ Wz.cell? ⟨W.heap.size, 2, none⟩ = some (.int .i64 0) ∧ Wz.cell? ⟨W.heap.size, 3, none⟩ = some (.int .i64 0) ∧ Wz.cell? ⟨W.heap.size, 4, none⟩ = some (.int .i64 0) := k0.cells
  have y0 := k0.free 0; have y1 := k0.free 1; have y2 := k0.free 2; have y3 := k0.free 3; have y4 := k0.free 4
  obtain ⟨W1, hW1⟩ : ∃ w, ((((Wz.setCell ⟨W.heap.size, 0, none⟩ (.int .i64 1)).setCell ⟨W.heap.size, 1, none⟩ (.int .u8 b)).setCell ⟨W.heap.size, 2, none⟩ (.int .i64 0)).setCell ⟨W.heap.size, 3, none⟩ (.int .i64 0)).setCell ⟨W.heap.size, 4, none⟩ (.int .i64 0) = w := ⟨_, rfl⟩
  have k1 : RuC W1 W.heap.size ⟨1, b, 0, 0, 0⟩ := by rw [← hW1]; exact k0.set ⟨1, b, 0, 0, 0⟩
  have b1 : Below W.heap.size W W1 := by
    rw [← hW1]
    exact ((((b0.setCell (p := ⟨W.heap.size, 0, none⟩) (Nat.le_refl _) _).setCell (p := ⟨W.heap.size, 1, none⟩) (Nat.le_refl _) _).setCell (p := ⟨W.heap.size, 2, none⟩) (Nat.le_refl _) _).setCell (p := ⟨W.heap.size, 3, none⟩) (Nat.le_refl _) _).setCell (p := ⟨W.heap.size, 4, none⟩) (Nat.le_refl _) _
  have H1 := Lib.hid (h.below b1); have K1 := Lib.hid k1; have B1 := Lib.hid b1; have HLT := Lib.hid hlt
  have hok : (letE b).ru.ok := ⟨by show 1 ≤ _; omega, by show b ≤ 255; omega, Nat.zero_le _, Nat.zero_le _, Nat.zero_le _⟩
  have HOK := Lib.hid hok
  obtain ⟨c0, c1, c2, c3, c4⟩ : W1.cell? ⟨W.heap.size, 0, none⟩ = some (.int .i64 1) ∧ W1.cell? ⟨W.heap.size, 1, none⟩ = some (.int .u8 b) ∧ W1.cell? ⟨W.heap.size, 2, none⟩ = some (.int .i64 0) ∧ W1.cell? ⟨W.heap.size, 3, none⟩ = some (.int .i64 0) ∧ W1.cell? ⟨W.heap.size, 4, none⟩ = some (.int .i64 0) := k1.cells
  clear h k1 b1 hlt hok k0 b0
  obtain ⟨f, hf⟩ : ∃ f, fid (letE b).ru 1 E = f := ⟨_, rfl⟩
  have HFD := Lib.hid hf
  have HA : Hid (addF E (letE b) = if f = 0 then (E ++ [letE b], E.length + 1) else (E, f)) := Lib.hid (by unfold addF; rw [hf])
  have HFI := Lib.hid (find_any H1.out HOK.out)
  rw [hf] at HFI
  clear hf
  by_cases hf0 : f = 0
  · rw [if_neg (fun h => by have := h.2; omega)] at HFI
    rw [HA.out, if_pos hf0]
    subst hf0
    clear HA
    go_enter Try.func31, Try.ntmps31
    go_wp2_with fail
    refine HFI.out.mono ?_
    rintro e w2 ⟨rfl, b2⟩
    have B2 := Lib.hid b2
    clear HFI hW1 hWz z0 z1 z2 z3 z4 y0 y1 y2 y3 y4 c0 c1 c2 c3 c4
    have q : ∀ w, Below w2.heap.size w2 w → RuC w W.heap.size ⟨1, b, 0, 0, 0⟩ := fun w hw => below_block (Below.after B2.out hw) K1.out
    have q0 : ∀ w, Below w2.heap.size w2 w → w.cell? ⟨W.heap.size, 0, none⟩ = some (.int .i64 1) := fun w hw => (q w hw).cells.1
    have q1 : ∀ w, Below w2.heap.size w2 w → w.cell? ⟨W.heap.size, 1, none⟩ = some (.int .u8 b) := fun w hw => (q w hw).cells.2.1
    have q2 : ∀ w, Below w2.heap.size w2 w → w.cell? ⟨W.heap.size, 2, none⟩ = some (.int .i64 0) := fun w hw => (q w hw).cells.2.2.1
    have q3 : ∀ w, Below w2.heap.size w2 w → w.cell? ⟨W.heap.size, 3, none⟩ = some (.int .i64 0) := fun w hw => (q w hw).cells.2.2.2.1
    have q4 : ∀ w, Below w2.heap.size w2 w → w.cell? ⟨W.heap.size, 4, none⟩ = some (.int .i64 0) := fun w hw => (q w hw).cells.2.2.2.2
    clear q b2
    go_wp2_with fail
    refine wp_region_anyNP (Below w2.heap.size w2) (by kernel_rfl) ?_
    have S0 : Below w2.heap.size w2 w2.drew := (Below.refl _ _).drew
    refine AnyH.take (i := 0) (d := some 28) (v := ?_) (by kernel_rfl) rfl rfl HF (fun _ _ _ h => h) (.inl ⟨by rfl, ?_⟩) (by first | assumption | rfl) ?_
    rotate_left
    · intro w hS; try subst hS
      go_simp; try with_reducible rfl
    try simp only [Act.put, List.setIfInBounds_toArray, List.set_cons_zero, List.set_cons_succ]
    refine AnyH.take (i := 1) (d := some 29) (v := ?_) (by kernel_rfl) rfl rfl HF (fun _ _ _ h => h) (.inl ⟨by rfl, ?_⟩) (by first | assumption | rfl) ?_
    rotate_left
    · intro w hS; try subst hS
      go_simp; try with_reducible rfl
    try simp only [Act.put, List.setIfInBounds_toArray, List.set_cons_zero, List.set_cons_succ]
    refine AnyH.take (i := 2) (d := some 30) (v := ?_) (by kernel_rfl) rfl rfl HF (fun _ _ _ h => h) (.inl ⟨by rfl, ?_⟩) (by first | assumption | rfl) ?_
    rotate_left
    · intro w hS; try subst hS
      go_simp; try with_reducible rfl
    try simp only [Act.put, List.setIfInBounds_toArray, List.set_cons_zero, List.set_cons_succ]
    refine AnyH.one (i := 3) (by kernel_rfl) (by kernel_rfl) rfl HF (by rfl) (fun K hK => ?_)
    go_simp
    first | ((with_reducible refine And.intro ?hdep ?_); (case hdep => first | rfl | (intro h; cases h))) | skip
    refine callsIn_wide.2 ((wletter_any w2.drew b hb).mono ?_)
    rintro e w3 ⟨rfl, b3⟩
    have S3 := Below.after S0 b3
    obtain ⟨u, hu⟩ : ∃ u, wt [b] = u := ⟨_, rfl⟩
    have HU := Lib.hid hu
    have ev : wtV u = .agg #[.int .i64 u.len, .int .i64 u.lines, .int .i64 u.head, .int .i64 u.tail, .int .u64 u.d.v, .int .u64 u.d.s] := rfl
    rw [hu, ev]
    clear hu ev b3
    refine hK _ _ S3 ?_
    clear hK K
    try simp only [Act.put, List.setIfInBounds_toArray, List.set_cons_zero, List.set_cons_succ]
    refine AnyH.take (i := 4) (d := some 32) (v := ?_) (by kernel_rfl) rfl rfl HF (fun _ _ _ h => h) (.inl ⟨by rfl, ?_⟩) (by first | assumption | rfl) ?_
    rotate_left
    · intro w hS; try subst hS
      go_simp; try with_reducible rfl
    try simp only [Act.put, List.setIfInBounds_toArray, List.set_cons_zero, List.set_cons_succ]
    refine AnyH.tailL 5 (by kernel_rfl) ?_
    simp only [List.drop_succ_cons, List.drop_zero]
    have hle : letE b = ⟨⟨1, b, 0, 0, 0⟩, u, 0, true⟩ := by unfold letE; rw [HU.out]
    have HAD := Lib.hid (sadd_any (H1.out.below (Below.after B2.out S3)) (letE b) HOK.out HFD.out (by omega))
    have hev : enV (letE b) = .agg #[.int .i64 1, .int .u8 b, .int .i64 0, .int .i64 0, .int .i64 0, .int .i64 u.len, .int .i64 u.lines, .int .i64 u.head, .int .i64 u.tail, .int .u64 u.d.v, .int .u64 u.d.s, .int .i64 0, .bool true] := by rw [hle]; rfl
    rw [hev] at HAD
    have B3 := Lib.hid (Below.after B2.out S3)
    clear hle hev q0 q1 q2 q3 q4 S0 S3 HU
    gi_wp2_with fail
    refine ⟨rfl, callsIn_wide.2 (HAD.out.mono ?_)⟩
    rintro e w4 ⟨rfl, hS, hB, hK⟩
    have HS := Lib.hid hS
    have HB := Lib.hid (show Below n0 W w4 from ((B1.out.mono HLT.out).trans (B3.out.mono (Nat.le_trans HLT.out B1.out.size))).trans hB)
    have HK := Lib.hid (((Kt.of B1.out).trans (Kt.of B3.out)).trans hK)
    clear hS hB hK HAD
    gi_wp2_with fail
    refine NP.normal ?_
    go_wp2_with fail
    go_ret2
    exact ⟨by simp, HS.out, HB.out, HK.out⟩
  · rw [if_neg (fun h => hf0 h.1)] at HFI
    rw [HA.out, if_neg hf0]
    have hfn : ((f : Int) != 0) = true := by simp; omega
    clear HA
    go_enter Try.func31, Try.ntmps31
    go_wp2_with fail
    refine HFI.out.mono ?_
    rintro e w2 ⟨rfl, b2⟩
    have B2 := Lib.hid b2
    clear HFI hW1 hWz z0 z1 z2 z3 z4 y0 y1 y2 y3 y4 c0 c1 c2 c3 c4
    go_wp2_with fail
    go_ret2
    exact ⟨rfl, H1.out.below b2, (B1.out.mono HLT.out).trans (b2.mono (Nat.le_trans HLT.out B1.out.size)), (Kt.of B1.out).trans (Kt.of b2)⟩
end M
end Go.Proofs.Ytplccefjljdjnaa
namespace Go.Proofs.Ytplccefjljdjnaa
open Go.RowKit
namespace M
attribute [local go_sem] Oper.semAt_some
set_option maxRecDepth 100000 in
set_option maxHeartbeats 1000000 in
theorem rule_any {n0 B most : Nat} {W : World} {E : List En} (h : StAt n0 W B most E) {i : Nat} (h0 : 0 < i) (hi : i ≤ E.length) (hE : E.length ≤ 1048576) :
    Calls Try.prog 63 #[.pointer (some ⟨B, 0, none⟩), .int .i64 i] W fun e w' => e = .returned (.tuple #[ruV (entAt E i).ru, .nilIface]) ∧ Below W.heap.size W w' := by
  obtain ⟨W1, hW1⟩ : ∃ w, W.alloc (.cells #[.int .i64 0, .int .u8 0, .int .i64 0, .int .i64 0, .int .i64 0] 111) = w := ⟨_, rfl⟩
  have k1 : RuC W1 W.heap.size ⟨0, 0, 0, 0, 0⟩ := by rw [← hW1]; exact heap_new' _ _
  have b1 : Below W.heap.size W W1 := by rw [← hW1]; exact (Below.refl _ _).alloc (Nat.le_refl _) _
  have HKN := Lib.hid (known_any (h.below b1) (i : Int))
  rw [decide_eq_true (show 0 ≤ (i : Int) ∧ (i : Int) ≤ (E.length : Int) by omega)] at HKN
  obtain ⟨lv, mb, h1, h2, h3, h4, h5⟩ := h.below b1
  clear h
  obtain ⟨-, c1, -, -⟩ := h1.cells
  have hi0 : ((i : Int) == 0) = false := by simp; omega
  have hlt : i - 1 < E.length := by omega
  obtain ⟨g, cap, rfl, -, -, hc⟩ := h2.at hlt
  obtain ⟨⟨q0, q1, q2, q3, q4⟩, -⟩ := hc W1 (Below.refl _ _) (i - 1) hlt
  have HW := Lib.hid (entAt_some h0 hi)
  generalize E[i - 1] = e at *
  have hs : IntKind.i64.wrap ((i : Int) - 1) = ((i - 1 : Nat) : Int) := by rw [IntKind.wrap_i64]; omega
  have hi3 : ((i - 1 : Nat) : Int) < (E.length : Int) := by omega
  have hi4 : (0 : Int) ≤ ((i - 1 : Nat) : Int) := by omega
  obtain ⟨j, hj⟩ : ∃ j, i - 1 = j := ⟨_, rfl⟩
  rw [hj] at hs hi3 hi4 q0 q1 q2 q3 q4
  obtain ⟨x0, x1, x2, x3, x4⟩ : W1.cell? ⟨W.heap.size, 0, none⟩ = some (.int .i64 0) ∧ W1.cell? ⟨W.heap.size, 1, none⟩ = some (.int .u8 0) ∧ W1.cell? ⟨W.heap.size, 2, none⟩ = some (.int .i64 0) ∧ W1.cell? ⟨W.heap.size, 3, none⟩ = some (.int .i64 0) ∧ W1.cell? ⟨W.heap.size, 4, none⟩ = some (.int .i64 0) := k1.cells
  have f0 := k1.free 0; have f1 := k1.free 1; have f2 := k1.free 2; have f3 := k1.free 3; have f4 := k1.free 4
  obtain ⟨w3, hw3⟩ : ∃ w, ((((W1.setCell ⟨W.heap.size, 0, none⟩ (.int .i64 e.ru.kind)).setCell ⟨W.heap.size, 1, none⟩ (.int .u8 e.ru.letter)).setCell ⟨W.heap.size, 2, none⟩ (.int .i64 e.ru.left)).setCell ⟨W.heap.size, 3, none⟩ (.int .i64 e.ru.right)).setCell ⟨W.heap.size, 4, none⟩ (.int .i64 e.ru.times) = w := ⟨_, rfl⟩
  have K3 : Hid (RuC w3 W.heap.size e.ru) := Lib.hid (by rw [← hw3]; exact k1.set e.ru)
  have B3 : Hid (Below W.heap.size W w3) := Lib.hid (by
    rw [← hw3]
    exact ((((b1.setCell (p := ⟨W.heap.size, 0, none⟩) (Nat.le_refl _) _).setCell (p := ⟨W.heap.size, 1, none⟩) (Nat.le_refl _) _).setCell (p := ⟨W.heap.size, 2, none⟩) (Nat.le_refl _) _).setCell (p := ⟨W.heap.size, 3, none⟩) (Nat.le_refl _) _).setCell (p := ⟨W.heap.size, 4, none⟩) (Nat.le_refl _) _)
  clear h1 h2 h3 h4 h5 hc k1 b1 hlt hj
  go_enter Try.func63, Try.ntmps63
  go_wp2_with fail
  refine HKN.out.mono ?_; rintro e' w4 ⟨rfl, h⟩; rw [h]; clear h w4
  go_wp2_with fail
  obtain ⟨x0, x1, x2, x3, x4⟩ := K3.out.cells
  exact bodyPost_ret (v := .tuple #[ruV e.ru, .nilIface]) (by simp [results, Try.results63, go_sem, x0, x1, x2, x3, x4]) rfl ⟨by rw [HW.out], B3.out⟩
set_option maxRecDepth 100000 in
set_option maxHeartbeats 1000000 in
theorem weight_any {n0 B most : Nat} {W : World} {E : List En} (h : StAt n0 W B most E) {i : Nat} (hi : i ≤ E.length) (hE : E.length ≤ 1048576) :
    Calls Try.prog 62 #[.pointer (some ⟨B, 0, none⟩), .int .i64 i] W fun e w' => e = .returned (.tuple #[wtV (entAt E i).w, .nilIface]) ∧ Below W.heap.size W w' := by
  obtain ⟨W1, hW1⟩ : ∃ w, W.alloc (.cells #[.int .i64 0, .int .i64 0, .int .i64 0, .int .i64 0, .int .u64 0, .int .u64 0] 118) = w := ⟨_, rfl⟩
  have k1 : WtC W1 W.heap.size w0 := by rw [← hW1]; exact heap_new' _ _
  have b1 : Below W.heap.size W W1 := by rw [← hW1]; exact (Below.refl _ _).alloc (Nat.le_refl _) _
  have HKN := Lib.hid (known_any (h.below b1) (i : Int))
  rw [decide_eq_true (show 0 ≤ (i : Int) ∧ (i : Int) ≤ (E.length : Int) by omega)] at HKN
  have HAT := Lib.hid (at_any (h.below b1) hi hE)
  have hfl : ∀ (a b c d e f g h i j k l m : Value) (w : World), (Instr.field 121 (.agg #[a, b, c, d, e, f, g, h, i, j, k, l, m]) 1).run Try.prog w = .ok (.agg #[f, g, h, i, j, k]) w := fun _ _ _ _ _ _ _ _ _ _ _ _ _ _ => by kernel_rfl
  have K1 := Lib.hid k1; have B1 := Lib.hid b1
  obtain ⟨e, he⟩ : ∃ e, entAt E i = e := ⟨_, rfl⟩
  rw [he] at HAT ⊢
  unfold enV at HAT
  clear h k1 b1 he
  go_enter Try.func62, Try.ntmps62
  go_wp2_with fail
  refine HKN.out.mono ?_; rintro e' w4 ⟨rfl, h⟩; rw [h]; clear h w4 hW1
  go_wp2_with fail
  refine HAT.out.mono ?_; rintro e' w2 ⟨rfl, b2⟩
  have k2 := below_block b2 K1.out
  obtain ⟨x0, x1, x2, x3, x4, x5⟩ := WtC.cells k2
  have f0 := WtC.free k2 0; have f1 := WtC.free k2 1; have f2 := WtC.free k2 2; have f3 := WtC.free k2 3; have f4 := WtC.free k2 4; have f5 := WtC.free k2 5
  simp only [w0] at x0 x1 x2 x3 x4 x5
  have K3 := Lib.hid (WtC.set k2 e.w)
  have B3 := Lib.hid (setW_below (Below.after B1.out b2) (Nat.le_refl _) e.w)
  obtain ⟨w3, hw3⟩ : ∃ w, setW w2 W.heap.size e.w = w := ⟨_, rfl⟩
  rw [hw3] at K3 B3
  simp only [setW] at hw3
  clear k2 b2
  go_wp2_with fail
  obtain ⟨x0, x1, x2, x3, x4, x5⟩ := K3.out.cells
  exact bodyPost_ret (v := .tuple #[wtV e.w, .nilIface]) (by simp [results, Try.results62, go_sem, x0, x1, x2, x3, x4, x5]) rfl ⟨rfl, B3.out⟩
end M
end Go.Proofs.Ytplccefjljdjnaa
namespace Go.Proofs.Ytplccefjljdjnaa
open Go.RowKit Go.Lib
namespace M
attribute [local go_sem] Oper.semAt_some
set_option maxRecDepth 100000 in
set_option maxHeartbeats 1000000 in
theorem snew_any (W : World) (n : Nat) (hn : n ≤ 1048576) : Calls Try.prog 15 #[.int .i64 n] W fun e w' => ∃ B, e = .returned (.pointer (some ⟨B, 0, none⟩)) ∧ StAt W.heap.size w' B n [] ∧ Below W.heap.size W w' := by
  have hmm := @run_makeMap Try.prog
  have hc : (if (n : Int) < 0 then (0 : Int) else if (n : Int) > 1048576 then 1048576 else (n : Int)) = (n : Int) := by
    rw [if_neg (by omega), if_neg (by omega)]
  go_enter Try.func15, Try.ntmps15
  go_wp2_with fail
  refine (clip_any W n 0 1048576).mono ?_; rintro e w ⟨rfl, h⟩; rw [h, hc]; clear h w
  clear hc
  go_wp2_with fail
  go_ret
  refine ⟨_, rfl, ⟨.slice none 0 0, W.heap.size, ?_, SlA.nil _ _ _ _ _, ?_, by simp, Nat.le_refl _⟩, ?_⟩
  · have := heap_new' (W.alloc (.map #[] 0)) (.cells #[.int .i64 n, .slice none 0 0, .map (some W.heap.size)] 91)
    rw [World.size_alloc] at this
    exact this
  · exact (MapR.made W).below ((Below.refl _ _).alloc (Nat.le_refl _) _)
  · exact ((Below.refl _ W).alloc (Nat.le_refl _) _).alloc (by simp) _
end M
end Go.Proofs.Ytplccefjljdjnaa
