/- The store of rules: an entry's block; at. -/
import Derived.Test.YtpjcfepngjpfbaaWRep
import Derived.Test.YtpjcfepngjpfbaaGoMaps
import Derived.DeepKeys4
namespace Go.Proofs.Ytpjcfepngjpfbaa
open Go.RowKit Go.MapKept Go.ChangeMaps Go.WideMaps
namespace M
structure Ru where
  kind : Nat
  letter : Nat
  left : Nat
  right : Nat
  times : Nat
deriving DecidableEq
abbrev ruV (r : Ru) : Value := .agg #[.int .i64 r.kind, .int .u8 r.letter, .int .i64 r.left, .int .i64 r.right, .int .i64 r.times]
def Ru.ok (r : Ru) : Prop := r.kind ≤ 9223372036854775807 ∧ r.letter ≤ 255 ∧ r.left ≤ 9223372036854775807 ∧ r.right ≤ 9223372036854775807 ∧ r.times ≤ 9223372036854775807
theorem ruV_inj {a b : Ru} (h : ruV a = ruV b) : a = b := by
  obtain ⟨a1, a2, a3, a4, a5⟩ := a
  obtain ⟨b1, b2, b3, b4, b5⟩ := b
  simp only [ruV, Value.agg.injEq, Array.mk.injEq, List.cons.injEq, Value.int.injEq, true_and, and_true] at h
  simp only [Ru.mk.injEq]
  omega
theorem wfN {q : IntKind} {n : Nat} (h : q = .i64 ∧ n ≤ 9223372036854775807 ∨ q = .u8 ∧ n ≤ 255) : (Lit.int q (n : Int)).wf = true := by
  rcases h with ⟨rfl, h⟩ | ⟨rfl, h⟩
  · simp [Lit.wf, IntKind.min, IntKind.max, IntKind.signed, IntKind.bits]; omega
  · simp [Lit.wf, IntKind.min, IntKind.max, IntKind.signed, IntKind.bits]; omega
theorem ru_keyed : Maps.Keyed Try.prog 59 := Maps.Keyed.of_law (deep_law_laid (by kernel_rfl) (m := 9999) (by decide) (by decide +kernel) (by kernel_rfl) (by kernel_rfl))
theorem keyOf_ru {r : Ru} (h : r.ok) : ∃ l, keyOf Try.prog 59 (ruV r) = some l := by
  have hkt : Try.prog.keyType 59 = true := by kernel_rfl
  have hc : Try.prog.cellsOf 59 = 5 := by kernel_rfl
  have hs := Try.underlying59
  have hI := Try.underlying3
  have hU := Try.underlying5
  have hD := Try.underlying31
  have eI : Try.prog.cellsOf 3 = 1 := by kernel_rfl
  have eU : Try.prog.cellsOf 5 = 1 := by kernel_rfl
  have eD : Try.prog.cellsOf 31 = 1 := by kernel_rfl
  obtain ⟨m, hm⟩ : ∃ m, Try.prog.types.size = m + 1 := ⟨Try.prog.types.size - 1, by kernel_rfl⟩
  obtain ⟨h1, h2, h3, h4, h5⟩ := h
  have w1 := wfN (q := .i64) (n := r.kind) (.inl ⟨rfl, h1⟩)
  have w2 := wfN (q := .u8) (n := r.letter) (.inr ⟨rfl, h2⟩)
  have w3 := wfN (q := .i64) (n := r.left) (.inl ⟨rfl, h3⟩)
  have w4 := wfN (q := .i64) (n := r.right) (.inl ⟨rfl, h4⟩)
  have w5 := wfN (q := .i64) (n := r.times) (.inl ⟨rfl, h5⟩)
  unfold keyOf
  simp only [hs]
  rw [if_pos (by simp [hkt, Value.formed, hs, hc]), hm]
  unfold Program.keyLits
  simp only [hs, Value.cells]
  rw [if_pos (by simp [hc])]
  simp [List.mapM_cons, List.mapM_nil, eI, eU, eD, Program.keyLits, hI, hU, hD, w1, w2, w3, w4, w5]
/-- An entry of the store. -/
structure En where
  ru : Ru
  w : Wt
  depth : Nat
  even : Bool
/-- The map's entries, the first with number n. -/
def idl : Nat → List En → List (Value × Value)
  | _, [] => []
  | n, e :: E => (ruV e.ru, .int .i64 n) :: idl (n + 1) E
theorem idl_length : ∀ (n : Nat) (E : List En), (idl n E).length = E.length
  | _, [] => rfl
  | n, e :: E => by simp [idl, idl_length]
theorem idl_append : ∀ (n : Nat) (E : List En) (e : En), idl n (E ++ [e]) = idl n E ++ [(ruV e.ru, .int .i64 (n + E.length : Nat))]
  | n, [], e => rfl
  | n, a :: E, e => by
    have h := idl_append (n + 1) E e
    simp only [List.cons_append, idl, h, List.length_cons]
    rw [show n + 1 + E.length = n + (E.length + 1) by omega]
theorem idl_at : ∀ (n : Nat) (E : List En) (j : Nat) (x : Value × Value), (idl n E)[j]? = some x → ∃ e, E[j]? = some e ∧ x = (ruV e.ru, .int .i64 (n + j : Nat))
  | _, [], j, x, h => by simp [idl] at h
  | n, e :: E, 0, x, h => by
    simp only [idl, List.getElem?_cons_zero, Option.some.injEq] at h
    exact ⟨e, rfl, h.symm⟩
  | n, e :: E, j + 1, x, h => by
    simp only [idl, List.getElem?_cons_succ] at h
    obtain ⟨e', h1, h2⟩ := idl_at (n + 1) E j x h
    exact ⟨e', h1, by rw [h2, show n + 1 + j = n + (j + 1) by omega]⟩
/-- The number of a rule; 0 if it is not there. -/
def fid (r : Ru) : Nat → List En → Nat
  | _, [] => 0
  | n, e :: E => if e.ru = r then n else fid r (n + 1) E
theorem fid_none {r : Ru} : ∀ {n : Nat} {E : List En}, (∀ e ∈ E, e.ru ≠ r) → fid r n E = 0
  | _, [], _ => rfl
  | n, e :: E, h => by rw [fid, if_neg (h e (List.mem_cons_self ..))]; exact fid_none fun x hx => h x (List.mem_cons_of_mem _ hx)
theorem fid_at {r : Ru} : ∀ {n j : Nat} {E : List En} {e : En}, (E.map En.ru).Nodup → E[j]? = some e → e.ru = r → fid r n E = n + j
  | n, 0, a :: E, e, _, h, hr => by
    simp only [List.getElem?_cons_zero, Option.some.injEq] at h
    subst h
    rw [fid, if_pos hr, Nat.add_zero]
  | n, j + 1, a :: E, e, hn, h, hr => by
    rw [List.getElem?_cons_succ] at h
    obtain ⟨h1, h2⟩ := List.nodup_cons.1 hn
    rw [fid, if_neg (fun x => h1 (List.mem_map.2 ⟨e, List.mem_of_getElem? h, hr.trans x.symm⟩)), fid_at h2 h hr]
    omega
theorem fid_zero {r : Ru} : ∀ {n : Nat} {E : List En}, 0 < n → fid r n E = 0 → ∀ e ∈ E, e.ru ≠ r
  | _, [], _, _, e, he => by cases he
  | n, a :: E, hn, h, e, he => by
    rw [fid] at h
    split at h
    · omega
    · rename_i hne
      rcases List.mem_cons.1 he with rfl | he
      · exact hne
      · exact fid_zero (by omega) h e he
theorem fid_le {r : Ru} : ∀ {n : Nat} {E : List En}, fid r n E ≠ 0 → ∃ j e, fid r n E = n + j ∧ E[j]? = some e ∧ e.ru = r
  | _, [], h => absurd rfl h
  | n, a :: E, h => by
    rw [fid] at h ⊢
    split at h
    · rename_i hr; rw [if_pos hr]; exact ⟨0, a, rfl, rfl, hr⟩
    · rename_i hr
      rw [if_neg hr]
      obtain ⟨j, e, h1, h2, h3⟩ := fid_le h
      exact ⟨j + 1, e, by omega, by simpa using h2, h3⟩
/-- The store's map. -/
def MapR (w : World) (b : Nat) (E : List En) : Prop :=
  ∃ es clock, w.heap[b]? = some (.map es clock) ∧ Stamped es clock ∧ es.toList.map (fun e => (e.key, e.val)) = idl 1 E ∧ ∀ e ∈ E, e.ru.ok
section
variable {w : World} {b : Nat} {E : List En}
theorem MapR.lt (h : MapR w b E) : b < w.heap.size := by obtain ⟨es, c, h, -⟩ := h; exact (Array.getElem?_eq_some_iff.1 h).1
theorem MapR.of_block {w' : World} (h : MapR w b E) (hb : w'.heap[b]? = w.heap[b]?) : MapR w' b E := by
  obtain ⟨es, c, h1, h2⟩ := h
  exact ⟨es, c, hb.trans h1, h2⟩
theorem MapR.below {w' : World} (h : MapR w b E) (hb : Below w.heap.size w w') : MapR w' b E := h.of_block (hb.block b h.lt)
theorem MapR.made (w : World) : MapR (w.alloc (.map #[] 0)) w.heap.size [] :=
  ⟨#[], 0, heap_new' _ _, stamped_empty 0, by simp [idl], by simp⟩
theorem MapR.nodup (h : MapR w b E) : (E.map En.ru).Nodup := by
  obtain ⟨es, c, -, h2, h3, -⟩ := h
  have h4 := ((stamped_iff es c).1 h2).2.2
  have h5 : (es.toList.map (fun e => (e.key, e.val))).Pairwise (fun x y => x.1 ≠ y.1) := List.pairwise_map.2 h4
  rw [h3] at h5
  have : ∀ (n : Nat) (E : List En), (idl n E).Pairwise (fun x y => x.1 ≠ y.1) → (E.map En.ru).Nodup := by
    intro n E
    induction E generalizing n with
    | nil => intro _; exact List.nodup_nil
    | cons a E ih =>
      intro h
      rw [idl] at h
      obtain ⟨h1, h2⟩ := List.pairwise_cons.1 h
      rw [List.map_cons]
      refine List.nodup_cons.2 ⟨fun hin => ?_, ih _ h2⟩
      obtain ⟨e, he, hr⟩ := List.mem_map.1 hin
      obtain ⟨j, hj, hje⟩ := List.getElem_of_mem he
      have hl : j < (idl (n + 1) E).length := by rw [idl_length]; exact hj
      obtain ⟨e', h3, h4⟩ := idl_at (n + 1) E j _ (List.getElem?_eq_getElem hl)
      rw [List.getElem?_eq_getElem hj, hje] at h3
      cases h3
      refine h1 _ (List.getElem_mem hl) ?_
      rw [h4]
      show ruV a.ru = ruV e.ru
      rw [hr]
  exact this 1 E h5
theorem MapR.reads {es : Array MapEntry} (h3 : es.toList.map (fun e => (e.key, e.val)) = idl 1 E) (h4 : ∀ e ∈ E, e.ru.ok) : ∀ x ∈ es.toList, ∃ lx, keyOf Try.prog 59 x.key = some lx := by
  intro x hx
  have : (x.key, x.val) ∈ idl 1 E := by rw [← h3]; exact List.mem_map.2 ⟨x, hx, rfl⟩
  obtain ⟨j, hj, hje⟩ := List.getElem_of_mem this
  obtain ⟨e, h5, h6⟩ := idl_at 1 E j _ (List.getElem?_eq_getElem hj)
  rw [hje] at h6
  have : x.key = ruV e.ru := (Prod.mk.inj h6).1
  rw [this]
  exact keyOf_ru (h4 e (List.mem_of_getElem? h5))
theorem MapR.look (h : MapR w b E) {r : Ru} (hr : r.ok) :
    (Instr.lookup 114 (.map (some b)) (ruV r) true).run Try.prog w = .ok (.tuple #[.int .i64 (fid r 1 E), .bool (decide (fid r 1 E ≠ 0))]) w := by
  have hn := h.nodup
  obtain ⟨es, clock, hb, h2, h3, h4⟩ := h
  have K := ru_keyed
  obtain ⟨lx, hkey⟩ := keyOf_ru hr
  have ht := Try.underlying114
  have hz : (zeroValue 31).run Try.prog w = .ok (.int .i64 0) w := by kernel_rfl
  rcases K.find w hkey es.toList (MapR.reads h3 h4) with ⟨h5, h6⟩ | ⟨j, e0, h5, h6, h7⟩
  · have hf : fid r 1 E = 0 := fid_none fun e he hre => by
      obtain ⟨j, hj, hje⟩ := List.getElem_of_mem he
      have hl : j < (idl 1 E).length := by rw [idl_length]; exact hj
      obtain ⟨e', h8, h9⟩ := idl_at 1 E j _ (List.getElem?_eq_getElem hl)
      rw [List.getElem?_eq_getElem hj, hje] at h8
      cases h8
      have h10 : (idl 1 E)[j] ∈ es.toList.map (fun e => (e.key, e.val)) := by rw [h3]; exact List.getElem_mem hl
      obtain ⟨x, hx, hxe⟩ := List.mem_map.1 h10
      rw [h9] at hxe
      exact h6 x hx (by rw [(Prod.mk.inj hxe).1, hre])
    rw [hf]
    simp [Instr.lookup, run_underlying ht, MapKept.run_getObj_map hb, K.check w _ hkey, h5, hz, Result.andThen]
  · have h8 : (idl 1 E)[j]? = some (e0.key, e0.val) := by rw [← h3, List.getElem?_map, h6]; rfl
    obtain ⟨e, h9, h10⟩ := idl_at 1 E j _ h8
    have h11 : e0.key = ruV e.ru := (Prod.mk.inj h10).1
    have h12 : e0.val = .int .i64 (1 + j : Nat) := (Prod.mk.inj h10).2
    have hre : e.ru = r := ruV_inj (h11.symm.trans h7)
    have hf : fid r 1 E = 1 + j := fid_at hn h9 hre
    rw [hf]
    have hd : decide (1 + j ≠ 0) = true := decide_eq_true (by omega)
    simp [Instr.lookup, run_underlying ht, MapKept.run_getObj_map hb, K.check w _ hkey, h5, h12, Result.andThen]
theorem MapR.put (h : MapR w b E) (hroom : E.length < 9223372036854775807) (e : En) (hr : e.ru.ok) (hnew : fid e.ru 1 E = 0) :
    ∃ w', (Instr.mapUpdate 114 (.map (some b)) (ruV e.ru) (.int .i64 (E.length + 1 : Nat))).run Try.prog w = .ok () w' ∧ MapR w' b (E ++ [e]) ∧ w.grownBy w' (some b) ∧ w'.heap.size = w.heap.size := by
  obtain ⟨es, clock, hb, h2, h3, h4⟩ := h
  have K := ru_keyed
  obtain ⟨lx, hkey⟩ := keyOf_ru hr
  have ht := Try.underlying114
  have hsz : es.size = E.length := by have := congrArg List.length h3; rw [idl_length] at this; simpa using this
  have grow : ∀ o, w.grownBy (setBlock w b o) (some b) := fun o => ⟨rfl, rfl, rfl, by simp [setBlock], fun i _ hi => heap_setBlock_other hb _ (fun e => hi (by rw [e]))⟩
  rcases K.find w hkey es.toList (MapR.reads h3 h4) with ⟨h5, h6⟩ | ⟨j, e0, h5, h6, h7⟩
  · refine ⟨setBlock w b (.map (es.push ⟨ruV e.ru, .int .i64 (E.length + 1 : Nat), clock⟩) (clock + 1)), ?_, ⟨_, _, heap_setBlock_same hb _, stamped_push h2 h6, ?_, ?_⟩, grow _, by simp [setBlock]⟩
    · have : es.size < maxLen := by unfold maxLen; omega
      simp [Instr.mapUpdate, run_underlying ht, MapKept.run_getObj_map hb, K.check w false hkey, h5, MapKept.run_setObj_map _ hb, Result.andThen, setBlock]
    · rw [Array.toList_push, List.map_append, h3, idl_append, show 1 + E.length = E.length + 1 by omega]
      rfl
    · intro x hx
      rcases List.mem_append.1 hx with hx | hx
      · exact h4 x hx
      · simp only [List.mem_singleton] at hx; subst hx; exact hr
  · exfalso
    have h8 : (idl 1 E)[j]? = some (e0.key, e0.val) := by rw [← h3, List.getElem?_map, h6]; rfl
    obtain ⟨e', h9, h10⟩ := idl_at 1 E j _ h8
    have hre : e'.ru = e.ru := ruV_inj ((Prod.mk.inj h10).1.symm.trans h7)
    exact fid_zero (by omega) hnew e' (List.mem_of_getElem? h9) hre
end
end M
end Go.Proofs.Ytpjcfepngjpfbaa
namespace Go.Proofs.Ytpjcfepngjpfbaa
open Go.RowKit
namespace M
attribute [local go_sem] Oper.semAt_some
def enL (e : En) : List Value := [.int .i64 e.ru.kind, .int .u8 e.ru.letter, .int .i64 e.ru.left, .int .i64 e.ru.right, .int .i64 e.ru.times, .int .i64 e.w.len, .int .i64 e.w.lines, .int .i64 e.w.head, .int .i64 e.w.tail, .int .u64 e.w.d.v, .int .u64 e.w.d.s, .int .i64 e.depth, .bool e.even]
theorem enL_len (e : En) : (enL e).length = 13 := rfl
abbrev enV (e : En) : Value := .agg #[.int .i64 e.ru.kind, .int .u8 e.ru.letter, .int .i64 e.ru.left, .int .i64 e.ru.right, .int .i64 e.ru.times, .int .i64 e.w.len, .int .i64 e.w.lines, .int .i64 e.w.head, .int .i64 e.w.tail, .int .u64 e.w.d.v, .int .u64 e.w.d.s, .int .i64 e.depth, .bool e.even]
abbrev Ens (B : Nat) (W : World) (v : Value) (E : List En) : Prop := SlA B W 122 13 enL v E
theorem elemE : Elem Try.prog 113 122 13 104 := elem_of Try.underlying113 (z := .agg #[.int .i64 0, .int .u8 0, .int .i64 0, .int .i64 0, .int .i64 0, .int .i64 0, .int .i64 0, .int .i64 0, .int .i64 0, .int .u64 0, .int .u64 0, .int .i64 0, .bool false]) (by kernel_rfl) rfl (by decide) (by decide)
/-- Thirteen cells of an entry from an offset on. -/
def EnAt (W : World) (g o : Nat) (e : En) : Prop := (W.cell? ⟨g, o, none⟩ = some (.int .i64 e.ru.kind) ∧ W.cell? ⟨g, o + 1, none⟩ = some (.int .u8 e.ru.letter) ∧ W.cell? ⟨g, o + 2, none⟩ = some (.int .i64 e.ru.left) ∧ W.cell? ⟨g, o + 3, none⟩ = some (.int .i64 e.ru.right) ∧ W.cell? ⟨g, o + 4, none⟩ = some (.int .i64 e.ru.times)) ∧
  (W.cell? ⟨g, o + 5, none⟩ = some (.int .i64 e.w.len) ∧ W.cell? ⟨g, o + 6, none⟩ = some (.int .i64 e.w.lines) ∧ W.cell? ⟨g, o + 7, none⟩ = some (.int .i64 e.w.head) ∧ W.cell? ⟨g, o + 8, none⟩ = some (.int .i64 e.w.tail) ∧ W.cell? ⟨g, o + 9, none⟩ = some (.int .u64 e.w.d.v) ∧ W.cell? ⟨g, o + 10, none⟩ = some (.int .u64 e.w.d.s)) ∧
  W.cell? ⟨g, o + 11, none⟩ = some (.int .i64 e.depth) ∧ W.cell? ⟨g, o + 12, none⟩ = some (.bool e.even)
theorem Ens.at {B : Nat} {W : World} {v : Value} {E : List En} (h : Ens B W v E) {i : Nat} (hi : i < E.length) :
    ∃ g cap, v = .slice (some ⟨g, 0, none⟩) E.length cap ∧ E.length ≤ cap ∧ cap ≤ maxLen ∧ ∀ (W' : World), Below W.heap.size W W' → ∀ i (hi : i < E.length), EnAt W' g (i * 13) E[i] := by
  rcases h.shape with ⟨-, rfl⟩ | ⟨g, cap, rfl, h1, h2⟩
  · simp at hi
  · refine ⟨g, cap, rfl, h1, h2, fun W' hb i hi => ?_⟩
    have h' := h.below hb
    have c := fun (j : Nat) (hj : j < 13) => SlA.cell enL_len h' hi (j := j) hj
    exact ⟨⟨c 0 (by omega), c 1 (by omega), c 2 (by omega), c 3 (by omega), c 4 (by omega)⟩, ⟨c 5 (by omega), c 6 (by omega), c 7 (by omega), c 8 (by omega), c 9 (by omega), c 10 (by omega)⟩, c 11 (by omega), c 12 (by omega)⟩
/-- The store's own block. -/
def StC (W : World) (B most : Nat) (lv : Value) (mb : Nat) : Prop := W.heap[B]? = some (.cells #[.int .i64 most, lv, .map (some mb)] 116 (0, 0))
theorem StC.cells {W : World} {B most mb : Nat} {lv : Value} (h : StC W B most lv mb) : W.cell? ⟨B, 0, none⟩ = some (.int .i64 most) ∧ W.cell? ⟨B, 1, none⟩ = some lv ∧ W.cell? ⟨B, 2, none⟩ = some (.map (some mb)) ∧ W.frozen? ⟨B, 1, none⟩ = false := by
  unfold StC at h
  simp [World.cell?, World.frozen?, h]
/-- A store; nothing of it lies below n0. -/
def StAt (n0 : Nat) (W : World) (B most : Nat) (E : List En) : Prop := ∃ lv mb, StC W B most lv mb ∧ Ens n0 W lv E ∧ MapR W mb E ∧ n0 ≤ B ∧ n0 ≤ mb
theorem StAt.below {n0 B most : Nat} {W W' : World} {E : List En} (h : StAt n0 W B most E) (hb : Below W.heap.size W W') : StAt n0 W' B most E := by
  obtain ⟨lv, mb, h1, h2, h3, h4⟩ := h
  exact ⟨lv, mb, below_block hb h1, h2.below hb, h3.below hb, h4⟩
theorem StAt.lt {n0 B most : Nat} {W : World} {E : List En} (h : StAt n0 W B most E) : n0 ≤ W.heap.size := by
  obtain ⟨lv, mb, h1, h2, h3, h4, h5⟩ := h
  exact Nat.le_trans h4 (Nat.le_of_lt (Array.getElem?_eq_some_iff.1 h1).1)
/-- What is known of a number. -/
def entAt (E : List En) (i : Nat) : En := if i = 0 then ⟨⟨0, 0, 0, 0, 0⟩, wt [], 0, true⟩ else (E[i - 1]?).getD ⟨⟨0, 0, 0, 0, 0⟩, wt [], 0, true⟩
theorem entAt_some {E : List En} {i : Nat} (h0 : 0 < i) (hi : i ≤ E.length) : entAt E i = E[i - 1]'(by omega) := by
  unfold entAt
  rw [if_neg (by omega), List.getElem?_eq_getElem (by omega)]; rfl
set_option maxRecDepth 100000 in
theorem known_any {n0 B most : Nat} {W : World} {E : List En} (h : StAt n0 W B most E) (i : Int) :
    Calls Try.prog 57 #[.pointer (some ⟨B, 0, none⟩), .int .i64 i] W fun e w' => e = .returned (.bool (decide (0 ≤ i ∧ i ≤ E.length))) ∧ w' = W := by
  obtain ⟨lv, mb, h1, h2, -, -, -⟩ := h
  obtain ⟨a, cap, rfl⟩ := h2.len
  obtain ⟨-, c1, -, -⟩ := h1.cells
  clear h1 h2
  by_cases k1 : 0 ≤ i
  · by_cases k2 : i ≤ (E.length : Int)
    · rw [decide_eq_true (show 0 ≤ i ∧ i ≤ (E.length : Int) from ⟨k1, k2⟩)]
      go_enter Try.func57, Try.ntmps57
      go_wp2_with fail
      go_ret
      exact ⟨rfl, rfl⟩
    · rw [decide_eq_false (show ¬ (0 ≤ i ∧ i ≤ (E.length : Int)) from fun h => k2 h.2)]
      go_enter Try.func57, Try.ntmps57
      go_wp2_with fail
      go_ret
      exact ⟨rfl, rfl⟩
  · rw [decide_eq_false (show ¬ (0 ≤ i ∧ i ≤ (E.length : Int)) from fun h => k1 h.1)]
    go_enter Try.func57, Try.ntmps57
    go_wp2_with fail
    go_ret
    exact ⟨rfl, rfl⟩
end M
end Go.Proofs.Ytpjcfepngjpfbaa
namespace Go.Proofs.Ytpjcfepngjpfbaa
open Go.RowKit
namespace M
attribute [local go_sem] Oper.semAt_some
/-- An entry in a block. -/
def EnC (W : World) (g : Nat) (e : En) : Prop := W.heap[g]? = some (.cells #[.int .i64 e.ru.kind, .int .u8 e.ru.letter, .int .i64 e.ru.left, .int .i64 e.ru.right, .int .i64 e.ru.times, .int .i64 e.w.len, .int .i64 e.w.lines, .int .i64 e.w.head, .int .i64 e.w.tail, .int .u64 e.w.d.v, .int .u64 e.w.d.s, .int .i64 e.depth, .bool e.even] 122 (0, 0))
def en0 : En := ⟨⟨0, 0, 0, 0, 0⟩, w0, 0, false⟩
section
variable {W : World} {g : Nat} {e : En}
theorem EnC.cells (h : EnC W g e) : W.cell? ⟨g, 0, none⟩ = some (.int .i64 e.ru.kind) ∧ W.cell? ⟨g, 1, none⟩ = some (.int .u8 e.ru.letter) ∧ W.cell? ⟨g, 2, none⟩ = some (.int .i64 e.ru.left) ∧ W.cell? ⟨g, 3, none⟩ = some (.int .i64 e.ru.right) ∧ W.cell? ⟨g, 4, none⟩ = some (.int .i64 e.ru.times) ∧ W.cell? ⟨g, 5, none⟩ = some (.int .i64 e.w.len) ∧ W.cell? ⟨g, 6, none⟩ = some (.int .i64 e.w.lines) ∧ W.cell? ⟨g, 7, none⟩ = some (.int .i64 e.w.head) ∧ W.cell? ⟨g, 8, none⟩ = some (.int .i64 e.w.tail) ∧ W.cell? ⟨g, 9, none⟩ = some (.int .u64 e.w.d.v) ∧ W.cell? ⟨g, 10, none⟩ = some (.int .u64 e.w.d.s) ∧ W.cell? ⟨g, 11, none⟩ = some (.int .i64 e.depth) ∧ W.cell? ⟨g, 12, none⟩ = some (.bool e.even) := by
  unfold EnC at h
  simp [World.cell?, h]
theorem EnC.free (h : EnC W g e) (i : Nat) : W.frozen? ⟨g, i, none⟩ = false := by
  unfold EnC at h
  simp [World.frozen?, h]
abbrev setE (W : World) (g : Nat) (e : En) : World := (((((((((((((W).setCell ⟨g, 0, none⟩ (.int .i64 e.ru.kind)).setCell ⟨g, 1, none⟩ (.int .u8 e.ru.letter)).setCell ⟨g, 2, none⟩ (.int .i64 e.ru.left)).setCell ⟨g, 3, none⟩ (.int .i64 e.ru.right)).setCell ⟨g, 4, none⟩ (.int .i64 e.ru.times)).setCell ⟨g, 5, none⟩ (.int .i64 e.w.len)).setCell ⟨g, 6, none⟩ (.int .i64 e.w.lines)).setCell ⟨g, 7, none⟩ (.int .i64 e.w.head)).setCell ⟨g, 8, none⟩ (.int .i64 e.w.tail)).setCell ⟨g, 9, none⟩ (.int .u64 e.w.d.v)).setCell ⟨g, 10, none⟩ (.int .u64 e.w.d.s)).setCell ⟨g, 11, none⟩ (.int .i64 e.depth)).setCell ⟨g, 12, none⟩ (.bool e.even)
set_option maxHeartbeats 1000000 in
theorem EnC.set {e0 : En} (h : EnC W g e0) (e : En) : EnC (setE W g e) g e := by
  unfold EnC at h ⊢
  have h1 := heap_set0 (i := 0) (.int .i64 e.ru.kind) h
  have h2 := heap_set0 (i := 1) (.int .u8 e.ru.letter) h1
  have h3 := heap_set0 (i := 2) (.int .i64 e.ru.left) h2
  have h4 := heap_set0 (i := 3) (.int .i64 e.ru.right) h3
  have h5 := heap_set0 (i := 4) (.int .i64 e.ru.times) h4
  have h6 := heap_set0 (i := 5) (.int .i64 e.w.len) h5
  have h7 := heap_set0 (i := 6) (.int .i64 e.w.lines) h6
  have h8 := heap_set0 (i := 7) (.int .i64 e.w.head) h7
  have h9 := heap_set0 (i := 8) (.int .i64 e.w.tail) h8
  have h10 := heap_set0 (i := 9) (.int .u64 e.w.d.v) h9
  have h11 := heap_set0 (i := 10) (.int .u64 e.w.d.s) h10
  have h12 := heap_set0 (i := 11) (.int .i64 e.depth) h11
  have h13 := heap_set0 (i := 12) (.bool e.even) h12
  simp only [List.setIfInBounds_toArray, List.set_cons_zero, List.set_cons_succ] at h13
  exact h13
theorem setE_below {n : Nat} {A : World} (h : Below n A W) (hg : n ≤ g) (e : En) : Below n A (setE W g e) :=
  (((((((((((((h).setCell (p := ⟨g, 0, none⟩) hg _).setCell (p := ⟨g, 1, none⟩) hg _).setCell (p := ⟨g, 2, none⟩) hg _).setCell (p := ⟨g, 3, none⟩) hg _).setCell (p := ⟨g, 4, none⟩) hg _).setCell (p := ⟨g, 5, none⟩) hg _).setCell (p := ⟨g, 6, none⟩) hg _).setCell (p := ⟨g, 7, none⟩) hg _).setCell (p := ⟨g, 8, none⟩) hg _).setCell (p := ⟨g, 9, none⟩) hg _).setCell (p := ⟨g, 10, none⟩) hg _).setCell (p := ⟨g, 11, none⟩) hg _).setCell (p := ⟨g, 12, none⟩) hg _
end
set_option maxRecDepth 100000 in
set_option maxHeartbeats 1000000 in
theorem at_any {n0 B most : Nat} {W : World} {E : List En} (h : StAt n0 W B most E) {i : Nat} (hi : i ≤ E.length) (hE : E.length ≤ 1048576) :
    Calls Try.prog 73 #[.pointer (some ⟨B, 0, none⟩), .int .i64 i] W fun e w' => e = .returned (enV (entAt E i)) ∧ Below W.heap.size W w' := by
  obtain ⟨W1, hW1⟩ : ∃ w, W.alloc (.cells #[.int .i64 0, .int .u8 0, .int .i64 0, .int .i64 0, .int .i64 0, .int .i64 0, .int .i64 0, .int .i64 0, .int .i64 0, .int .u64 0, .int .u64 0, .int .i64 0, .bool false] 122) = w := ⟨_, rfl⟩
  have k1 : EnC W1 W.heap.size en0 := by rw [← hW1]; exact heap_new' _ _
  have b1 : Below W.heap.size W W1 := by rw [← hW1]; exact (Below.refl _ _).alloc (Nat.le_refl _) _
  have K1 := Lib.hid k1; have B1 := Lib.hid b1
  obtain ⟨lv, mb, h1, h2, h3, h4, h5⟩ := h.below b1
  clear h
  obtain ⟨-, c1, -, -⟩ := h1.cells
  by_cases h0 : i = 0
  · subst h0
    have HW : Hid (entAt E 0 = ⟨⟨0, 0, 0, 0, 0⟩, wt [], 0, true⟩) := Lib.hid rfl
    clear h1 h2 h3 h4 h5 c1 k1 b1
    go_enter Try.func73, Try.ntmps73
    go_wp2_with fail
    refine (wunit_any W1).mono ?_; rintro e w2 ⟨rfl, b2⟩
    obtain ⟨wu, hwu⟩ : ∃ u, wt [] = u := ⟨_, rfl⟩
    have ev : wtV wu = .agg #[.int .i64 wu.len, .int .i64 wu.lines, .int .i64 wu.head, .int .i64 wu.tail, .int .u64 wu.d.v, .int .u64 wu.d.s] := rfl
    rw [hwu, ev]
    rw [hwu] at HW
    clear hwu ev
    have k2 := below_block b2 K1.out
    obtain ⟨x0, x1, x2, x3, x4, x5, x6, x7, x8, x9, x10, x11, x12⟩ := EnC.cells k2
    have f0 := EnC.free k2 0; have f1 := EnC.free k2 1; have f2 := EnC.free k2 2; have f3 := EnC.free k2 3; have f4 := EnC.free k2 4; have f5 := EnC.free k2 5; have f6 := EnC.free k2 6; have f7 := EnC.free k2 7; have f8 := EnC.free k2 8; have f9 := EnC.free k2 9; have f10 := EnC.free k2 10; have f11 := EnC.free k2 11; have f12 := EnC.free k2 12
    simp only [en0, w0] at x0 x1 x2 x3 x4 x5 x6 x7 x8 x9 x10 x11 x12
    obtain ⟨w3, hw3⟩ : ∃ w, setE w2 W.heap.size ⟨⟨0, 0, 0, 0, 0⟩, wu, 0, true⟩ = w := ⟨_, rfl⟩
    have K3 := Lib.hid (EnC.set k2 ⟨⟨0, 0, 0, 0, 0⟩, wu, 0, true⟩)
    have B3 := Lib.hid (setE_below (Below.after B1.out b2) (Nat.le_refl _) ⟨⟨0, 0, 0, 0, 0⟩, wu, 0, true⟩)
    rw [hw3] at K3 B3
    have hw3' : (((((((((((((w2).setCell ⟨W.heap.size, 0, none⟩ (.int .i64 0)).setCell ⟨W.heap.size, 1, none⟩ (.int .u8 0)).setCell ⟨W.heap.size, 2, none⟩ (.int .i64 0)).setCell ⟨W.heap.size, 3, none⟩ (.int .i64 0)).setCell ⟨W.heap.size, 4, none⟩ (.int .i64 0)).setCell ⟨W.heap.size, 5, none⟩ (.int .i64 wu.len)).setCell ⟨W.heap.size, 6, none⟩ (.int .i64 wu.lines)).setCell ⟨W.heap.size, 7, none⟩ (.int .i64 wu.head)).setCell ⟨W.heap.size, 8, none⟩ (.int .i64 wu.tail)).setCell ⟨W.heap.size, 9, none⟩ (.int .u64 wu.d.v)).setCell ⟨W.heap.size, 10, none⟩ (.int .u64 wu.d.s)).setCell ⟨W.heap.size, 11, none⟩ (.int .i64 0)).setCell ⟨W.heap.size, 12, none⟩ (.bool true) = w3 := hw3
    clear hw3 k2 b2 hW1
    go_wp2_with fail
    obtain ⟨x0, x1, x2, x3, x4, x5, x6, x7, x8, x9, x10, x11, x12⟩ := K3.out.cells
    exact bodyPost_ret (v := enV ⟨⟨0, 0, 0, 0, 0⟩, wu, 0, true⟩) (by simp [results, Try.results73, go_sem, x0, x1, x2, x3, x4, x5, x6, x7, x8, x9, x10, x11, x12]) rfl ⟨by rw [HW.out], B3.out⟩
  · have hi0 : ((i : Int) == 0) = false := by simp; omega
    have hlt : i - 1 < E.length := by omega
    obtain ⟨g, cap, rfl, -, -, hc⟩ := h2.at hlt
    obtain ⟨⟨q0, q1, q2, q3, q4⟩, ⟨q5, q6, q7, q8, q9, q10⟩, q11, q12⟩ := hc W1 (Below.refl _ _) (i - 1) hlt
    have HW := Lib.hid (entAt_some (by omega) hi)
    generalize E[i - 1] = e at *
    have hs : IntKind.i64.wrap ((i : Int) - 1) = ((i - 1 : Nat) : Int) := by rw [IntKind.wrap_i64]; omega
    have hi3 : ((i - 1 : Nat) : Int) < (E.length : Int) := by omega
    have hi4 : (0 : Int) ≤ ((i - 1 : Nat) : Int) := by omega
    obtain ⟨j, hj⟩ : ∃ j, i - 1 = j := ⟨_, rfl⟩
    rw [hj] at hs hi3 hi4 q0 q1 q2 q3 q4 q5 q6 q7 q8 q9 q10 q11 q12
    obtain ⟨x0, x1, x2, x3, x4, x5, x6, x7, x8, x9, x10, x11, x12⟩ := k1.cells
    have k2 := k1
    have f0 := EnC.free k2 0; have f1 := EnC.free k2 1; have f2 := EnC.free k2 2; have f3 := EnC.free k2 3; have f4 := EnC.free k2 4; have f5 := EnC.free k2 5; have f6 := EnC.free k2 6; have f7 := EnC.free k2 7; have f8 := EnC.free k2 8; have f9 := EnC.free k2 9; have f10 := EnC.free k2 10; have f11 := EnC.free k2 11; have f12 := EnC.free k2 12
    simp only [en0, w0] at x0 x1 x2 x3 x4 x5 x6 x7 x8 x9 x10 x11 x12
    obtain ⟨w3, hw3⟩ : ∃ w, setE W1 W.heap.size e = w := ⟨_, rfl⟩
    have K3 := Lib.hid (EnC.set k1 e)
    have B3 := Lib.hid (setE_below b1 (Nat.le_refl _) e)
    rw [hw3] at K3 B3
    simp only [setE] at hw3
    clear h1 h2 h3 h4 h5 hc k1 k2 b1 hlt hj
    go_enter Try.func73, Try.ntmps73
    go_wp2_with fail
    obtain ⟨x0, x1, x2, x3, x4, x5, x6, x7, x8, x9, x10, x11, x12⟩ := K3.out.cells
    exact bodyPost_ret (v := enV e) (by simp [results, Try.results73, go_sem, x0, x1, x2, x3, x4, x5, x6, x7, x8, x9, x10, x11, x12]) rfl ⟨by rw [HW.out], B3.out⟩
end M
end Go.Proofs.Ytpjcfepngjpfbaa
