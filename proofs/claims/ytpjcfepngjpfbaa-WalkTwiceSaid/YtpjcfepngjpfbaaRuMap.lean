/- Rules as a map's keys: the store's map. -/
import Derived.Test.YtpjcfepngjpfbaaWRep
import Derived.Test.YtpjcfepngjpfbaaGoMaps
import Derived.DeepKeys4
namespace Go.Proofs.Ytpjcfepngjpfbaa
open Go.RowKit Go.MapKept Go.ChangeMaps Go.WideMaps
namespace M
structure Ru where
  kind : Nat
  letter : Nat
  left : Nat
  right : Nat
  times : Nat
deriving DecidableEq
abbrev ruV (r : Ru) : Value := .agg #[.int .i64 r.kind, .int .u8 r.letter, .int .i64 r.left, .int .i64 r.right, .int .i64 r.times]
def Ru.ok (r : Ru) : Prop := r.kind ≤ 9223372036854775807 ∧ r.letter ≤ 255 ∧ r.left ≤ 9223372036854775807 ∧ r.right ≤ 9223372036854775807 ∧ r.times ≤ 9223372036854775807
theorem ruV_inj {a b : Ru} (h : ruV a = ruV b) : a = b := by
  obtain ⟨a1, a2, a3, a4, a5⟩ := a
  obtain ⟨b1, b2, b3, b4, b5⟩ := b
  simp only [ruV, Value.agg.injEq, Array.mk.injEq, List.cons.injEq, Value.int.injEq, true_and, and_true] at h
  simp only [Ru.mk.injEq]
  omega
theorem wfN {q : IntKind} {n : Nat} (h : q = .i64 ∧ n ≤ 9223372036854775807 ∨ q = .u8 ∧ n ≤ 255) : (Lit.int q (n : Int)).wf = true := by
  rcases h with ⟨rfl, h⟩ | ⟨rfl, h⟩
  · simp [Lit.wf, IntKind.min, IntKind.max, IntKind.signed, IntKind.bits]; omega
  · simp [Lit.wf, IntKind.min, IntKind.max, IntKind.signed, IntKind.bits]; omega
theorem ru_keyed : Maps.Keyed Try.prog 59 := Maps.Keyed.of_law (deep_law_laid (by kernel_rfl) (m := 9999) (by decide) (by decide +kernel) (by kernel_rfl) (by kernel_rfl))
theorem keyOf_ru {r : Ru} (h : r.ok) : ∃ l, keyOf Try.prog 59 (ruV r) = some l := by
  have hkt : Try.prog.keyType 59 = true := by kernel_rfl
  have hc : Try.prog.cellsOf 59 = 5 := by kernel_rfl
  have hs := Try.underlying59
  have hI := Try.underlying3
  have hU := Try.underlying5
  have hD := Try.underlying31
  have eI : Try.prog.cellsOf 3 = 1 := by kernel_rfl
  have eU : Try.prog.cellsOf 5 = 1 := by kernel_rfl
  have eD : Try.prog.cellsOf 31 = 1 := by kernel_rfl
  obtain ⟨m, hm⟩ : ∃ m, Try.prog.types.size = m + 1 := ⟨Try.prog.types.size - 1, by kernel_rfl⟩
  obtain ⟨h1, h2, h3, h4, h5⟩ := h
  have w1 := wfN (q := .i64) (n := r.kind) (.inl ⟨rfl, h1⟩)
  have w2 := wfN (q := .u8) (n := r.letter) (.inr ⟨rfl, h2⟩)
  have w3 := wfN (q := .i64) (n := r.left) (.inl ⟨rfl, h3⟩)
  have w4 := wfN (q := .i64) (n := r.right) (.inl ⟨rfl, h4⟩)
  have w5 := wfN (q := .i64) (n := r.times) (.inl ⟨rfl, h5⟩)
  unfold keyOf
  simp only [hs]
  rw [if_pos (by simp [hkt, Value.formed, hs, hc]), hm]
  unfold Program.keyLits
  simp only [hs, Value.cells]
  rw [if_pos (by simp [hc])]
  simp [List.mapM_cons, List.mapM_nil, eI, eU, eD, Program.keyLits, hI, hU, hD, w1, w2, w3, w4, w5]
/-- An entry of the store. -/
structure En where
  ru : Ru
  w : Wt
  depth : Nat
  even : Bool
/-- The map's entries, the first with number n. -/
def idl : Nat → List En → List (Value × Value)
  | _, [] => []
  | n, e :: E => (ruV e.ru, .int .i64 n) :: idl (n + 1) E
theorem idl_length : ∀ (n : Nat) (E : List En), (idl n E).length = E.length
  | _, [] => rfl
  | n, e :: E => by simp [idl, idl_length]
theorem idl_append : ∀ (n : Nat) (E : List En) (e : En), idl n (E ++ [e]) = idl n E ++ [(ruV e.ru, .int .i64 (n + E.length : Nat))]
  | n, [], e => rfl
  | n, a :: E, e => by
    have h := idl_append (n + 1) E e
    simp only [List.cons_append, idl, h, List.length_cons]
    rw [show n + 1 + E.length = n + (E.length + 1) by omega]
theorem idl_at : ∀ (n : Nat) (E : List En) (j : Nat) (x : Value × Value), (idl n E)[j]? = some x → ∃ e, E[j]? = some e ∧ x = (ruV e.ru, .int .i64 (n + j : Nat))
  | _, [], j, x, h => by simp [idl] at h
  | n, e :: E, 0, x, h => by
    simp only [idl, List.getElem?_cons_zero, Option.some.injEq] at h
    exact ⟨e, rfl, h.symm⟩
  | n, e :: E, j + 1, x, h => by
    simp only [idl, List.getElem?_cons_succ] at h
    obtain ⟨e', h1, h2⟩ := idl_at (n + 1) E j x h
    exact ⟨e', h1, by rw [h2, show n + 1 + j = n + (j + 1) by omega]⟩
/-- The number of a rule; 0 if it is not there. -/
def fid (r : Ru) : Nat → List En → Nat
  | _, [] => 0
  | n, e :: E => if e.ru = r then n else fid r (n + 1) E
theorem fid_none {r : Ru} : ∀ {n : Nat} {E : List En}, (∀ e ∈ E, e.ru ≠ r) → fid r n E = 0
  | _, [], _ => rfl
  | n, e :: E, h => by rw [fid, if_neg (h e (List.mem_cons_self ..))]; exact fid_none fun x hx => h x (List.mem_cons_of_mem _ hx)
theorem fid_at {r : Ru} : ∀ {n j : Nat} {E : List En} {e : En}, (E.map En.ru).Nodup → E[j]? = some e → e.ru = r → fid r n E = n + j
  | n, 0, a :: E, e, _, h, hr => by
    simp only [List.getElem?_cons_zero, Option.some.injEq] at h
    subst h
    rw [fid, if_pos hr, Nat.add_zero]
  | n, j + 1, a :: E, e, hn, h, hr => by
    rw [List.getElem?_cons_succ] at h
    obtain ⟨h1, h2⟩ := List.nodup_cons.1 hn
    rw [fid, if_neg (fun x => h1 (List.mem_map.2 ⟨e, List.mem_of_getElem? h, hr.trans x.symm⟩)), fid_at h2 h hr]
    omega
theorem fid_zero {r : Ru} : ∀ {n : Nat} {E : List En}, 0 < n → fid r n E = 0 → ∀ e ∈ E, e.ru ≠ r
  | _, [], _, _, e, he => by cases he
  | n, a :: E, hn, h, e, he => by
    rw [fid] at h
    split at h
    · omega
    · rename_i hne
      rcases List.mem_cons.1 he with rfl | he
      · exact hne
      · exact fid_zero (by omega) h e he
theorem fid_le {r : Ru} : ∀ {n : Nat} {E : List En}, fid r n E ≠ 0 → ∃ j e, fid r n E = n + j ∧ E[j]? = some e ∧ e.ru = r
  | _, [], h => absurd rfl h
  | n, a :: E, h => by
    rw [fid] at h ⊢
    split at h
    · rename_i hr; rw [if_pos hr]; exact ⟨0, a, rfl, rfl, hr⟩
    · rename_i hr
      rw [if_neg hr]
      obtain ⟨j, e, h1, h2, h3⟩ := fid_le h
      exact ⟨j + 1, e, by omega, by simpa using h2, h3⟩
/-- The store's map. -/
def MapR (w : World) (b : Nat) (E : List En) : Prop :=
  ∃ es clock, w.heap[b]? = some (.map es clock) ∧ Stamped es clock ∧ es.toList.map (fun e => (e.key, e.val)) = idl 1 E ∧ ∀ e ∈ E, e.ru.ok
section
variable {w : World} {b : Nat} {E : List En}
theorem MapR.lt (h : MapR w b E) : b < w.heap.size := by obtain ⟨es, c, h, -⟩ := h; exact (Array.getElem?_eq_some_iff.1 h).1
theorem MapR.of_block {w' : World} (h : MapR w b E) (hb : w'.heap[b]? = w.heap[b]?) : MapR w' b E := by
  obtain ⟨es, c, h1, h2⟩ := h
  exact ⟨es, c, hb.trans h1, h2⟩
theorem MapR.below {w' : World} (h : MapR w b E) (hb : Below w.heap.size w w') : MapR w' b E := h.of_block (hb.block b h.lt)
theorem MapR.made (w : World) : MapR (w.alloc (.map #[] 0)) w.heap.size [] :=
  ⟨#[], 0, heap_new' _ _, stamped_empty 0, by simp [idl], by simp⟩
theorem MapR.nodup (h : MapR w b E) : (E.map En.ru).Nodup := by
  obtain ⟨es, c, -, h2, h3, -⟩ := h
  have h4 := ((stamped_iff es c).1 h2).2.2
  have h5 : (es.toList.map (fun e => (e.key, e.val))).Pairwise (fun x y => x.1 ≠ y.1) := List.pairwise_map.2 h4
  rw [h3] at h5
  have : ∀ (n : Nat) (E : List En), (idl n E).Pairwise (fun x y => x.1 ≠ y.1) → (E.map En.ru).Nodup := by
    intro n E
    induction E generalizing n with
    | nil => intro _; exact List.nodup_nil
    | cons a E ih =>
      intro h
      rw [idl] at h
      obtain ⟨h1, h2⟩ := List.pairwise_cons.1 h
      rw [List.map_cons]
      refine List.nodup_cons.2 ⟨fun hin => ?_, ih _ h2⟩
      obtain ⟨e, he, hr⟩ := List.mem_map.1 hin
      obtain ⟨j, hj, hje⟩ := List.getElem_of_mem he
      have hl : j < (idl (n + 1) E).length := by rw [idl_length]; exact hj
      obtain ⟨e', h3, h4⟩ := idl_at (n + 1) E j _ (List.getElem?_eq_getElem hl)
      rw [List.getElem?_eq_getElem hj, hje] at h3
      cases h3
      refine h1 _ (List.getElem_mem hl) ?_
      rw [h4]
      show ruV a.ru = ruV e.ru
      rw [hr]
  exact this 1 E h5
theorem MapR.reads {es : Array MapEntry} (h3 : es.toList.map (fun e => (e.key, e.val)) = idl 1 E) (h4 : ∀ e ∈ E, e.ru.ok) : ∀ x ∈ es.toList, ∃ lx, keyOf Try.prog 59 x.key = some lx := by
  intro x hx
  have : (x.key, x.val) ∈ idl 1 E := by rw [← h3]; exact List.mem_map.2 ⟨x, hx, rfl⟩
  obtain ⟨j, hj, hje⟩ := List.getElem_of_mem this
  obtain ⟨e, h5, h6⟩ := idl_at 1 E j _ (List.getElem?_eq_getElem hj)
  rw [hje] at h6
  have : x.key = ruV e.ru := (Prod.mk.inj h6).1
  rw [this]
  exact keyOf_ru (h4 e (List.mem_of_getElem? h5))
theorem MapR.look (h : MapR w b E) {r : Ru} (hr : r.ok) :
    (Instr.lookup 114 (.map (some b)) (ruV r) true).run Try.prog w = .ok (.tuple #[.int .i64 (fid r 1 E), .bool (decide (fid r 1 E ≠ 0))]) w := by
  have hn := h.nodup
  obtain ⟨es, clock, hb, h2, h3, h4⟩ := h
  have K := ru_keyed
  obtain ⟨lx, hkey⟩ := keyOf_ru hr
  have ht := Try.underlying114
  have hz : (zeroValue 31).run Try.prog w = .ok (.int .i64 0) w := by kernel_rfl
  rcases K.find w hkey es.toList (MapR.reads h3 h4) with ⟨h5, h6⟩ | ⟨j, e0, h5, h6, h7⟩
  · have hf : fid r 1 E = 0 := fid_none fun e he hre => by
      obtain ⟨j, hj, hje⟩ := List.getElem_of_mem he
      have hl : j < (idl 1 E).length := by rw [idl_length]; exact hj
      obtain ⟨e', h8, h9⟩ := idl_at 1 E j _ (List.getElem?_eq_getElem hl)
      rw [List.getElem?_eq_getElem hj, hje] at h8
      cases h8
      have h10 : (idl 1 E)[j] ∈ es.toList.map (fun e => (e.key, e.val)) := by rw [h3]; exact List.getElem_mem hl
      obtain ⟨x, hx, hxe⟩ := List.mem_map.1 h10
      rw [h9] at hxe
      exact h6 x hx (by rw [(Prod.mk.inj hxe).1, hre])
    rw [hf]
    simp [Instr.lookup, run_underlying ht, MapKept.run_getObj_map hb, K.check w _ hkey, h5, hz, Result.andThen]
  · have h8 : (idl 1 E)[j]? = some (e0.key, e0.val) := by rw [← h3, List.getElem?_map, h6]; rfl
    obtain ⟨e, h9, h10⟩ := idl_at 1 E j _ h8
    have h11 : e0.key = ruV e.ru := (Prod.mk.inj h10).1
    have h12 : e0.val = .int .i64 (1 + j : Nat) := (Prod.mk.inj h10).2
    have hre : e.ru = r := ruV_inj (h11.symm.trans h7)
    have hf : fid r 1 E = 1 + j := fid_at hn h9 hre
    rw [hf]
    have hd : decide (1 + j ≠ 0) = true := decide_eq_true (by omega)
    simp [Instr.lookup, run_underlying ht, MapKept.run_getObj_map hb, K.check w _ hkey, h5, h12, Result.andThen]
theorem MapR.put (h : MapR w b E) (hroom : E.length < 9223372036854775807) (e : En) (hr : e.ru.ok) (hnew : fid e.ru 1 E = 0) :
    ∃ w', (Instr.mapUpdate 114 (.map (some b)) (ruV e.ru) (.int .i64 (E.length + 1 : Nat))).run Try.prog w = .ok () w' ∧ MapR w' b (E ++ [e]) ∧ w.grownBy w' (some b) ∧ w'.heap.size = w.heap.size := by
  obtain ⟨es, clock, hb, h2, h3, h4⟩ := h
  have K := ru_keyed
  obtain ⟨lx, hkey⟩ := keyOf_ru hr
  have ht := Try.underlying114
  have hsz : es.size = E.length := by have := congrArg List.length h3; rw [idl_length] at this; simpa using this
  have grow : ∀ o, w.grownBy (setBlock w b o) (some b) := fun o => ⟨rfl, rfl, rfl, by simp [setBlock], fun i _ hi => heap_setBlock_other hb _ (fun e => hi (by rw [e]))⟩
  rcases K.find w hkey es.toList (MapR.reads h3 h4) with ⟨h5, h6⟩ | ⟨j, e0, h5, h6, h7⟩
  · refine ⟨setBlock w b (.map (es.push ⟨ruV e.ru, .int .i64 (E.length + 1 : Nat), clock⟩) (clock + 1)), ?_, ⟨_, _, heap_setBlock_same hb _, stamped_push h2 h6, ?_, ?_⟩, grow _, by simp [setBlock]⟩
    · have : es.size < maxLen := by unfold maxLen; omega
      simp [Instr.mapUpdate, run_underlying ht, MapKept.run_getObj_map hb, K.check w false hkey, h5, MapKept.run_setObj_map _ hb, Result.andThen, setBlock]
    · rw [Array.toList_push, List.map_append, h3, idl_append, show 1 + E.length = E.length + 1 by omega]
      rfl
    · intro x hx
      rcases List.mem_append.1 hx with hx | hx
      · exact h4 x hx
      · simp only [List.mem_singleton] at hx; subst hx; exact hr
  · exfalso
    have h8 : (idl 1 E)[j]? = some (e0.key, e0.val) := by rw [← h3, List.getElem?_map, h6]; rfl
    obtain ⟨e', h9, h10⟩ := idl_at 1 E j _ h8
    have hre : e'.ru = e.ru := ruV_inj ((Prod.mk.inj h10).1.symm.trans h7)
    exact fid_zero (by omega) hnew e' (List.mem_of_getElem? h9) hre
end
end M
end Go.Proofs.Ytpjcfepngjpfbaa
