/- The patch: balanced, Check, Length. -/
import Derived.Maps.Keyed
import Derived.Maps.RangeRun
import Derived.Maps.Own
import Derived.Below
import Derived.WalkKit
import Derived.Test.YtplccefjljdjnaaPatchP
import Derived.Test.YtplccefjljdjnaaDep
import Derived.Test.YtplccefjljdjnaaKeep
namespace Go.Proofs.Ytplccefjljdjnaa
open Go.RowKit Go.MapKept Go.ChangeMaps Go.WideMaps
namespace IM
/-- A number of 64 bits. -/
def In (n : Int) : Prop := (Lit.int .i64 n).wf = true

section
variable {α : Type}
def getA (s : Int) : List (Int × α) → Option α
  | [] => none
  | p :: l => if p.1 = s then some p.2 else getA s l
def putA (s : Int) (a : α) : List (Int × α) → List (Int × α)
  | [] => [(s, a)]
  | p :: l => if p.1 = s then (s, a) :: l else p :: putA s a l
theorem getA_none {s : Int} : ∀ {l : List (Int × α)}, (∀ p ∈ l, p.1 ≠ s) → getA s l = none
  | [], _ => rfl
  | p :: l, h => by rw [getA, if_neg (h p (List.mem_cons_self ..))]; exact getA_none fun q hq => h q (List.mem_cons_of_mem _ hq)
theorem getA_at {s : Int} : ∀ {l : List (Int × α)} {j : Nat} {a : α}, (l.map Prod.fst).Nodup → l[j]? = some (s, a) → getA s l = some a
  | p :: l, 0, a, _, h => by
    simp only [List.getElem?_cons_zero, Option.some.injEq] at h
    subst h
    rw [getA, if_pos rfl]
  | p :: l, j + 1, a, hn, h => by
    rw [List.getElem?_cons_succ] at h
    obtain ⟨h1, h2⟩ := List.nodup_cons.1 hn
    rw [getA, if_neg (fun e : p.1 = s => h1 (List.mem_map.2 ⟨_, List.mem_of_getElem? h, e.symm⟩))]
    exact getA_at h2 h
theorem putA_none {s : Int} {a : α} : ∀ {l : List (Int × α)}, (∀ p ∈ l, p.1 ≠ s) → putA s a l = l ++ [(s, a)]
  | [], _ => rfl
  | p :: l, h => by rw [putA, if_neg (h p (List.mem_cons_self ..)), putA_none fun q hq => h q (List.mem_cons_of_mem _ hq)]; rfl
theorem putA_at {s : Int} {a : α} : ∀ {l : List (Int × α)} {j : Nat} {b : α}, (l.map Prod.fst).Nodup → l[j]? = some (s, b) → putA s a l = l.set j (s, a)
  | p :: l, 0, b, _, h => by
    simp only [List.getElem?_cons_zero, Option.some.injEq] at h
    subst h
    rw [putA, if_pos rfl]; rfl
  | p :: l, j + 1, b, hn, h => by
    rw [List.getElem?_cons_succ] at h
    obtain ⟨h1, h2⟩ := List.nodup_cons.1 hn
    rw [putA, if_neg (fun e : p.1 = s => h1 (List.mem_map.2 ⟨_, List.mem_of_getElem? h, e.symm⟩)), putA_at h2 h]; rfl
theorem getA_mem {s : Int} {a : α} : ∀ {l : List (Int × α)}, getA s l = some a → (s, a) ∈ l
  | [], h => by cases h
  | p :: l, h => by
    rw [getA] at h
    by_cases e : p.1 = s
    · rw [if_pos e] at h; cases h; rw [← e]; exact List.mem_cons_self ..
    · rw [if_neg e] at h; exact List.mem_cons_of_mem _ (getA_mem h)
theorem getA_put {s t : Int} {a : α} : ∀ {l : List (Int × α)}, getA t (putA s a l) = if s = t then some a else getA t l
  | [] => by simp only [putA, getA]
  | p :: l => by
    rw [putA]
    by_cases e : p.1 = s
    · rw [if_pos e, getA]
      by_cases e2 : s = t
      · rw [if_pos e2, if_pos e2]
      · rw [if_neg e2, if_neg e2, getA, if_neg (fun x => e2 (e ▸ x))]
    · rw [if_neg e, getA, getA_put, getA]
      by_cases e2 : p.1 = t
      · rw [if_pos e2, if_neg (fun x => e (e2.trans x.symm)), if_pos e2]
      · rw [if_neg e2, if_neg e2]
theorem putA_length {s : Int} {a : α} : ∀ {l : List (Int × α)}, l.length ≤ (putA s a l).length ∧ (putA s a l).length ≤ l.length + 1
  | [] => by simp [putA]
  | p :: l => by
    rw [putA]
    have := putA_length (s := s) (a := a) (l := l)
    split <;> simp <;> omega

/-- How an entry reads. -/
def ent (ev : α → Value) (p : Int × α) : Value × Value := (.int .i64 p.1, ev p.2)
/-- Block b is a map keyed by strings that holds l. -/
def MapAt (ev : α → Value) (w : World) (b : Nat) (l : List (Int × α)) : Prop :=
  ∃ es clock, w.heap[b]? = some (.map es clock) ∧ Stamped es clock ∧ es.toList.map (fun e => (e.key, e.val)) = l.map (ent ev) ∧ ∀ p ∈ l, In p.1

variable {ev : α → Value} {w : World} {b : Nat} {l : List (Int × α)}
theorem MapAt.lt (h : MapAt ev w b l) : b < w.heap.size := by obtain ⟨es, c, h, -⟩ := h; exact (Array.getElem?_eq_some_iff.1 h).1
theorem MapAt.of_block {w' : World} (h : MapAt ev w b l) (hb : w'.heap[b]? = w.heap[b]?) : MapAt ev w' b l := by
  obtain ⟨es, c, h1, h2⟩ := h
  exact ⟨es, c, hb.trans h1, h2⟩
theorem MapAt.below {w' : World} (h : MapAt ev w b l) (hb : Below w.heap.size w w') : MapAt ev w' b l := h.of_block (hb.block b h.lt)
theorem MapAt.made (ev : α → Value) (w : World) : MapAt ev (w.alloc (.map #[] 0)) w.heap.size [] :=
  ⟨#[], 0, by show (w.heap.push _)[w.heap.size]? = _; simp, stamped_empty 0, by simp, by simp⟩
theorem MapAt.nodup (h : MapAt ev w b l) : (l.map Prod.fst).Nodup := by
  obtain ⟨es, c, -, h2, h3, -⟩ := h
  have h4 := ((stamped_iff es c).1 h2).2.2
  have h5 : (es.toList.map (fun e => (e.key, e.val))).Pairwise (fun x y => x.1 ≠ y.1) := List.pairwise_map.2 h4
  rw [h3] at h5
  have h6 := List.pairwise_map.1 h5
  refine List.pairwise_map.2 (h6.imp fun {x y} h e => h ?_)
  simp only [ent]; rw [e]
theorem MapAt.size (h : MapAt ev w b l) : ∃ es c, w.heap[b]? = some (.map es c) ∧ es.size = l.length := by
  obtain ⟨es, c, h1, -, h3, -⟩ := h
  refine ⟨es, c, h1, ?_⟩
  have := congrArg List.length h3
  simpa using this

variable {P : Program} {k e t : TypeId}
theorem MapAt.reads (hk : P.underlying k = some (.int .i64)) {es : Array MapEntry} (h3 : es.toList.map (fun e => (e.key, e.val)) = l.map (ent ev)) (h4 : ∀ p ∈ l, In p.1) : ∀ x ∈ es.toList, ∃ lx, keyOf P k x.key = some lx := by
  intro x hx
  have : (x.key, x.val) ∈ l.map (ent ev) := by rw [← h3]; exact List.mem_map.2 ⟨x, hx, rfl⟩
  obtain ⟨p, hp, e⟩ := List.mem_map.1 this
  simp only [ent, Prod.mk.injEq] at e
  rw [← e.1]
  exact ⟨_, Maps.keyOf_int_mk hk (h4 p hp)⟩
theorem MapAt.spot {es : Array MapEntry} (h3 : es.toList.map (fun e => (e.key, e.val)) = l.map (ent ev)) {j : Nat} {x : MapEntry} (h : es.toList[j]? = some x) {s : Int} (hs : x.key = .int .i64 s) : ∃ a, l[j]? = some (s, a) ∧ x.val = ev a := by
  have h5 : (l.map (ent ev))[j]? = some (x.key, x.val) := by rw [← h3, List.getElem?_map, h]; rfl
  rw [List.getElem?_map] at h5
  obtain ⟨p, hp, e⟩ := Option.map_eq_some_iff.1 h5
  simp only [ent, Prod.mk.injEq] at e
  rw [hs] at e
  have e1 : p.1 = s := by have := e.1; cases this; rfl
  exact ⟨p.2, by rw [hp, ← e1], e.2.symm⟩
theorem MapAt.none_of {es : Array MapEntry} (h3 : es.toList.map (fun e => (e.key, e.val)) = l.map (ent ev)) {s : Int} (h : ∀ x ∈ es.toList, x.key ≠ .int .i64 s) : ∀ p ∈ l, p.1 ≠ s := by
  intro p hp e
  have : ent ev p ∈ es.toList.map (fun e => (e.key, e.val)) := by rw [h3]; exact List.mem_map.2 ⟨p, hp, rfl⟩
  obtain ⟨x, hx, e2⟩ := List.mem_map.1 this
  simp only [ent, Prod.mk.injEq] at e2
  exact h x hx (by rw [e2.1, e])

/-- 'm[k]' and 'v, ok := m[k]'. -/
theorem MapAt.look (c : Bool) (h : MapAt ev w b l) (hk : P.underlying k = some (.int .i64)) (ht : P.underlying t = some (.map k e)) {z : Value} (hz : (zeroValue e).run P w = .ok z w) {s : Int} (hs : In s) :
    (Instr.lookup t (.map (some b)) (.int .i64 s) c).run P w = .ok (match getA s l with | some a => if c then .tuple #[ev a, .bool true] else ev a | none => if c then .tuple #[z, .bool false] else z) w := by
  have hn := h.nodup
  obtain ⟨es, clock, hb, h2, h3, h4⟩ := h
  have K := Maps.int_keyed hk
  have hkey := Maps.keyOf_int_mk hk hs
  rcases K.find w hkey es.toList (MapAt.reads hk h3 h4) with ⟨h5, h6⟩ | ⟨j, e0, h5, h6, h7⟩
  · rw [getA_none (MapAt.none_of h3 h6)]
    simp [Instr.lookup, run_underlying ht, MapKept.run_getObj_map hb, K.check w _ hkey, h5, hz, Result.andThen]
  · obtain ⟨a, h8, h9⟩ := MapAt.spot h3 h6 h7
    rw [getA_at hn h8]
    simp [Instr.lookup, run_underlying ht, MapKept.run_getObj_map hb, K.check w _ hkey, h5, h9, Result.andThen]

/-- 'm[k] = v'. -/
theorem MapAt.put (h : MapAt ev w b l) (hk : P.underlying k = some (.int .i64)) (ht : P.underlying t = some (.map k e)) (hroom : l.length < maxLen) {s : Int} (hs : In s) (a : α) :
    ∃ w', (Instr.mapUpdate t (.map (some b)) (.int .i64 s) (ev a)).run P w = .ok () w' ∧ MapAt ev w' b (putA s a l) ∧ w.grownBy w' (some b) ∧ w'.heap.size = w.heap.size := by
  have hn := h.nodup
  obtain ⟨es, clock, hb, h2, h3, h4⟩ := h
  have K := Maps.int_keyed hk
  have hkey := Maps.keyOf_int_mk hk hs
  have hsz : es.size = l.length := by have := congrArg List.length h3; simpa using this
  have grow : ∀ o, w.grownBy (setBlock w b o) (some b) := fun o => ⟨rfl, rfl, rfl, by simp [setBlock], fun i _ hi => heap_setBlock_other hb _ (fun e => hi (by rw [e]))⟩
  have h10 : ∀ p ∈ putA s a l, In p.1 := by
    have : ∀ {l : List (Int × α)}, (∀ p ∈ l, In p.1) → ∀ p ∈ putA s a l, In p.1 := by
      intro l
      induction l with
      | nil => intro _ p hp; simp only [putA, List.mem_singleton] at hp; subst hp; exact hs
      | cons q l ih =>
        intro h p hp
        rw [putA] at hp
        split at hp
        · rcases List.mem_cons.1 hp with rfl | hp
          · exact hs
          · exact h p (List.mem_cons_of_mem _ hp)
        · rcases List.mem_cons.1 hp with rfl | hp
          · exact h _ (List.mem_cons_self ..)
          · exact ih (fun q hq => h q (List.mem_cons_of_mem _ hq)) p hp
    exact this h4
  rcases K.find w hkey es.toList (MapAt.reads hk h3 h4) with ⟨h5, h6⟩ | ⟨j, e0, h5, h6, h7⟩
  · refine ⟨setBlock w b (.map (es.push ⟨.int .i64 s, ev a, clock⟩) (clock + 1)), ?_, ⟨_, _, heap_setBlock_same hb _, stamped_push h2 h6, ?_, h10⟩, grow _, by simp [setBlock]⟩
    · have : es.size < maxLen := by omega
      simp [Instr.mapUpdate, run_underlying ht, MapKept.run_getObj_map hb, K.check w false hkey, h5, MapKept.run_setObj_map _ hb, Result.andThen, setBlock]
    · rw [putA_none (MapAt.none_of h3 h6), Array.toList_push, List.map_append, h3, List.map_append]
      simp [ent]
  · obtain ⟨a0, h8, h9⟩ := MapAt.spot h3 h6 h7
    have hj : es[j]? = some e0 := by simpa using h6
    have hkeyf : ∀ e', es[j]? = some e' → ({ e' with key := .int .i64 s, val := ev a } : MapEntry).key = e'.key := fun e' he' => by rw [hj] at he'; cases he'; exact h7.symm
    have hlist : (es.modify j (fun e' => { e' with key := .int .i64 s, val := ev a })).toList = es.toList.set j { e0 with key := .int .i64 s, val := ev a } := by rw [Array.toList_modify, modify_eq_set _ _ _ _ h6]
    refine ⟨setBlock w b (.map (es.modify j (fun e' => { e' with key := .int .i64 s, val := ev a })) clock), ?_, ⟨_, _, heap_setBlock_same hb _, stamped_modify h2 _ _ (fun _ _ => rfl) (fun e' _ he' => hkeyf e' he'), ?_, h10⟩, grow _, by simp [setBlock]⟩
    · simp [Instr.mapUpdate, run_underlying ht, MapKept.run_getObj_map hb, K.check w false hkey, h5, hj, h7, K.stays w hkey, MapKept.run_setObj_map _ hb, Result.andThen, setBlock]
    · rw [hlist, List.map_set, h3, putA_at hn h8, List.map_set]
      rfl

end
end IM
end Go.Proofs.Ytplccefjljdjnaa
namespace Go.Proofs.Ytplccefjljdjnaa
open Go.RowKit Go.Lib
namespace M
attribute [local go_sem] Oper.semAt_some
def encCh (c : Chg) : List Value := [.int .i64 c.pos, .int .i64 c.n, .int .i64 c.id]
theorem encCh_len (c : Chg) : (encCh c).length = 3 := rfl
theorem encCh_one (c : Chg) : ∀ u ∈ encCh c, u.oneCell' = true := by simp [encCh, Value.oneCell']
abbrev Chs (B : Nat) (W : World) (v : Value) (L : List Chg) : Prop := SlA B W 71 3 encCh v L
theorem elemCh : Elem Try.prog 28 71 3 24 := elem_of Try.underlying28 (z := .agg #[.int .i64 0, .int .i64 0, .int .i64 0]) (by kernel_rfl) rfl (by decide) (by decide)
theorem Chs.at {B : Nat} {W : World} {v : Value} {L : List Chg} (h : Chs B W v L) {i : Nat} (hi : i < L.length) :
    ∃ g cap, v = .slice (some ⟨g, 0, none⟩) L.length cap ∧ L.length ≤ cap ∧ cap ≤ maxLen ∧ ∀ (W' : World), Below W.heap.size W W' → ∀ i (hi : i < L.length), W'.cell? ⟨g, i * 3, none⟩ = some (.int .i64 L[i].pos) ∧ W'.cell? ⟨g, i * 3 + 1, none⟩ = some (.int .i64 L[i].n) ∧ W'.cell? ⟨g, i * 3 + 2, none⟩ = some (.int .i64 L[i].id) := by
  rcases h.shape with ⟨-, rfl⟩ | ⟨g, cap, rfl, h1, h2⟩
  · simp at hi
  · refine ⟨g, cap, rfl, h1, h2, fun W' hb i hi => ?_⟩
    have h' := h.below hb
    have c := fun (j : Nat) (hj : j < 3) => SlA.cell encCh_len h' hi (j := j) hj
    exact ⟨c 0 (by omega), c 1 (by omega), c 2 (by omega)⟩
def ChC (W : World) (g : Nat) (c : Chg) : Prop := W.heap[g]? = some (.cells #[.int .i64 c.pos, .int .i64 c.n, .int .i64 c.id] 71 (0, 0))
theorem ChC.cells {W : World} {g : Nat} {c : Chg} (h : ChC W g c) : W.cell? ⟨g, 0, none⟩ = some (.int .i64 c.pos) ∧ W.cell? ⟨g, 1, none⟩ = some (.int .i64 c.n) ∧ W.cell? ⟨g, 2, none⟩ = some (.int .i64 c.id) := by
  unfold ChC at h
  simp [World.cell?, h]
theorem ChC.free {W : World} {g : Nat} {c : Chg} (h : ChC W g c) (i : Nat) : W.frozen? ⟨g, i, none⟩ = false := by
  unfold ChC at h
  simp [World.frozen?, h]
/-- A box into which a change is laid. -/
theorem newCh (w : World) (c : Chg) : ∃ wz w2, w.alloc (.cells #[.int .i64 0, .int .i64 0, .int .i64 0] 71) = wz ∧
    ((wz.setCell ⟨w.heap.size, 0, none⟩ (.int .i64 c.pos)).setCell ⟨w.heap.size, 1, none⟩ (.int .i64 c.n)).setCell ⟨w.heap.size, 2, none⟩ (.int .i64 c.id) = w2 ∧ ChC w2 w.heap.size c ∧ Below w.heap.size w w2 ∧
    (wz.cell? ⟨w.heap.size, 0, none⟩ = some (.int .i64 0) ∧ wz.cell? ⟨w.heap.size, 1, none⟩ = some (.int .i64 0) ∧ wz.cell? ⟨w.heap.size, 2, none⟩ = some (.int .i64 0)) ∧ (wz.frozen? ⟨w.heap.size, 0, none⟩ = false ∧ wz.frozen? ⟨w.heap.size, 1, none⟩ = false ∧ wz.frozen? ⟨w.heap.size, 2, none⟩ = false) := by
  have k0 : ChC (w.alloc (.cells #[.int .i64 0, .int .i64 0, .int .i64 0] 71)) w.heap.size ⟨0, 0, 0⟩ := heap_new' _ _
  have b0 : Below w.heap.size w (w.alloc (.cells #[.int .i64 0, .int .i64 0, .int .i64 0] 71)) := (Below.refl _ _).alloc (Nat.le_refl _) _
  exact ⟨_, _, rfl, rfl, heap_set0 _ (heap_set0 _ (heap_set0 _ k0)), ((b0.setCell (p := ⟨w.heap.size, 0, none⟩) (Nat.le_refl _) _).setCell (p := ⟨w.heap.size, 1, none⟩) (Nat.le_refl _) _).setCell (p := ⟨w.heap.size, 2, none⟩) (Nat.le_refl _) _, k0.cells, k0.free 0, k0.free 1, k0.free 2⟩
theorem in_nat {n : Nat} (h : n ≤ 9223372036854775807) : IM.In (n : Int) := by
  simp [IM.In, Lit.wf, IntKind.min, IntKind.max, IntKind.signed, IntKind.bits]; omega
set_option maxRecDepth 100000 in
set_option maxHeartbeats 4000000 in
theorem pbalanced_any {n0 B most b0 : Nat} {W : World} {E : List En} (hs : StAt n0 W B most E) (hE : E.length ≤ 1048576) {v : Value} {L : List Chg} (hC : Chs b0 W v L) (hT : Txs E L) (hLb : L.length ≤ 1000000) :
    Calls Try.prog 70 #[.pointer (some ⟨B, 0, none⟩), v] W fun e w' => e = .returned .nilIface ∧ Below W.heap.size W w' := by
  have hmm := @run_makeMap Try.prog
  have HS := Lib.hid hs; have HC := Lib.hid hC; have HT := Lib.hid hT
  obtain ⟨va, vc, rfl⟩ := hC.len
  have hcc : L.length ≤ vc ∧ vc ≤ maxLen ∨ L.length = 0 := by
    rcases hC.shape with ⟨-, h⟩ | ⟨g, c, h, h1, h2⟩
    · right; rw [h]; rfl
    · left; cases h; exact ⟨h1, h2⟩
  obtain ⟨W1, hW1⟩ : ∃ w, W.alloc (.map #[] 0) = w := ⟨_, rfl⟩
  have b1 : Below W.heap.size W W1 := by rw [← hW1]; exact (Below.refl _ _).alloc (Nat.le_refl _) _
  have HM1 : Hid (IM.MapAt Value.bool W1 W.heap.size []) := Lib.hid (by rw [← hW1]; exact IM.MapAt.made Value.bool W)
  have HB1 := Lib.hid b1
  clear hs hC hT b1 hcc
  go_enter Try.func70, Try.ntmps70
  go_wp2_with fail
  clear hW1 hmm
  go_loopw [13] (fun iv wr => ∃ (i : Nat) (l : List (Int × Bool)), iv = .int .i64 i ∧ i ≤ L.length ∧ IM.MapAt Value.bool wr W.heap.size l ∧ l.length ≤ i ∧ Below W.heap.size W wr) (fun iv _ => L.length - (intOf iv).toNat)
  case atStart => exact ⟨0, [], rfl, Nat.zero_le _, HM1.out, Nat.le_refl _, HB1.out⟩
  case round =>
    clear HM1 HB1
    obtain ⟨i, l, rfl, hi, hm, hl, hB⟩ := hrel
    have HM := Lib.hid hm; have HB := Lib.hid hB; have HL := Lib.hid hl
    clear hm hB hl
    by_cases hlt : i < L.length
    · have hlt2 : (i : Int) < (L.length : Int) := by omega
      have hlt3 : (0 : Int) ≤ (i : Int) := by omega
      obtain ⟨g, cap, hv, -, -, hc⟩ := HC.out.at hlt
      simp only [Value.slice.injEq] at hv
      obtain ⟨rfl, -, rfl⟩ := hv
      obtain ⟨q0, q1, q2⟩ := hc wr HB.out i hlt
      obtain ⟨hid, hev⟩ := HT.out L[i] (List.getElem_mem hlt)
      generalize L[i] = c at *
      obtain ⟨wz, w1, hz, hs1, kc, bc, ⟨p0, p1, p2⟩, f0, f1, f2⟩ := newCh wr c
      obtain ⟨gc, hgc⟩ : ∃ x, wr.heap.size = x := ⟨_, rfl⟩
      rw [hgc] at hs1 p0 p1 p2 f0 f1 f2 kc
      obtain ⟨y0, y1, y2⟩ := kc.cells
      have hin : IM.In (c.id : Int) := in_nat (by omega)
      have HM1 := Lib.hid (HM.out.below bc)
      have hzv : ∀ w, (zeroValue 4).run Try.prog w = .ok (.bool false) w := fun w => by kernel_rfl
      obtain ⟨bb, hlk⟩ : ∃ b, (Instr.lookup 162 (.map (some W.heap.size)) (.int .i64 (c.id : Int)) false).run Try.prog w1 = .ok (.bool b) w1 := by
        have h := IM.MapAt.look (P := Try.prog) (t := 162) (k := 65) (e := 4) false HM1.out Try.underlying65 Try.underlying162 (hzv w1) hin
        cases hg : IM.getA (c.id : Int) l with
        | none => exact ⟨false, by rw [hg] at h; simpa using h⟩
        | some a => exact ⟨a, by rw [hg] at h; simpa using h⟩
      have HBL := Lib.hid (fun w hw => balanced_any ((HS.out.below HB.out).below hw) hid hE (W := w))
      rw [hev] at HBL
      have HB1 := Lib.hid (Below.after HB.out bc)
      have HBC := Lib.hid bc; have KC := Lib.hid kc
      have HIN := Lib.hid hin
      clear hc bc kc hev hin
      cases bb with
      | true =>
        go_wp2_with fail
        clear hz hs1 p0 p1 p2 f0 f1 f2 q0 q1 q2 y0 y1 y2 hgc hlk
        go_roundw
        case rel => exact ⟨i + 1, l, by go_num, by omega, HM1.out, by have := HL.out; omega, HB1.out⟩
        case measure => first | (simp [intOf]; omega) | simp [intOf]
      | false =>
        go_wp2_with fail
        refine (HBL.out w1 HBC.out).mono ?_; rintro e w2 ⟨rfl, b2⟩
        have HM2 := Lib.hid (HM1.out.below b2)
        obtain ⟨w3, hup, hm3, hg3, hz3⟩ := IM.MapAt.put (P := Try.prog) (t := 162) (k := 65) (e := 4) HM2.out Try.underlying65 Try.underlying162 (by have := HL.out; unfold maxLen; omega) HIN.out true
        have HX1 := Lib.hid hm3
        have HX2 : Hid (Below W.heap.size W w3) := Lib.hid ((Below.after HB1.out b2).grown hg3 (Below.after HB1.out b2).size (fun k e => by cases e; exact Nat.le_refl _))
        obtain ⟨z0, z1, z2⟩ := ChC.cells (show ChC w2 gc c from below_block b2 KC.out)
        clear hz hs1 p0 p1 p2 f0 f1 f2 q0 q1 q2 y0 y1 y2 hgc hlk b2 hm3 hg3 hz3
        go_wp2_with fail
        clear hup z0 z1 z2
        go_roundw
        case rel => exact ⟨i + 1, _, by go_num, by omega, HX1.out, by have := HL.out; have := (IM.putA_length (s := (c.id : Int)) (a := true) (l := l)).2; omega, HX2.out⟩
        case measure => first | (simp [intOf]; omega) | simp [intOf]
    · have hlt2 : ¬ (i : Int) < (L.length : Int) := by omega
      go_wp2_with fail
      go_ret
      exact ⟨rfl, HB.out⟩
end M
end Go.Proofs.Ytplccefjljdjnaa
