/- The reference's derive: the text of a rule, written out. -/
import Derived.Test.YtjbllcakaljpgaaApp
import Derived.Test.YtjbllcakaljpgaaParts0
import Derived.Deep.DeepAppendRoom
import Derived.Test.YtjbllcakaljpgaaRefSt0
import Derived.Test.YtjbllcakaljpgaaBys
import Derived.Test.YtjbllcakaljpgaaSpell
namespace Go.Proofs.Ytjbllcakaljpgaa
open Go.RowKit
theorem wp_run_app {P : Program} {w w' : World} {ops : Array Oper} {rest : List Oper} {o : Oper} {a : Act} {Q : Exit → Act → World → Prop} {t : TypeId} {v v1 v2 : Value} (hgd : o.guard = none) (s x : Operand) (ho : o.op = .call { callee := .builtin .append, args := #[s, x], argTypes := #[t, t] })
    (h1 : a.eval s = v1) (h2 : a.eval x = v2) (hrun : (Builtin.append_ #[t, t] o.type #[v1, v2]).run P w = .ok v w') (hK : wpList P ops Q rest (a.put o.dst v) w') : wpList P ops Q (o :: rest) a w :=
  wpList_plain hgd fun _ hK' => by
    unfold Oper.wp execOp
    simp only [ho, resolve, invoke, builtin, Sem.run_bind, Sem.run_pure, Result.andThen_ok, List.map_toArray, List.map_cons, List.map_nil, h1, h2, hrun]
    exact hK' _ _ hK
end Go.Proofs.Ytjbllcakaljpgaa
namespace Go.Proofs.Ytjbllcakaljpgaa
open Go.RowKit Go.Lib
/-- The first elements of a slice. -/
theorem SlA.prefix {α : Type} {B₀ : Nat} {W : World} {e : TypeId} {size : Nat} {enc : α → List Value} (he : ∀ a, (enc a).length = size) {a : Option Addr} {n cap : Nat} {l : List α} (h : SlA B₀ W e size enc (.slice a n cap) l) {k : Nat} (hk : k ≤ l.length) : SlA B₀ W e size enc (.slice a k cap) (l.take k) := by
  have hl : (l.take k).length = k := by rw [List.length_take]; omega
  have hf : (l.take k).flatMap enc = (l.flatMap enc).take (k * size) := by
    have e1 : l.flatMap enc = (l.take k).flatMap enc ++ (l.drop k).flatMap enc := by rw [← List.flatMap_append, List.take_append_drop]
    rw [e1]
    exact (List.take_left' (by rw [flatMap_len he, hl])).symm
  refine ⟨flatMap_len he _, ?_⟩
  rcases h.2 with ⟨hv, hz⟩ | ⟨g, c, cur, hv, hb, hg, h1, h2, h3, h4⟩
  · cases hv
    left
    have : k = 0 := by omega
    subst this
    exact ⟨rfl, by simp⟩
  · simp only [Value.slice.injEq] at hv
    obtain ⟨rfl, rfl, rfl⟩ := hv
    refine .inr ⟨g, cap, cur, by rw [hl], hb, hg, by rw [hl]; omega, h2, h3, ?_⟩
    rw [hl, hf, ← h4, List.take_take, Nat.min_eq_left (Nat.mul_le_mul_right _ hk)]
/-- append of a list that is not nil to a list of the call's own: the block is the same, or a new one. -/
theorem run_catN {α : Type} {P : Program} {t e : TypeId} {size bytes : Nat} (hE : Elem P t e size bytes) {enc : α → List Value} (he : ∀ a, (enc a).length = size) (h1 : ∀ y, ∀ u ∈ enc y, u.oneCell' = true) (ty : TypeId)
    {B₀ B₁ g0 c0 g cap n0 m : Nat} {w : World} {l l2 : List α} (hS : SlA B₀ w e size enc (.slice (some ⟨g0, 0, none⟩) n0 c0) l) (hn0 : l.length = n0) (hS2 : SlA B₁ w e size enc (.slice (some ⟨g, 0, none⟩) m cap) l2) (hm : l2.length = m) (hbytes : (l.length + l2.length) * bytes ≤ 140737488355328) (hbase : B₀ ≤ w.heap.size) :
    ∃ g' c' w', (Builtin.append_ #[t, t] ty #[.slice (some ⟨g0, 0, none⟩) n0 c0, .slice (some ⟨g, 0, none⟩) m cap]).run P w = .ok (.slice (some ⟨g', 0, none⟩) (n0 + m) c') w' ∧ SlA B₀ w' e size enc (.slice (some ⟨g', 0, none⟩) (n0 + m) c') (l ++ l2) ∧ w.grownBy w' (some g0) ∧ (g' = g0 ∨ w.heap.size ≤ g') := by
  subst hn0 hm
  obtain ⟨ht, i, z, hi, hz, hsz, hby, hzs, h0, hb0⟩ := hE
  have hcells : ∀ j u, (l2.flatMap enc)[j]? = some u → w.cell? ((⟨g, 0, none⟩ : Addr).add j) = some u := fun j u hu => World.ownsRow.cells hS2 (g := g) rfl j u hu
  have hone : ∀ u ∈ l2.flatMap enc, u.oneCell' = true := by
    intro u hu
    obtain ⟨y, -, hy⟩ := List.mem_flatMap.1 hu
    exact h1 y u hy
  by_cases hroom : l.length + l2.length ≤ c0
  · obtain ⟨w', hrun, hown, hg⟩ := run_append_own_spare (P := P) w B₀ t ty e i size ht hi hsz g0 l.length c0 (l.flatMap enc) hS ⟨g, 0, none⟩ l2.length cap (l2.flatMap enc) (flatMap_len he l2) hcells hone hroom
    exact ⟨g0, c0, w', hrun, SlA.append (l2 := l2) hown rfl rfl rfl, hg, .inl rfl⟩
  · obtain ⟨v', w', hrun, hown, hg⟩ := run_append_arg_grows (P := P) w t ty e i z size bytes ht hi hz hsz hby hzs h0 ⟨g0, 0, none⟩ l.length c0 (l.flatMap enc) (flatMap_len he l) (fun j u hu => World.ownsRow.cells hS (g := g0) rfl j u hu) ⟨g, 0, none⟩ l2.length cap (l2.flatMap enc) (flatMap_len he l2) hcells (by omega) (by
      have : (l.length + l2.length) * 1 ≤ (l.length + l2.length) * bytes := Nat.mul_le_mul_left _ hb0
      simp only [maxLen]; omega) hbytes
    have hs2 : SlA w.heap.size w' e size enc v' (l ++ l2) := SlA.append (l2 := l2) hown rfl rfl rfl
    rcases hown.2 with ⟨hv, hz0⟩ | ⟨g', c', cur, rfl, hb', hrest⟩
    · exfalso
      rcases hS.shape with ⟨hv, -⟩ | ⟨g2, c2, hv, h2, -⟩
      · cases hv
      · cases hv; omega
    · exact ⟨g', c', w', hrun, SlA.mono hs2 hbase, ⟨hg.1, hg.2, hg.3, hg.size, fun k hk _ => hg.block k hk (by simp)⟩, .inr hb'⟩
end Go.Proofs.Ytjbllcakaljpgaa
namespace Go.Proofs.Ytjbllcakaljpgaa
open Go.RowKit Go.Lib
namespace M
attribute [local go_sem] Oper.semAt_some
/-- The rules of a store's numbers 1 to n, in a block. -/
abbrev RuN (B : Nat) (W : World) (g n cap : Nat) (E : List En) : Prop := Rus B W (.slice (some ⟨g, 0, none⟩) n cap) ((E.map En.ru).take n)
theorem RuN.at {B g n cap : Nat} {W : World} {E : List En} (h : RuN B W g n cap E) (hn : n ≤ E.length) {i : Nat} (h0 : 0 < i) (hi : i ≤ n) : W.cell? ⟨g, (i - 1) * 5, none⟩ = some (.int .i64 (entAt E i).ru.kind) ∧ W.cell? ⟨g, (i - 1) * 5 + 1, none⟩ = some (.int .u8 (entAt E i).ru.letter) ∧ W.cell? ⟨g, (i - 1) * 5 + 2, none⟩ = some (.int .i64 (entAt E i).ru.left) ∧ W.cell? ⟨g, (i - 1) * 5 + 3, none⟩ = some (.int .i64 (entAt E i).ru.right) ∧ W.cell? ⟨g, (i - 1) * 5 + 4, none⟩ = some (.int .i64 (entAt E i).ru.times) := by
  have hl : i - 1 < ((E.map En.ru).take n).length := by rw [List.length_take, List.length_map]; omega
  have hx : ((E.map En.ru).take n)[i - 1] = (entAt E i).ru := by
    rw [List.getElem_take, List.getElem_map, entAt_some h0 (by omega)]
  have c := fun (j : Nat) (hj : j < 5) => SlA.cell encRu_len h hl (j := j) hj
  rw [hx] at c
  exact ⟨c 0 (by omega), c 1 (by omega), c 2 (by omega), c 3 (by omega), c 4 (by omega)⟩
theorem rep_snoc' (k : Nat) (t : List Nat) : rep k t ++ t = rep (k + 1) t := by
  rw [rep_add, rep_one]
set_option maxRecDepth 100000 in
set_option maxHeartbeats 8000000 in
theorem derive_any {E : List En} (hwf : Wf E) (hE : E.length ≤ 1048576) : ∀ (id : Nat), 0 < id → ∀ {B0 g n cap : Nat} {W : World}, RuN B0 W g n cap E → id ≤ n → n ≤ E.length → (txt E id).length ≤ 1000000 →
    Calls Try.prog 79 #[.slice (some ⟨g, 0, none⟩) n cap, .int .i64 id] W fun e w' => ∃ v, e = .returned v ∧ Bys W.heap.size w' v (txt E id) ∧ Below W.heap.size W w' := by
  intro id
  induction id using Nat.strongRecOn with
  | _ id ih =>
  intro h0 B0 g n cap W hR hid hn hT
  have HF : ∀ f, Fence.wide.fn f := fun _ => trivial
  obtain ⟨q0, q1, q2, q3, q4⟩ := hR.at hn h0 hid
  have HRL := Lib.hid (hwf.rule id h0 (by omega)).cases
  have hx : IntKind.i64.wrap ((id : Int) - 1) = ((id - 1 : Nat) : Int) := by rw [IntKind.wrap_i64]; omega
  obtain ⟨x, hxe⟩ : ∃ x, id - 1 = x := ⟨_, rfl⟩
  rw [hxe] at hx q0 q1 q2 q3 q4
  have hx1 : (x : Int) < (n : Int) := by omega
  have hx0 : (0 : Int) ≤ (x : Int) := by omega
  have hx2 : x < n := by omega
  have hx5 : wrap64 (x : Int) = (x : Int) := by unfold wrap64; omega
  obtain ⟨r, hr⟩ : ∃ r, (entAt E id).ru = r := ⟨_, rfl⟩
  rw [hr] at q0 q1 q2 q3 q4 HRL
  have HI : Hid (∀ (y : Nat) (w : World), 0 < y → y < id → (txt E y).length ≤ 1000000 → Below W.heap.size W w → Calls Try.prog 79 #[.slice (some ⟨g, 0, none⟩) n cap, .int .i64 y] w fun e w' => ∃ v, e = .returned v ∧ Bys w.heap.size w' v (txt E y) ∧ Below w.heap.size w w') := Lib.hid (fun y w h1 h2 h3 hw => ih y h2 h1 (SlA.below hR hw) (by omega) hn h3)
  obtain ⟨wz, w2, hz, hs, kr, br, ⟨p0, p1, p2, p3, p4⟩, e0, e1, e2, e3, e4⟩ := newRu W r
  obtain ⟨y0, y1, y2, y3, y4⟩ := kr.cells
  have KR := Lib.hid kr; have HB2 := Lib.hid br
  have HTL := Lib.hid hT
  clear ih hR hr hT kr br
  rcases HRL.out with ⟨hk, -, -, -, -, htx⟩ | ⟨hk, -, hl0, hl1, hr0, hr1, -, htx⟩ | ⟨hk, -, hl0, hl1, -, ht2, ht3, htx⟩
  · have hkb : ((r.kind : Int) == 1) = true := by simp [hk]
    have HTX := Lib.hid htx
    clear hk htx
    obtain ⟨w3, hw3⟩ : ∃ w, w2.alloc (.cells #[.int .u8 r.letter] 5) = w := ⟨_, rfl⟩
    have l3 : Bys w2.heap.size w3 (.slice (some ⟨w2.heap.size, 0, none⟩) 1 1) [r.letter] := by rw [← hw3]; exact SlA.lit (l := [r.letter]) encB_len rfl (by simp; unfold maxLen; omega)
    have HX := Lib.hid (SlA.mono l3 HB2.out.size)
    have HB3 : Hid (Below W.heap.size W w3) := Lib.hid (Below.after HB2.out (by rw [← hw3]; exact (Below.refl _ _).alloc (Nat.le_refl _) _))
    clear l3
    go_enter Try.func79, Try.ntmps79
    go_wp2_with fail
    go_ret
    exact ⟨_, rfl, by rw [HTX.out]; exact HX.out, HB3.out⟩
  · have hkb : ((r.kind : Int) == 1) = false := by simp [hk]
    have hkc : ((r.kind : Int) == 2) = true := by simp [hk]
    have hll : (txt E r.left).length + (txt E r.right).length ≤ 1000000 := by have := HTL.out; rw [htx, List.length_append] at this; exact this
    have hpl : 0 < (txt E r.left).length := (hwf.get r.left hl0 (by omega)).2.2.1
    have hpr : 0 < (txt E r.right).length := (hwf.get r.right hr0 (by omega)).2.2.1
    have HTX := Lib.hid htx
    have HLL := Lib.hid hll; have HPL := Lib.hid (And.intro hpl hpr)
    obtain ⟨w3, hw3⟩ : ∃ w, w2.alloc (.cells #[] 5) = w := ⟨_, rfl⟩
    have l3 : Bys w2.heap.size w3 (.slice (some ⟨w2.heap.size, 0, none⟩) 0 0) [] := by rw [← hw3]; exact SlA.lit (l := []) encB_len rfl (by simp)
    have b3 : Below w2.heap.size w2 w3 := by rw [← hw3]; exact (Below.refl _ _).alloc (Nat.le_refl _) _
    have HL3 := Lib.hid l3
    have HZ2 : Hid (w2.heap.size ≤ w3.heap.size) := Lib.hid b3.size
    have HB3 := Lib.hid (Below.after HB2.out b3)
    have KR3 := Lib.hid (show RuC w3 W.heap.size r from below_block b3 KR.out)
    obtain ⟨z0, z1, z2, z3, z4⟩ := KR3.out.cells
    have HD1 := Lib.hid (HI.out r.left w3 hl0 hl1 (by omega) HB3.out)
    have HD2 := Lib.hid (fun w hw => HI.out r.right w hr0 hr1 (by omega) hw)
    clear l3 b3 hk htx hll hpl hpr hl0 hl1 hr0 hr1 HI
    go_enter Try.func79, Try.ntmps79
    go_wp2_with fail
    refine HD1.out.mono ?_
    rintro e w4 ⟨v4, rfl, s4, b4⟩
    obtain ⟨va, vc, rfl⟩ := s4.len
    obtain ⟨g4, rfl⟩ : ∃ g, va = some ⟨g, 0, none⟩ := by
      rcases s4.shape with ⟨hv, h⟩ | ⟨g, c, hv, -⟩
      · have := HPL.out.1; rw [h] at this; simp at this
      · cases hv; exact ⟨g, rfl⟩
    have HS4 := Lib.hid s4
    obtain ⟨v5, w5, hrun5, s5, b5⟩ := run_catE elemB encB_len 37 (HL3.out.below b4) HS4.out (by have := HLL.out; omega) (Nat.le_trans HZ2.out b4.size)
    have HS5 := Lib.hid s5
    have HB5 := Lib.hid (Below.after HB3.out (Below.after b4 b5))
    have KR5 := Lib.hid (show RuC w5 W.heap.size r from below_block (Below.after b4 b5) KR3.out)
    have HZ5 : Hid (w3.heap.size ≤ w5.heap.size) := Lib.hid (Below.after b4 b5).size
    obtain ⟨x0, x1, x2, x3, x4⟩ := KR5.out.cells
    clear s4 b4 s5 b5 HD1 hz hs hw3 p0 p1 p2 p3 p4 e0 e1 e2 e3 e4 y0 y1 y2 y3 y4 z0 z1 z2 z3 z4 q0 q1 q2 q3 q4
    go_wp2_with (
      at_builtin
      refine wp_run_app rfl _ _ rfl rfl rfl hrun5 ?_)
    refine (HD2.out w5 HB5.out).mono ?_
    rintro e w6 ⟨v6, rfl, s6, b6⟩
    obtain ⟨vb, vd, rfl⟩ := s6.len
    obtain ⟨g6, rfl⟩ : ∃ g, vb = some ⟨g, 0, none⟩ := by
      rcases s6.shape with ⟨hv, h⟩ | ⟨g, c, hv, -⟩
      · have := HPL.out.2; rw [h] at this; simp at this
      · cases hv; exact ⟨g, rfl⟩
    obtain ⟨v7, w7, hrun7, s7, -, b7⟩ := run_catO elemB encB_len encB_one 37 (HS5.out.below b6) s6 (by have := HLL.out; omega) (Nat.le_trans (Nat.le_trans HZ2.out HZ5.out) b6.size)
    have HS7 := Lib.hid (SlA.mono s7 HB2.out.size)
    have HB7 := Lib.hid ((Below.after HB5.out b6).trans (b7.mono HB2.out.size))
    clear s6 b6 s7 b7 HD2
    go_wp2_with (
      at_builtin
      refine wp_run_app rfl _ _ rfl rfl rfl hrun7 ?_)
    go_ret
    exact ⟨_, rfl, by rw [HTX.out]; exact HS7.out, HB7.out⟩
  · have hkb : ((r.kind : Int) == 1) = false := by simp [hk]
    have hkc : ((r.kind : Int) == 2) = false := by simp [hk]
    have hpl : 0 < (txt E r.left).length := (hwf.get r.left hl0 (by omega)).2.2.1
    have hll : r.times * (txt E r.left).length ≤ 1000000 := by have := HTL.out; rw [htx, rep_length] at this; exact this
    have hl2 : (txt E r.left).length ≤ r.times * (txt E r.left).length := Nat.le_mul_of_pos_left _ (by omega)
    have htm : r.times ≤ r.times * (txt E r.left).length := Nat.le_mul_of_pos_right _ hpl
    have HTX := Lib.hid htx
    have HLL := Lib.hid hll; have HPL := Lib.hid hpl
    have htb : r.times ≤ 1000000 := by omega
    obtain ⟨w3, hw3⟩ : ∃ w, w2.alloc (.cells #[] 5) = w := ⟨_, rfl⟩
    have l3 : Bys w2.heap.size w3 (.slice (some ⟨w2.heap.size, 0, none⟩) 0 0) [] := by rw [← hw3]; exact SlA.lit (l := []) encB_len rfl (by simp)
    have b3 : Below w2.heap.size w2 w3 := by rw [← hw3]; exact (Below.refl _ _).alloc (Nat.le_refl _) _
    have HL3 := Lib.hid l3
    have HZ2 : Hid (w2.heap.size ≤ w3.heap.size) := Lib.hid b3.size
    have HB3 := Lib.hid (Below.after HB2.out b3)
    have KR3 := Lib.hid (show RuC w3 W.heap.size r from below_block b3 KR.out)
    obtain ⟨z0, z1, z2, z3, z4⟩ := KR3.out.cells
    have HD1 := Lib.hid (HI.out r.left w3 hl0 hl1 (by omega) HB3.out)
    clear l3 b3 hk htx hll hpl hl0 hl1 hl2 htm HI
    go_enter Try.func79, Try.ntmps79
    go_wp2_with fail
    refine HD1.out.mono ?_
    rintro e w4 ⟨v4, rfl, s4, b4⟩
    obtain ⟨va, vc, rfl⟩ := s4.len
    obtain ⟨g4, rfl⟩ : ∃ g, va = some ⟨g, 0, none⟩ := by
      rcases s4.shape with ⟨hv, h⟩ | ⟨g, c, hv, -⟩
      · have := HPL.out; rw [h] at this; simp at this
      · cases hv; exact ⟨g, rfl⟩
    obtain ⟨t, ht⟩ : ∃ t, txt E r.left = t := ⟨_, rfl⟩
    rw [ht] at s4 HLL HPL HTX ⊢
    obtain ⟨tl, htl⟩ : ∃ n, t.length = n := ⟨_, rfl⟩
    have HT4 := Lib.hid htl
    rw [htl] at HLL HPL
    have hlb : tl ≤ 1000000 := Nat.le_trans (Nat.le_mul_of_pos_left _ (by omega)) HLL.out
    have HS4 := Lib.hid s4
    obtain ⟨v5, w5, hrun5, s5, b5⟩ := run_catE elemB encB_len 37 (HL3.out.below b4) HS4.out (by rw [htl]; omega) (Nat.le_trans HZ2.out b4.size)
    obtain ⟨g5, c5, rfl, hg5⟩ : ∃ g c, v5 = .slice (some ⟨g, 0, none⟩) tl c ∧ g < w5.heap.size := by
      rcases s5.shape with ⟨hv, h⟩ | ⟨g, c, hv, -⟩
      · have := HPL.out; rw [← htl, h] at this; simp at this
      · subst hv
        rw [htl] at s5 ⊢
        obtain ⟨⟨cs, hc⟩, -, -⟩ := SlA.free s5
        exact ⟨g, c, rfl, (Array.getElem?_eq_some_iff.1 hc).1⟩
    rw [htl] at hrun5 ⊢
    have HS5 := Lib.hid s5
    have HB5 := Lib.hid (Below.after HB3.out (Below.after b4 b5))
    have KR5 := Lib.hid (show RuC w5 W.heap.size r from below_block (Below.after b4 b5) KR3.out)
    have HZ5 : Hid (w2.heap.size ≤ w5.heap.size) := Lib.hid (Nat.le_trans HZ2.out (Below.after b4 b5).size)
    obtain ⟨w6, hw6⟩ : ∃ w, w5.alloc (.cells #[] 5) = w := ⟨_, rfl⟩
    have l6 : Bys w5.heap.size w6 (.slice (some ⟨w5.heap.size, 0, none⟩) 0 0) [] := by rw [← hw6]; exact SlA.lit (l := []) encB_len rfl (by simp)
    have b6 : Below w5.heap.size w5 w6 := by rw [← hw6]; exact (Below.refl _ _).alloc (Nat.le_refl _) _
    have s6 : Bys w2.heap.size w6 (.slice (some ⟨g5, 0, none⟩) t.length c5) t := by rw [htl]; exact HS5.out.below b6
    obtain ⟨v7, w7, hrun7, s7, b7⟩ := run_catE elemB encB_len 37 l6 s6 (by rw [htl]; omega) b6.size
    rw [htl] at hrun7
    obtain ⟨g7, c7, rfl, hg7, hg72⟩ : ∃ g c, v7 = .slice (some ⟨g, 0, none⟩) tl c ∧ w5.heap.size ≤ g ∧ g < w7.heap.size := by
      rcases s7.shape with ⟨hv, h⟩ | ⟨g, c, hv, -⟩
      · have := HPL.out; rw [← htl, h] at this; simp at this
      · subst hv
        rw [htl] at s7 ⊢
        obtain ⟨⟨cs, hc⟩, hb, -⟩ := SlA.free s7
        exact ⟨g, c, rfl, hb, (Array.getElem?_eq_some_iff.1 hc).1⟩
    have HS7 := Lib.hid s7
    have HS57 : Hid (Bys w2.heap.size w7 (.slice (some ⟨g5, 0, none⟩) tl c5) t) := Lib.hid (HS5.out.below (Below.after b6 b7))
    have HB7 := Lib.hid (Below.after HB5.out (Below.after b6 b7))
    have KR7 := Lib.hid (show RuC w7 W.heap.size r from below_block (Below.after b6 b7) KR5.out)
    have HZ7 : Hid (w5.heap.size ≤ w7.heap.size) := Lib.hid (Below.after b6 b7).size
    have HG5 : Hid (g5 ≠ g7) := Lib.hid (by omega)
    have HG7 := Lib.hid hg72
    obtain ⟨x0, x1, x2, x3, x4⟩ := KR5.out.cells
    clear s4 b4 s5 b5 s6 l6 b6 s7 b7 hg5 hg7 hg72 HD1 hz hs hw3 p0 p1 p2 p3 p4 e0 e1 e2 e3 e4 y0 y1 y2 y3 y4 z0 z1 z2 z3 z4 q0 q1 q2 q3 q4 ht htl
    go_wp2_with (
      at_builtin
      first | refine wp_run_app rfl _ _ rfl rfl rfl hrun5 ?_ | refine wp_run_app rfl _ _ rfl rfl rfl hrun7 ?_)
    clear hrun5 hrun7 hw6 x0 x1 x2 x3 x4
    go_loopw [6, 8] (fun ov kv wr => ∃ k q go co : Nat, kv = .int .i64 k ∧ 1 ≤ k ∧ k ≤ r.times ∧ ov = .slice (some ⟨go, 0, none⟩) q co ∧ q = k * tl ∧ Bys w2.heap.size wr (.slice (some ⟨go, 0, none⟩) q co) (rep k t) ∧ go ≠ g7 ∧ Bys w5.heap.size wr (.slice (some ⟨g7, 0, none⟩) tl c7) t ∧ w7.heap.size ≤ wr.heap.size ∧ Below W.heap.size W wr ∧ RuC wr W.heap.size r) (fun _ kv _ => r.times + 1 - (intOf kv).toNat)
    case atStart => exact ⟨1, tl, g5, c5, rfl, Nat.le_refl _, by omega, rfl, by omega, by rw [rep_one]; exact HS57.out, HG5.out, HS7.out, Nat.le_refl _, HB7.out, KR7.out⟩
    case round =>
      clear HS57 HS7 HB7 KR7
      obtain ⟨k, q, go, co, rfl, hk1, hkt, rfl, hq, hO, hgo, hOne, hsz, hB, hKR⟩ := hrel
      have HO := Lib.hid hO; have H1 := Lib.hid hOne; have HB := Lib.hid hB; have KR := Lib.hid hKR
      obtain ⟨y0, y1, y2, y3, y4⟩ := hKR.cells
      by_cases hlt : k < r.times
      · have hlt2 : (k : Int) < (r.times : Int) := by omega
        have hkt2 : (k + 1) * tl ≤ r.times * tl := Nat.mul_le_mul_right _ (by omega)
        have hq2 : q + tl = (k + 1) * tl := by rw [hq, Nat.succ_mul]
        have hlr : (rep k t).length = q := by rw [rep_length, HT4.out, hq]
        obtain ⟨g8, c8, w8, hrun8, s8, hg8, hor⟩ := run_catN elemB encB_len encB_one 37 hO hlr hOne HT4.out (by rw [hlr, HT4.out]; have := HLL.out; omega) (by have := HZ5.out; have := HZ7.out; omega)
        rw [rep_snoc'] at s8
        have HS8 := Lib.hid s8
        have hol : go < wr.heap.size ∧ w2.heap.size ≤ go := by
          obtain ⟨⟨cs, hc⟩, hb, -⟩ := SlA.free hO
          exact ⟨(Array.getElem?_eq_some_iff.1 hc).1, hb⟩
        have h1l : g7 < wr.heap.size := Nat.lt_of_lt_of_le HG7.out hsz
        have HX1 : Hid (Bys w5.heap.size w8 (.slice (some ⟨g7, 0, none⟩) tl c7) t) := Lib.hid (SlA.same hOne (hg8.block g7 h1l (fun e => hgo (Option.some.inj e).symm)))
        have HX2 : Hid (Below W.heap.size W w8) := Lib.hid (hB.grown hg8 hB.size (fun k e => by cases e; exact Nat.le_trans HB2.out.size hol.2))
        have HX3 : Hid (RuC w8 W.heap.size r) := Lib.hid (by
          have h := hKR
          unfold RuC at h ⊢
          rw [hg8.block W.heap.size (Array.getElem?_eq_some_iff.1 h).1 (fun e => by
            cases e
            obtain ⟨⟨cs, hc⟩, -, -⟩ := SlA.free hO
            rw [hc] at h; simp at h)]
          exact h)
        have HX4 : Hid (g8 ≠ g7 ∧ w7.heap.size ≤ w8.heap.size) := Lib.hid ⟨by omega, Nat.le_trans hsz hg8.size⟩
        have HQ2 := Lib.hid hq2
        clear hO hOne hB hKR hg8 s8 hor hsz hgo hol h1l hq hq2 hkt2 hlr hkt
        go_wp2_with (
          at_builtin
          refine wp_run_app rfl _ _ rfl rfl rfl hrun8 ?_)
        go_roundw
        case rel => exact ⟨k + 1, q + tl, g8, c8, by go_num, by omega, by omega, rfl, HQ2.out, HS8.out, HX4.out.1, HX1.out, HX4.out.2, HX2.out, HX3.out⟩
        case measure => first | (simp [intOf]; omega) | simp [intOf]
      · have hlt2 : ¬ (k : Int) < (r.times : Int) := by omega
        have e : k = r.times := by omega
        rw [e] at HO
        clear hO hOne hB hKR hq
        go_wp2_with fail
        go_ret
        exact ⟨_, rfl, by rw [HTX.out]; exact SlA.mono HO.out HB2.out.size, HB.out⟩
end M
end Go.Proofs.Ytjbllcakaljpgaa
