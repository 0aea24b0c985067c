/- The reference: Put and Drop on lists of named texts.
The reference: lists of names; Find, in, Valid, Last. -/
import Derived.Test.YtlfodhejpbjfcaaProg
import Derived.Test.YtlfodhejpbjfcaaCom
import Derived.WalkKit
import Derived.WalkSpells
import Derived.WalkLawsBesides
import Derived.Outline
import Derived.Lib.Hide
import Derived.OwnWalk
import Derived.Maps.AppendAt
import Derived.Laws.AppendOwnNone
set_option linter.unusedVariables false
set_option linter.unusedSimpArgs false
namespace Go.Proofs.Ytlfodhejpbjfcaa
open Go.RowKit

def encP (p : ByteArray × Int) : List Value := [.string p.1, .int .i64 p.2]
theorem encP_len (p : ByteArray × Int) : (encP p).length = 2 := rfl
abbrev Prs (B : Nat) (W : World) (v : Value) (l : List (ByteArray × Int)) : Prop := SlA B W 49 2 encP v l
theorem elemP : Elem Try.prog 22 49 2 24 := elem_of Try.underlying22 (z := .agg #[.string ⟨#[]⟩, .int .i64 0]) (by kernel_rfl) rfl (by decide) (by decide)

/-- What the walk reads of a list of pairs at an index. -/
theorem Prs.at {B : Nat} {W : World} {v : Value} {l : List (ByteArray × Int)} (h : Prs B W v l) {i : Nat} (hi : i < l.length) :
    ∃ g cap, v = .slice (some ⟨g, 0, none⟩) l.length cap ∧ l.length ≤ cap ∧ cap ≤ maxLen ∧ ∀ (W' : World), Below W.heap.size W W' → ∀ i (hi : i < l.length), W'.cell? ⟨g, i * 2, none⟩ = some (.string l[i].1) ∧ W'.cell? ⟨g, i * 2 + 1, none⟩ = some (.int .i64 l[i].2) := by
  rcases h.shape with ⟨-, rfl⟩ | ⟨g, cap, rfl, h1, h2⟩
  · simp at hi
  · refine ⟨g, cap, rfl, h1, h2, fun W' hb i hi => ?_⟩
    have h' := h.below hb
    exact ⟨(SlA.cell encP_len h' hi (j := 0) (by omega)), (SlA.cell encP_len h' hi (j := 1) (by omega))⟩

def dropR (k : ByteArray) (l : List (ByteArray × Int)) : List (ByteArray × Int) := l.filter fun p => !(p.1.toList == k.toList)
theorem dropR_snoc {k : ByteArray} {l : List (ByteArray × Int)} {j : Nat} (hj : j < l.length) : dropR k (l.take (j + 1)) = dropR k (l.take j) ++ (if l[j].1.toList == k.toList then [] else [l[j]]) := by
  unfold dropR
  rw [List.take_succ_eq_append_getElem hj, List.filter_append]
  congr 1
  by_cases h : (l[j].1.toList == k.toList) = true <;> simp [h]

set_option maxRecDepth 100000 in
set_option maxHeartbeats 1600000 in
theorem refDrop_any (k : ByteArray) {W : World} {v : Value} {l : List (ByteArray × Int)} (h : Prs 0 W v l) (hl : l.length ≤ 100000) :
    Calls Try.prog 46 #[v, .string k] W fun e w' => ∃ v', e = .returned v' ∧ Prs 0 w' v' (dropR k l) ∧ Below W.heap.size W w' := by
  have hlen := h.len
  obtain ⟨a0, cap0, hv⟩ := hlen
  have HP := Lib.hid h
  clear h
  subst hv
  go_enter Try.func46, Try.ntmps46
  go_wp2_with fail
  go_loopw [5, 9] (fun out c wr => ∃ j : Nat, j ≤ l.length ∧ c = .int .i64 j ∧ Prs W.heap.size wr out (dropR k (l.take j)) ∧ Below W.heap.size W wr) (fun _ c _ => l.length - (intOf c).toNat)
  case atStart => exact ⟨0, by omega, rfl, SlA.nil _ _ _ _ _, Below.refl _ _⟩
  case round =>
    obtain ⟨j, hj, rfl, hO, hB⟩ := hrel
    have HO := Lib.hid hO; have HB := Lib.hid hB; clear hO hB
    by_cases hlt : j < l.length
    · obtain ⟨g, cap, e1, h1, h2, hc⟩ := HP.out.at hlt
      obtain ⟨c0, c1⟩ := hc wr HB.out j hlt
      simp only [Value.slice.injEq] at e1
      obtain ⟨rfl, -, rfl⟩ := e1
      clear hc
      have hx : (l[j].1.toList == k.toList) = true ∨ (l[j].1.toList == k.toList) = false := by cases (l[j].1.toList == k.toList) <;> simp
      have HS := Lib.hid (dropR_snoc (k := k) hlt)
      generalize l[j] = p at *
      rcases hx with hx | hx
      · go_wp2_with fail
        have HX := Lib.hid hx; clear hx
        go_roundw
        case rel => exact ⟨j + 1, by omega, by go_num, by rw [HS.out, if_pos HX.out, List.append_nil]; exact HO.out, HB.out⟩
        case measure => simp [intOf]; omega
      · have hlen2 : (dropR k (l.take j)).length ≤ 100000 := Nat.le_trans (List.length_filter_le _ _) (by rw [List.length_take]; omega)
        go_wp2_with (first
          | (at_builtin; refine wp_app1 elemP encP_len rfl _ _ rfl rfl HO.out p rfl rfl ?c1 ?c2 HB.out.size ?_))
        case c1 => simp [encP, Value.oneCell']
        case c2 => omega
        intro v' w' hO2 hB2
        have HX := Lib.hid hx; have HO2 := Lib.hid hO2; have HB2 := Lib.hid (HB.out.trans hB2)
        clear hx hO2 hB2 c0 c1
        go_wp2_with fail
        go_roundw
        case rel => exact ⟨j + 1, by omega, by go_num, by rw [HS.out, if_neg (by rw [HX.out]; simp)]; exact HO2.out, HB2.out⟩
        case measure => simp [intOf]; omega
    · go_wp2_with fail
      obtain rfl : j = l.length := by omega
      have HO2 := HO.out
      rw [List.take_length] at HO2
      go_ret
      exact ⟨_, rfl, HO2.mono (Nat.zero_le _), HB.out⟩

/-- Not less. -/
def geB (a b : ByteArray) : Bool := !Op.bytesLess a.toList b.toList
/-- What a round of Put adds. -/
def putS (k : ByteArray) (x : Int) (st : List (ByteArray × Int) × Bool) (p : ByteArray × Int) : List (ByteArray × Int) × Bool :=
  (st.1 ++ ((if !st.2 && geB p.1 k then [(k, x)] else []) ++ (if p.1.toList == k.toList then [] else [p])), st.2 || geB p.1 k)
def putSt (k : ByteArray) (x : Int) (l : List (ByteArray × Int)) : List (ByteArray × Int) × Bool := l.foldl (putS k x) ([], false)
def putR (k : ByteArray) (x : Int) (l : List (ByteArray × Int)) : List (ByteArray × Int) := if (putSt k x l).2 then (putSt k x l).1 else (putSt k x l).1 ++ [(k, x)]
theorem putSt_snoc {k : ByteArray} {x : Int} {l : List (ByteArray × Int)} {j : Nat} (hj : j < l.length) : putSt k x (l.take (j + 1)) = putS k x (putSt k x (l.take j)) l[j] := by
  unfold putSt
  rw [List.take_succ_eq_append_getElem hj, List.foldl_append]; rfl
theorem putS_len (k : ByteArray) (x : Int) (st : List (ByteArray × Int) × Bool) (p : ByteArray × Int) : (putS k x st p).1.length + (if (putS k x st p).2 then 0 else 1) ≤ st.1.length + (if st.2 then 0 else 1) + 1 := by
  unfold putS
  cases st.2 <;> cases geB p.1 k <;> cases (p.1.toList == k.toList) <;> simp
theorem putSt_len (k : ByteArray) (x : Int) (l : List (ByteArray × Int)) : (putSt k x l).1.length + (if (putSt k x l).2 then 0 else 1) ≤ l.length + 1 := by
  unfold putSt
  rw [← List.foldr_reverse, ← l.length_reverse]
  generalize l.reverse = m
  induction m with
  | nil => simp
  | cons p m ih =>
    have h1 := putS_len k x (m.foldr (fun y x_1 => putS k x x_1 y) ([], false)) p
    simp only [List.foldr_cons, List.length_cons]
    exact Nat.le_trans h1 (by omega)
theorem putR_len (k : ByteArray) (x : Int) (l : List (ByteArray × Int)) : (putR k x l).length ≤ l.length + 1 := by
  have := putSt_len k x l
  unfold putR
  split <;> rename_i h
  · simp only [h, if_true] at this; omega
  · simp only [h] at this; simp at this; simp; omega

set_option maxRecDepth 100000 in
set_option maxHeartbeats 4000000 in
theorem refPut_any (k : ByteArray) (x : Int) {W : World} {v : Value} {l : List (ByteArray × Int)} (h : Prs 0 W v l) (hl : l.length ≤ 100000) :
    Calls Try.prog 47 #[v, .string k, .int .i64 x] W fun e w' => ∃ v', e = .returned v' ∧ Prs 0 w' v' (putR k x l) ∧ Below W.heap.size W w' := by
  have hlen := h.len
  obtain ⟨a0, cap0, hv⟩ := hlen
  have HP := Lib.hid h
  clear h
  subst hv
  go_enter Try.func47, Try.ntmps47
  go_wp2_with fail
  go_loopw [7, 8, 12] (fun out dn c wr => ∃ (j : Nat) (d : Bool), j ≤ l.length ∧ c = .int .i64 j ∧ dn = .bool d ∧ (putSt k x (l.take j)).2 = d ∧ Prs W.heap.size wr out (putSt k x (l.take j)).1 ∧ Below W.heap.size W wr) (fun _ _ c _ => l.length - (intOf c).toNat)
  case atStart => exact ⟨0, false, by omega, rfl, rfl, rfl, SlA.nil _ _ _ _ _, Below.refl _ _⟩
  case round =>
    obtain ⟨j, d, hj, rfl, rfl, hd, hO, hB⟩ := hrel
    have HO := Lib.hid hO; have HB := Lib.hid hB; clear hO hB
    have hlen2 := putSt_len k x (l.take j)
    rw [List.length_take] at hlen2
    have hlen3 : (putSt k x (l.take j)).1.length ≤ 100001 := by omega
    clear hlen2
    by_cases hlt : j < l.length
    · obtain ⟨g, cap, e1, h1, h2, hc⟩ := HP.out.at hlt
      obtain ⟨c0, c1⟩ := hc wr HB.out j hlt
      have HC := Lib.hid (fun W' hb => hc W' hb j hlt)
      simp only [Value.slice.injEq] at e1
      obtain ⟨rfl, -, rfl⟩ := e1
      clear hc
      have HS := Lib.hid (putSt_snoc (k := k) (x := x) hlt)
      generalize l[j] = p at *
      generalize putSt k x (l.take j) = st at *
      have HD := Lib.hid hd; clear hd
      have hge : geB p.1 k = true ∨ geB p.1 k = false := by cases geB p.1 k <;> simp
      have hx : (p.1.toList == k.toList) = true ∨ (p.1.toList == k.toList) = false := by cases (p.1.toList == k.toList) <;> simp
      cases d
      · rcases hge with hge | hge
        · have hb : Op.bytesLess p.1.toList k.toList = false := by simpa [geB] using hge
          have HG := Lib.hid hge; clear hge
          rcases hx with hx | hx
          · go_wp2_with (first
              | (at_builtin; refine wp_app1 elemP encP_len rfl _ _ rfl rfl HO.out (k, x) rfl rfl ?h1a ?h1b HB.out.size ?_))
            case h1a => simp [encP, Value.oneCell']
            case h1b => omega
            intro v1 w1 hO1 hB1
            have HO1 := Lib.hid hO1; have HB1 := Lib.hid (HB.out.trans hB1)
            clear hO1 hB1
            obtain ⟨c2, c3⟩ := HC.out w1 HB1.out
            clear c0 c1
            go_wp2_with fail
            have HX := Lib.hid hx; clear hx
            go_roundw
            case rel => exact ⟨j + 1, true, by omega, by go_num, rfl, by rw [HS.out]; simp [putS, HD.out, HG.out], by rw [HS.out]; simpa [putS, HX.out, HD.out, HG.out] using HO1.out, HB1.out⟩
            case measure => simp [intOf]; omega
          · go_wp2_with (first
              | (at_builtin; refine wp_app1 elemP encP_len rfl _ _ rfl rfl HO.out (k, x) rfl rfl ?h2a ?h2b HB.out.size ?_))
            case h2a => simp [encP, Value.oneCell']
            case h2b => omega
            intro v1 w1 hO1 hB1
            have HO1 := Lib.hid hO1; have HB1 := Lib.hid (HB.out.trans hB1)
            clear hO1 hB1
            obtain ⟨c2, c3⟩ := HC.out w1 HB1.out
            clear c0 c1
            go_wp2_with (first
              | (at_builtin; refine wp_app1 elemP encP_len rfl _ _ rfl rfl HO1.out p rfl rfl ?h3a ?h3b HB1.out.size ?_))
            case h3a => simp [encP, Value.oneCell']
            case h3b => simp only [List.length_append, List.length_singleton]; omega
            intro v2 w2 hO2 hB2
            have HO2 := Lib.hid hO2; have HB2 := Lib.hid (HB1.out.trans hB2)
            clear hO2 hB2
            go_wp2_with fail
            have HX := Lib.hid hx; clear hx
            go_roundw
            case rel => exact ⟨j + 1, true, by omega, by go_num, rfl, by rw [HS.out]; simp [putS, HD.out, HG.out], by rw [HS.out]; simpa [putS, HX.out, HD.out, HG.out] using HO2.out, HB2.out⟩
            case measure => simp [intOf]; omega
        · have hb : Op.bytesLess p.1.toList k.toList = true := by simpa [geB] using hge
          have HG := Lib.hid hge; clear hge
          rcases hx with hx | hx
          · go_wp2_with fail
            have HX := Lib.hid hx; clear hx
            go_roundw
            case rel => exact ⟨j + 1, false, by omega, by go_num, rfl, by rw [HS.out]; simp [putS, HD.out, HG.out], by rw [HS.out]; simpa [putS, HX.out, HD.out, HG.out] using HO.out, HB.out⟩
            case measure => simp [intOf]; omega
          · go_wp2_with (first
              | (at_builtin; refine wp_app1 elemP encP_len rfl _ _ rfl rfl HO.out p rfl rfl ?h4a ?h4b HB.out.size ?_))
            case h4a => simp [encP, Value.oneCell']
            case h4b => omega
            intro v1 w1 hO1 hB1
            have HO1 := Lib.hid hO1; have HB1 := Lib.hid (HB.out.trans hB1)
            clear hO1 hB1
            go_wp2_with fail
            have HX := Lib.hid hx; clear hx
            go_roundw
            case rel => exact ⟨j + 1, false, by omega, by go_num, rfl, by rw [HS.out]; simp [putS, HD.out, HG.out], by rw [HS.out]; simpa [putS, HX.out, HD.out, HG.out] using HO1.out, HB1.out⟩
            case measure => simp [intOf]; omega
      · clear hge
        rcases hx with hx | hx
        · go_wp2_with fail
          have HX := Lib.hid hx; clear hx
          go_roundw
          case rel => exact ⟨j + 1, true, by omega, by go_num, rfl, by rw [HS.out]; simp [putS, HD.out], by rw [HS.out]; simpa [putS, HX.out, HD.out] using HO.out, HB.out⟩
          case measure => simp [intOf]; omega
        · go_wp2_with (first
            | (at_builtin; refine wp_app1 elemP encP_len rfl _ _ rfl rfl HO.out p rfl rfl ?h5a ?h5b HB.out.size ?_))
          case h5a => simp [encP, Value.oneCell']
          case h5b => omega
          intro v1 w1 hO1 hB1
          have HO1 := Lib.hid hO1; have HB1 := Lib.hid (HB.out.trans hB1)
          clear hO1 hB1
          go_wp2_with fail
          have HX := Lib.hid hx; clear hx
          go_roundw
          case rel => exact ⟨j + 1, true, by omega, by go_num, rfl, by rw [HS.out]; simp [putS, HD.out], by rw [HS.out]; simpa [putS, HX.out, HD.out] using HO1.out, HB1.out⟩
          case measure => simp [intOf]; omega
    · obtain rfl : j = l.length := by omega
      have HO2 := HO.out
      rw [List.take_length] at HO2 hd hlen3
      have HO3 := Lib.hid HO2; have HD := Lib.hid hd
      clear HO2 HO hd
      cases d
      · go_wp2_with (first
          | (at_builtin; refine wp_app1 elemP encP_len rfl _ _ rfl rfl HO3.out (k, x) rfl rfl ?h6a ?h6b HB.out.size ?_))
        case h6a => simp [encP, Value.oneCell']
        case h6b => omega
        intro v1 w1 hO1 hB1
        have HO1 := Lib.hid hO1; have HB1 := Lib.hid (HB.out.trans hB1)
        clear hO1 hB1
        go_wp2_with fail
        go_ret
        exact ⟨_, rfl, by unfold putR; rw [HD.out]; exact HO1.out.mono (Nat.zero_le _), HB1.out⟩
      · go_wp2_with fail
        go_ret
        exact ⟨_, rfl, by unfold putR; rw [HD.out]; exact HO3.out.mono (Nat.zero_le _), HB.out⟩
end Go.Proofs.Ytlfodhejpbjfcaa
namespace Go.Proofs.Ytlfodhejpbjfcaa
open Go.RowKit

/-- append of a whole list to a list of the call's own. -/
theorem wp_cat {α : Type} {P : Program} {w : World} {ops : Array Oper} {rest : List Oper} {o : Oper} {a : Act} {Q : Exit → Act → World → Prop} {t e : TypeId} {size bytes : Nat} (hE : Elem P t e size bytes) {enc : α → List Value} (he : ∀ a, (enc a).length = size)
    (hgd : o.guard = none) (s x : Operand) (ho : o.op = .call { callee := .builtin .append, args := #[s, x], argTypes := #[t, t] })
    {B₀ B₁ : Nat} {v v2 : Value} {l l2 : List α} (hs : a.eval s = v) (hS : SlA B₀ w e size enc v l) (hx : a.eval x = v2) (hS2 : SlA B₁ w e size enc v2 l2) (h1 : ∀ y, ∀ u ∈ enc y, u.oneCell' = true)
    (hbytes : (l.length + l2.length) * bytes ≤ 140737488355328) (hbase : B₀ ≤ w.heap.size)
    (h : ∀ v' w', SlA B₀ w' e size enc v' (l ++ l2) → w.grownBy w' v.ownBlock → Below B₀ w w' → wpList P ops Q rest (a.put o.dst v') w') : wpList P ops Q (o :: rest) a w := by
  obtain ⟨ht, i, z, hi, hz, hsz, hby, hzs, h0, hb0⟩ := hE
  rcases hS2.shape with ⟨rfl, rfl⟩ | ⟨g, cap, rfl, hc1, hc2⟩
  · refine wpList_append_own_none hgd s x t ho B₀ e i size ht hi v l.length (l.flatMap enc) hs hS hx ?_
    refine h v w (by rw [List.append_nil]; exact hS) ⟨rfl, rfl, rfl, Nat.le_refl _, fun _ _ _ => rfl⟩ (Below.refl _ _)
  · refine wpList_append_own _ hgd s x t ho B₀ e i z size bytes ht hi hz hsz hby hzs h0 v l.length (l.flatMap enc) hs hS ⟨g, 0, none⟩ l2.length cap (l2.flatMap enc) hx (flatMap_len he l2) ?_ ?_ ?_ hbytes hbase ?_
    · intro j u hu
      exact World.ownsRow.cells hS2 (g := g) rfl j u hu
    · intro u hu
      obtain ⟨y, -, hy⟩ := List.mem_flatMap.1 hu
      exact h1 y u hy
    · have : (l.length + l2.length) * 1 ≤ (l.length + l2.length) * bytes := Nat.mul_le_mul_left _ hb0
      simp only [maxLen]; omega
    · intro v' w' hown hg _
      refine h v' w' (SlA.append (l2 := l2) hown rfl rfl rfl) hg ?_
      refine (Below.refl B₀ w).grown hg hbase ?_
      intro k hk
      rcases hS.2 with ⟨rfl, _⟩ | ⟨g, cap, cur, rfl, hb, _⟩
      · simp [Value.ownBlock] at hk
      · simp [Value.ownBlock] at hk; omega

def encT (s : ByteArray) : List Value := [.string s]
theorem encT_len (s : ByteArray) : (encT s).length = 1 := rfl
abbrev Sts (B : Nat) (W : World) (v : Value) (l : List ByteArray) : Prop := SlA B W 9 1 encT v l
theorem elemT : Elem Try.prog 38 9 1 16 := elem_of Try.underlying38 (z := .string ⟨#[]⟩) (by kernel_rfl) rfl (by decide) (by decide)
theorem Sts.at {B : Nat} {W : World} {v : Value} {l : List ByteArray} (h : Sts B W v l) {i : Nat} (hi : i < l.length) :
    ∃ g cap, v = .slice (some ⟨g, 0, none⟩) l.length cap ∧ l.length ≤ cap ∧ cap ≤ maxLen ∧ ∀ (W' : World), Below W.heap.size W W' → W'.cell? ⟨g, i, none⟩ = some (.string l[i]) := by
  rcases h.shape with ⟨-, rfl⟩ | ⟨g, cap, rfl, h1, h2⟩
  · simp at hi
  · refine ⟨g, cap, rfl, h1, h2, fun W' hb => ?_⟩
    have := SlA.cell encT_len (h.below hb) hi (j := 0) (by omega)
    rw [Nat.mul_one, Nat.add_zero] at this
    exact this
/-- A slice that the text wrote out. -/
theorem SlA.lit {α : Type} {w : World} {e : TypeId} {size : Nat} {enc : α → List Value} (he : ∀ a, (enc a).length = size) {cs : Array Value} {l : List α} (hcs : cs.toList = l.flatMap enc) (hn : l.length ≤ maxLen) :
    SlA w.heap.size (w.alloc (.cells cs e)) e size enc (.slice (some ⟨w.heap.size, 0, none⟩) l.length l.length) l := by
  refine ⟨flatMap_len he l, .inr ⟨w.heap.size, l.length, cs, rfl, Nat.le_refl _, ?_, Nat.le_refl _, hn, ?_, ?_⟩⟩
  · show (w.heap.push _)[w.heap.size]? = _
    simp
  · rw [← flatMap_len he l, ← hcs]; simp
  · rw [hcs, ← flatMap_len he l, List.take_length]

namespace S
attribute [local go_sem] Oper.semAt_some
/-- A name is among names. -/
def inR (s : ByteArray) (l : List ByteArray) : Bool := l.any fun x => x.toList == s.toList
theorem inR_snoc {s : ByteArray} {l : List ByteArray} {j : Nat} (hj : j < l.length) (h : inR s (l.take j) = false) : inR s (l.take (j + 1)) = (l[j].toList == s.toList) := by
  unfold inR at *
  rw [List.take_succ_eq_append_getElem hj, List.any_append, h]
  simp
theorem inR_take {s : ByteArray} {l : List ByteArray} {j : Nat} (h : inR s (l.take j) = true) : inR s l = true := by
  unfold inR at *
  obtain ⟨x, hx, h⟩ := List.any_eq_true.1 h
  exact List.any_eq_true.2 ⟨x, List.mem_of_mem_take hx, h⟩
set_option maxRecDepth 100000 in
set_option maxHeartbeats 1600000 in
theorem refIn_any (s : ByteArray) {B : Nat} {W : World} {v : Value} {l : List ByteArray} (h : Sts B W v l) (hl : l.length ≤ 1000000) :
    Calls Try.prog 58 #[v, .string s] W fun e w' => e = .returned (.bool (inR s l)) ∧ w' = W := by
  have hlen := h.len
  obtain ⟨a0, cap0, hv⟩ := hlen
  have HP := Lib.hid h
  clear h
  subst hv
  obtain ⟨R, hR⟩ : ∃ R, inR s l = R := ⟨_, rfl⟩
  have HR := Lib.hid hR
  rw [hR]
  clear hR
  go_enter Try.func58, Try.ntmps58
  go_wp2_with fail
  go_loop [8] (fun c => ∃ j : Nat, j ≤ l.length ∧ c = .int .i64 j ∧ inR s (l.take j) = false) (fun c => l.length - (intOf c).toNat)
  case atStart => exact ⟨0, by omega, rfl, rfl⟩
  case round =>
    obtain ⟨j, hj, rfl, hF⟩ := hrel
    have HF := Lib.hid hF; clear hF
    by_cases hlt : j < l.length
    · obtain ⟨g, cap, e1, h1, h2, hc⟩ := HP.out.at hlt
      have c0 := hc W (Below.refl _ _)
      simp only [Value.slice.injEq] at e1
      obtain ⟨rfl, -, rfl⟩ := e1
      clear hc
      have HS := Lib.hid (inR_snoc hlt HF.out)
      generalize l[j] = p at *
      have hx : (p.toList == s.toList) = true ∨ (p.toList == s.toList) = false := by cases (p.toList == s.toList) <;> simp
      rcases hx with hx | hx
      · have HE : Hid (R = true) := Lib.hid (by rw [← HR.out]; exact inR_take (HS.out.trans hx))
        go_wp2_with fail
        go_ret
        exact ⟨by rw [HE.out]; rfl, rfl⟩
      · have HE : Hid (inR s (l.take (j + 1)) = false) := Lib.hid (HS.out.trans hx)
        go_wp2_with fail
        go_round
        case rel => exact ⟨j + 1, by omega, by go_num, HE.out⟩
        case measure => simp [intOf]; omega
    · obtain rfl : j = l.length := by omega
      have HE : Hid (R = false) := Lib.hid (by rw [← HR.out]; have := HF.out; rwa [List.take_length] at this)
      go_wp2_with fail
      go_ret
      exact ⟨by rw [HE.out]; rfl, rfl⟩

/-- The ID of a name. -/
def findR (s : ByteArray) (l : List (ByteArray × Int)) : Option (ByteArray × Int) := l.find? fun x => x.1.toList == s.toList
def findV : Option (ByteArray × Int) → Value
  | some p => .tuple #[.int .i64 p.2, .bool true]
  | none => .tuple #[.int .i64 0, .bool false]
theorem findR_snoc {s : ByteArray} {l : List (ByteArray × Int)} {j : Nat} (hj : j < l.length) (h : findR s (l.take j) = none) : findR s (l.take (j + 1)) = if (l[j].1.toList == s.toList) = true then some l[j] else none := by
  unfold findR at *
  rw [List.take_succ_eq_append_getElem hj, List.find?_append, h]
  simp only [Option.none_or, List.find?_cons, List.find?_nil]
  cases (l[j].1.toList == s.toList) <;> rfl
theorem findR_take {s : ByteArray} {l : List (ByteArray × Int)} {j : Nat} {p : ByteArray × Int} (h : findR s (l.take j) = some p) : findR s l = some p := by
  unfold findR at *
  rw [← List.take_append_drop j l, List.find?_append, h]; rfl
set_option maxRecDepth 100000 in
set_option maxHeartbeats 1600000 in
theorem refFind_any (s : ByteArray) {B : Nat} {W : World} {v : Value} {l : List (ByteArray × Int)} (h : Prs B W v l) (hl : l.length ≤ 1000000) :
    Calls Try.prog 18 #[v, .string s] W fun e w' => e = .returned (findV (findR s l)) ∧ w' = W := by
  have hlen := h.len
  obtain ⟨a0, cap0, hv⟩ := hlen
  have HP := Lib.hid h
  clear h
  subst hv
  obtain ⟨R, hR⟩ : ∃ R, findR s l = R := ⟨_, rfl⟩
  have HR := Lib.hid hR
  rw [hR]
  clear hR
  go_enter Try.func18, Try.ntmps18
  go_wp2_with fail
  go_loop [9] (fun c => ∃ j : Nat, j ≤ l.length ∧ c = .int .i64 j ∧ findR s (l.take j) = none) (fun c => l.length - (intOf c).toNat)
  case atStart => exact ⟨0, by omega, rfl, rfl⟩
  case round =>
    obtain ⟨j, hj, rfl, hF⟩ := hrel
    have HF := Lib.hid hF; clear hF
    by_cases hlt : j < l.length
    · obtain ⟨g, cap, e1, h1, h2, hc⟩ := HP.out.at hlt
      obtain ⟨c0, c1⟩ := hc W (Below.refl _ _) j hlt
      simp only [Value.slice.injEq] at e1
      obtain ⟨rfl, -, rfl⟩ := e1
      clear hc
      have HS := Lib.hid (findR_snoc hlt HF.out)
      generalize l[j] = p at *
      have hx : (p.1.toList == s.toList) = true ∨ (p.1.toList == s.toList) = false := by cases (p.1.toList == s.toList) <;> simp
      rcases hx with hx | hx
      · have HE : Hid (R = some p) := Lib.hid (by rw [← HR.out]; exact findR_take (HS.out.trans (if_pos hx)))
        go_wp2_with fail
        go_ret2
        exact ⟨by rw [HE.out]; rfl, rfl⟩
      · have HE : Hid (findR s (l.take (j + 1)) = none) := Lib.hid (HS.out.trans (if_neg (by rw [hx]; simp)))
        go_wp2_with fail
        go_round
        case rel => exact ⟨j + 1, by omega, by go_num, HE.out⟩
        case measure => simp [intOf]; omega
    · obtain rfl : j = l.length := by omega
      have HE : Hid (R = none) := Lib.hid (by rw [← HR.out]; have := HF.out; rwa [List.take_length] at this)
      go_wp2_with fail
      go_ret2
      exact ⟨by rw [HE.out]; rfl, rfl⟩
set_option maxRecDepth 100000 in
theorem refValid_any (W : World) (s : ByteArray) (hs : s.size ≤ 9223372036854775807) :
    Calls Try.prog 19 #[.string s] W fun e w' => e = .returned (.bool (decide (1 ≤ s.size ∧ s.size ≤ 32))) ∧ w' = W := by
  by_cases h1 : 1 ≤ s.size
  · have h1i : (1 : Int) ≤ (s.size : Int) := by omega
    by_cases h2 : s.size ≤ 32
    · have h2i : (s.size : Int) ≤ 32 := by omega
      go_enter Try.func19, Try.ntmps19
      go_wp2_with fail
      go_ret
      exact ⟨congrArg (fun b => Ending.returned (Value.bool b)) (by simp [h1, h2]), rfl⟩
    · have h2i : ¬ (s.size : Int) ≤ 32 := by omega
      go_enter Try.func19, Try.ntmps19
      go_wp2_with fail
      go_ret
      exact ⟨congrArg (fun b => Ending.returned (Value.bool b)) (by simp [h2]; try omega), rfl⟩
  · have h1i : ¬ (1 : Int) ≤ (s.size : Int) := by omega
    go_enter Try.func19, Try.ntmps19
    go_wp2_with fail
    go_ret
    exact ⟨congrArg (fun b => Ending.returned (Value.bool b)) (by simp [h1]; try omega), rfl⟩
end S
end Go.Proofs.Ytlfodhejpbjfcaa
