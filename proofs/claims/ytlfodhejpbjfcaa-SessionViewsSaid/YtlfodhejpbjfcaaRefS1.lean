/- The reference: lists of names; Find, in, Valid, Last. -/
import Derived.Test.YtlfodhejpbjfcaaRefS0
import Derived.Laws.AppendOwnNone
namespace Go.Proofs.Ytlfodhejpbjfcaa
open Go.RowKit

/-- append of a whole list to a list of the call's own. -/
theorem wp_cat {α : Type} {P : Program} {w : World} {ops : Array Oper} {rest : List Oper} {o : Oper} {a : Act} {Q : Exit → Act → World → Prop} {t e : TypeId} {size bytes : Nat} (hE : Elem P t e size bytes) {enc : α → List Value} (he : ∀ a, (enc a).length = size)
    (hgd : o.guard = none) (s x : Operand) (ho : o.op = .call { callee := .builtin .append, args := #[s, x], argTypes := #[t, t] })
    {B₀ B₁ : Nat} {v v2 : Value} {l l2 : List α} (hs : a.eval s = v) (hS : SlA B₀ w e size enc v l) (hx : a.eval x = v2) (hS2 : SlA B₁ w e size enc v2 l2) (h1 : ∀ y, ∀ u ∈ enc y, u.oneCell' = true)
    (hbytes : (l.length + l2.length) * bytes ≤ 140737488355328) (hbase : B₀ ≤ w.heap.size)
    (h : ∀ v' w', SlA B₀ w' e size enc v' (l ++ l2) → w.grownBy w' v.ownBlock → Below B₀ w w' → wpList P ops Q rest (a.put o.dst v') w') : wpList P ops Q (o :: rest) a w := by
  obtain ⟨ht, i, z, hi, hz, hsz, hby, hzs, h0, hb0⟩ := hE
  rcases hS2.shape with ⟨rfl, rfl⟩ | ⟨g, cap, rfl, hc1, hc2⟩
  · refine wpList_append_own_none hgd s x t ho B₀ e i size ht hi v l.length (l.flatMap enc) hs hS hx ?_
    refine h v w (by rw [List.append_nil]; exact hS) ⟨rfl, rfl, rfl, Nat.le_refl _, fun _ _ _ => rfl⟩ (Below.refl _ _)
  · refine wpList_append_own _ hgd s x t ho B₀ e i z size bytes ht hi hz hsz hby hzs h0 v l.length (l.flatMap enc) hs hS ⟨g, 0, none⟩ l2.length cap (l2.flatMap enc) hx (flatMap_len he l2) ?_ ?_ ?_ hbytes hbase ?_
    · intro j u hu
      exact World.ownsRow.cells hS2 (g := g) rfl j u hu
    · intro u hu
      obtain ⟨y, -, hy⟩ := List.mem_flatMap.1 hu
      exact h1 y u hy
    · have : (l.length + l2.length) * 1 ≤ (l.length + l2.length) * bytes := Nat.mul_le_mul_left _ hb0
      simp only [maxLen]; omega
    · intro v' w' hown hg _
      refine h v' w' (SlA.append (l2 := l2) hown rfl rfl rfl) hg ?_
      refine (Below.refl B₀ w).grown hg hbase ?_
      intro k hk
      rcases hS.2 with ⟨rfl, _⟩ | ⟨g, cap, cur, rfl, hb, _⟩
      · simp [Value.ownBlock] at hk
      · simp [Value.ownBlock] at hk; omega

def encT (s : ByteArray) : List Value := [.string s]
theorem encT_len (s : ByteArray) : (encT s).length = 1 := rfl
abbrev Sts (B : Nat) (W : World) (v : Value) (l : List ByteArray) : Prop := SlA B W 9 1 encT v l
theorem elemT : Elem Try.prog 38 9 1 16 := elem_of Try.underlying38 (z := .string ⟨#[]⟩) (by kernel_rfl) rfl (by decide) (by decide)
theorem Sts.at {B : Nat} {W : World} {v : Value} {l : List ByteArray} (h : Sts B W v l) {i : Nat} (hi : i < l.length) :
    ∃ g cap, v = .slice (some ⟨g, 0, none⟩) l.length cap ∧ l.length ≤ cap ∧ cap ≤ maxLen ∧ ∀ (W' : World), Below W.heap.size W W' → W'.cell? ⟨g, i, none⟩ = some (.string l[i]) := by
  rcases h.shape with ⟨-, rfl⟩ | ⟨g, cap, rfl, h1, h2⟩
  · simp at hi
  · refine ⟨g, cap, rfl, h1, h2, fun W' hb => ?_⟩
    have := SlA.cell encT_len (h.below hb) hi (j := 0) (by omega)
    rw [Nat.mul_one, Nat.add_zero] at this
    exact this
/-- A slice that the text wrote out. -/
theorem SlA.lit {α : Type} {w : World} {e : TypeId} {size : Nat} {enc : α → List Value} (he : ∀ a, (enc a).length = size) {cs : Array Value} {l : List α} (hcs : cs.toList = l.flatMap enc) (hn : l.length ≤ maxLen) :
    SlA w.heap.size (w.alloc (.cells cs e)) e size enc (.slice (some ⟨w.heap.size, 0, none⟩) l.length l.length) l := by
  refine ⟨flatMap_len he l, .inr ⟨w.heap.size, l.length, cs, rfl, Nat.le_refl _, ?_, Nat.le_refl _, hn, ?_, ?_⟩⟩
  · show (w.heap.push _)[w.heap.size]? = _
    simp
  · rw [← flatMap_len he l, ← hcs]; simp
  · rw [hcs, ← flatMap_len he l, List.take_length]

namespace S
attribute [local go_sem] Oper.semAt_some
/-- A name is among names. -/
def inR (s : ByteArray) (l : List ByteArray) : Bool := l.any fun x => x.toList == s.toList
theorem inR_snoc {s : ByteArray} {l : List ByteArray} {j : Nat} (hj : j < l.length) (h : inR s (l.take j) = false) : inR s (l.take (j + 1)) = (l[j].toList == s.toList) := by
  unfold inR at *
  rw [List.take_succ_eq_append_getElem hj, List.any_append, h]
  simp
theorem inR_take {s : ByteArray} {l : List ByteArray} {j : Nat} (h : inR s (l.take j) = true) : inR s l = true := by
  unfold inR at *
  obtain ⟨x, hx, h⟩ := List.any_eq_true.1 h
  exact List.any_eq_true.2 ⟨x, List.mem_of_mem_take hx, h⟩
set_option maxRecDepth 100000 in
set_option maxHeartbeats 1600000 in
theorem refIn_any (s : ByteArray) {B : Nat} {W : World} {v : Value} {l : List ByteArray} (h : Sts B W v l) (hl : l.length ≤ 1000000) :
    Calls Try.prog 58 #[v, .string s] W fun e w' => e = .returned (.bool (inR s l)) ∧ w' = W := by
  have hlen := h.len
  obtain ⟨a0, cap0, hv⟩ := hlen
  have HP := Lib.hid h
  clear h
  subst hv
  obtain ⟨R, hR⟩ : ∃ R, inR s l = R := ⟨_, rfl⟩
  have HR := Lib.hid hR
  rw [hR]
  clear hR
  go_enter Try.func58, Try.ntmps58
  go_wp2_with fail
  go_loop [8] (fun c => ∃ j : Nat, j ≤ l.length ∧ c = .int .i64 j ∧ inR s (l.take j) = false) (fun c => l.length - (intOf c).toNat)
  case atStart => exact ⟨0, by omega, rfl, rfl⟩
  case round =>
    obtain ⟨j, hj, rfl, hF⟩ := hrel
    have HF := Lib.hid hF; clear hF
    by_cases hlt : j < l.length
    · obtain ⟨g, cap, e1, h1, h2, hc⟩ := HP.out.at hlt
      have c0 := hc W (Below.refl _ _)
      simp only [Value.slice.injEq] at e1
      obtain ⟨rfl, -, rfl⟩ := e1
      clear hc
      have HS := Lib.hid (inR_snoc hlt HF.out)
      generalize l[j] = p at *
      have hx : (p.toList == s.toList) = true ∨ (p.toList == s.toList) = false := by cases (p.toList == s.toList) <;> simp
      rcases hx with hx | hx
      · have HE : Hid (R = true) := Lib.hid (by rw [← HR.out]; exact inR_take (HS.out.trans hx))
        go_wp2_with fail
        go_ret
        exact ⟨by rw [HE.out]; rfl, rfl⟩
      · have HE : Hid (inR s (l.take (j + 1)) = false) := Lib.hid (HS.out.trans hx)
        go_wp2_with fail
        go_round
        case rel => exact ⟨j + 1, by omega, by go_num, HE.out⟩
        case measure => simp [intOf]; omega
    · obtain rfl : j = l.length := by omega
      have HE : Hid (R = false) := Lib.hid (by rw [← HR.out]; have := HF.out; rwa [List.take_length] at this)
      go_wp2_with fail
      go_ret
      exact ⟨by rw [HE.out]; rfl, rfl⟩

/-- The ID of a name. -/
def findR (s : ByteArray) (l : List (ByteArray × Int)) : Option (ByteArray × Int) := l.find? fun x => x.1.toList == s.toList
def findV : Option (ByteArray × Int) → Value
  | some p => .tuple #[.int .i64 p.2, .bool true]
  | none => .tuple #[.int .i64 0, .bool false]
theorem findR_snoc {s : ByteArray} {l : List (ByteArray × Int)} {j : Nat} (hj : j < l.length) (h : findR s (l.take j) = none) : findR s (l.take (j + 1)) = if (l[j].1.toList == s.toList) = true then some l[j] else none := by
  unfold findR at *
  rw [List.take_succ_eq_append_getElem hj, List.find?_append, h]
  simp only [Option.none_or, List.find?_cons, List.find?_nil]
  cases (l[j].1.toList == s.toList) <;> rfl
theorem findR_take {s : ByteArray} {l : List (ByteArray × Int)} {j : Nat} {p : ByteArray × Int} (h : findR s (l.take j) = some p) : findR s l = some p := by
  unfold findR at *
  rw [← List.take_append_drop j l, List.find?_append, h]; rfl
set_option maxRecDepth 100000 in
set_option maxHeartbeats 1600000 in
theorem refFind_any (s : ByteArray) {B : Nat} {W : World} {v : Value} {l : List (ByteArray × Int)} (h : Prs B W v l) (hl : l.length ≤ 1000000) :
    Calls Try.prog 18 #[v, .string s] W fun e w' => e = .returned (findV (findR s l)) ∧ w' = W := by
  have hlen := h.len
  obtain ⟨a0, cap0, hv⟩ := hlen
  have HP := Lib.hid h
  clear h
  subst hv
  obtain ⟨R, hR⟩ : ∃ R, findR s l = R := ⟨_, rfl⟩
  have HR := Lib.hid hR
  rw [hR]
  clear hR
  go_enter Try.func18, Try.ntmps18
  go_wp2_with fail
  go_loop [9] (fun c => ∃ j : Nat, j ≤ l.length ∧ c = .int .i64 j ∧ findR s (l.take j) = none) (fun c => l.length - (intOf c).toNat)
  case atStart => exact ⟨0, by omega, rfl, rfl⟩
  case round =>
    obtain ⟨j, hj, rfl, hF⟩ := hrel
    have HF := Lib.hid hF; clear hF
    by_cases hlt : j < l.length
    · obtain ⟨g, cap, e1, h1, h2, hc⟩ := HP.out.at hlt
      obtain ⟨c0, c1⟩ := hc W (Below.refl _ _) j hlt
      simp only [Value.slice.injEq] at e1
      obtain ⟨rfl, -, rfl⟩ := e1
      clear hc
      have HS := Lib.hid (findR_snoc hlt HF.out)
      generalize l[j] = p at *
      have hx : (p.1.toList == s.toList) = true ∨ (p.1.toList == s.toList) = false := by cases (p.1.toList == s.toList) <;> simp
      rcases hx with hx | hx
      · have HE : Hid (R = some p) := Lib.hid (by rw [← HR.out]; exact findR_take (HS.out.trans (if_pos hx)))
        go_wp2_with fail
        go_ret2
        exact ⟨by rw [HE.out]; rfl, rfl⟩
      · have HE : Hid (findR s (l.take (j + 1)) = none) := Lib.hid (HS.out.trans (if_neg (by rw [hx]; simp)))
        go_wp2_with fail
        go_round
        case rel => exact ⟨j + 1, by omega, by go_num, HE.out⟩
        case measure => simp [intOf]; omega
    · obtain rfl : j = l.length := by omega
      have HE : Hid (R = none) := Lib.hid (by rw [← HR.out]; have := HF.out; rwa [List.take_length] at this)
      go_wp2_with fail
      go_ret2
      exact ⟨by rw [HE.out]; rfl, rfl⟩
set_option maxRecDepth 100000 in
theorem refValid_any (W : World) (s : ByteArray) (hs : s.size ≤ 9223372036854775807) :
    Calls Try.prog 19 #[.string s] W fun e w' => e = .returned (.bool (decide (1 ≤ s.size ∧ s.size ≤ 32))) ∧ w' = W := by
  by_cases h1 : 1 ≤ s.size
  · have h1i : (1 : Int) ≤ (s.size : Int) := by omega
    by_cases h2 : s.size ≤ 32
    · have h2i : (s.size : Int) ≤ 32 := by omega
      go_enter Try.func19, Try.ntmps19
      go_wp2_with fail
      go_ret
      exact ⟨congrArg (fun b => Ending.returned (Value.bool b)) (by simp [h1, h2]), rfl⟩
    · have h2i : ¬ (s.size : Int) ≤ 32 := by omega
      go_enter Try.func19, Try.ntmps19
      go_wp2_with fail
      go_ret
      exact ⟨congrArg (fun b => Ending.returned (Value.bool b)) (by simp [h2]; try omega), rfl⟩
  · have h1i : ¬ (1 : Int) ≤ (s.size : Int) := by omega
    go_enter Try.func19, Try.ntmps19
    go_wp2_with fail
    go_ret
    exact ⟨congrArg (fun b => Ending.returned (Value.bool b)) (by simp [h1]; try omega), rfl⟩
end S
end Go.Proofs.Ytlfodhejpbjfcaa
