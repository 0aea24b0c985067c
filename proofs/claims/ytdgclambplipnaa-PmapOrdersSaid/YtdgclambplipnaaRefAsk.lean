/- The reference's questions: Ceil, Get. -/
import Derived.Test.YtdgclambplipnaaRef
import Derived.Test.YtdgclambplipnaaMore
import Derived.Deep.QuietTactic
import Derived.BigQuiet
namespace Go.Proofs.Ytdgclambplipnaa
open Go.RowKit

def ceilR (k : ByteArray) (l : List (ByteArray × Int)) : Nat := (l.takeWhile fun p => Op.bytesLess p.1.toList k.toList).length
theorem takeWhile_step {α : Type} {f : α → Bool} : ∀ {l : List α} {j : Nat}, j ≤ (l.takeWhile f).length → (∀ h : j < l.length, f l[j] = true → j + 1 ≤ (l.takeWhile f).length) ∧ (∀ h : j < l.length, f l[j] = false → j = (l.takeWhile f).length) ∧ (j = l.length → j = (l.takeWhile f).length)
  | [], j, h => by simp at h; subst h; simp
  | a :: l, 0, h => by
    refine ⟨fun _ h1 => ?_, fun _ h1 => ?_, fun h1 => by simp at h1⟩
    · simp only [List.getElem_cons_zero] at h1; simp [h1]
    · simp only [List.getElem_cons_zero] at h1; simp [h1]
  | a :: l, j + 1, h => by
    have ha : f a = true := by
      cases e : f a with
      | true => rfl
      | false => simp [e] at h
    simp only [List.takeWhile_cons, ha, if_true, List.length_cons] at h ⊢
    obtain ⟨h1, h2, h3⟩ := takeWhile_step (f := f) (l := l) (j := j) (by omega)
    refine ⟨fun hj hf => ?_, fun hj hf => ?_, fun hj => ?_⟩
    · have := h1 (by simpa using hj) (by simpa using hf); omega
    · have := h2 (by simpa using hj) (by simpa using hf); omega
    · have := h3 (by omega); omega
theorem ceilR_le (k : ByteArray) (l : List (ByteArray × Int)) : ceilR k l ≤ l.length := (List.takeWhile_sublist _).length_le

set_option maxRecDepth 100000 in
set_option maxHeartbeats 1600000 in
theorem refCeil_any (k : ByteArray) {W : World} {v : Value} {l : List (ByteArray × Int)} (h : Prs 0 W v l) (hl : l.length ≤ 1000000) :
    Calls Try.prog 20 #[v, .string k] W fun e w' => e = .returned (.int .i64 (ceilR k l)) ∧ W = w' := by
  have hlen := h.len
  obtain ⟨a0, cap0, hv⟩ := hlen
  have HP := Lib.hid h
  clear h
  subst hv
  go_enter Try.func20, Try.ntmps20
  go_wp2_with fail
  go_loop [5] (fun c => ∃ j : Nat, j ≤ ceilR k l ∧ c = .int .i64 j) (fun c => l.length - (intOf c).toNat)
  case atStart => exact ⟨0, by omega, rfl⟩
  case round =>
    obtain ⟨j, hj, rfl⟩ := hrel
    have hj2 : j ≤ l.length := Nat.le_trans hj (ceilR_le k l)
    obtain ⟨s1, s2, s3⟩ := takeWhile_step (f := fun p : ByteArray × Int => Op.bytesLess p.1.toList k.toList) hj
    by_cases hlt : j < l.length
    · obtain ⟨g, cap, e1, h1, h2, hc⟩ := HP.out.at hlt
      obtain ⟨c0, c1⟩ := hc W (Below.refl _ _) j hlt
      simp only [Value.slice.injEq] at e1
      obtain ⟨rfl, -, rfl⟩ := e1
      have S1 := Lib.hid (s1 hlt); have S2 := Lib.hid (s2 hlt)
      clear hc s1 s2 s3 c1 hj
      generalize l[j] = p at *
      have hb : Op.bytesLess p.1.toList k.toList = true ∨ Op.bytesLess p.1.toList k.toList = false := by cases Op.bytesLess p.1.toList k.toList <;> simp
      rcases hb with hb | hb
      · go_wp2_with fail
        go_round
        case rel => exact ⟨j + 1, S1.out hb, by go_num⟩
        case measure => simp [intOf]; omega
      · have HE := Lib.hid (S2.out hb)
        go_wp2_with fail
        go_ret
        exact ⟨by rw [HE.out]; rfl, rfl⟩
    · have HE := Lib.hid (s3 (by omega))
      clear s1 s2 s3 hj
      have hbf : decide (j < l.length) = false := by simpa using hlt
      go_wp2_with fail
      go_ret
      exact ⟨by rw [HE.out]; rfl, rfl⟩

/-- What the reference's Get returns. -/
def getR (k : ByteArray) (l : List (ByteArray × Int)) : Int × Bool :=
  match l[ceilR k l]? with
  | some p => if p.1.toList == k.toList then (p.2, true) else (0, false)
  | none => (0, false)
def getRV (r : Int × Bool) : Value := .tuple #[.int .i64 r.1, .bool r.2]

set_option maxRecDepth 100000 in
set_option maxHeartbeats 1600000 in
theorem refGet_any (k : ByteArray) {W : World} {v : Value} {l : List (ByteArray × Int)} (h : Prs 0 W v l) (hl : l.length ≤ 1000000) :
    Calls Try.prog 60 #[v, .string k] W fun e w' => e = .returned (getRV (getR k l)) ∧ Below W.heap.size W w' := by
  have HC := Lib.hid (refCeil_any k h hl)
  have hlen := h.len
  obtain ⟨a0, cap0, hv⟩ := hlen
  have HP := Lib.hid h
  clear h
  subst hv
  go_enter Try.func60, Try.ntmps60
  go_wp2_with fail
  refine HC.out.mono ?_; rintro e w' ⟨rfl, rfl⟩
  have hle := ceilR_le k l
  by_cases hlt : ceilR k l < l.length
  · obtain ⟨g, cap, e1, h1, h2, hc⟩ := HP.out.at hlt
    obtain ⟨c0, c1⟩ := hc W (Below.refl _ _) _ hlt
    simp only [Value.slice.injEq] at e1
    obtain ⟨rfl, -, rfl⟩ := e1
    have hx : (l[ceilR k l].1.toList == k.toList) = true ∨ (l[ceilR k l].1.toList == k.toList) = false := by cases (l[ceilR k l].1.toList == k.toList) <;> simp
    have eR : getR k l = if l[ceilR k l].1.toList == k.toList then (l[ceilR k l].2, true) else (0, false) := by unfold getR; rw [List.getElem?_eq_getElem hlt]
    have ER := Lib.hid eR
    clear hc eR
    generalize l[ceilR k l] = p at *
    generalize ceilR k l = i at *
    rcases hx with hx | hx
    · go_wp2_with fail
      try go_quiet (fail)
      go_wp2_with fail
      go_ret2
      exact ⟨by rw [ER.out, if_pos hx]; rfl, by first | exact Below.refl _ _ | exact Below.drewN' _ _ _⟩
    · go_wp2_with fail
      try go_quiet (fail)
      go_wp2_with fail
      go_ret2
      exact ⟨by rw [ER.out, if_neg (by rw [hx]; simp)]; rfl, by first | exact Below.refl _ _ | exact Below.drewN' _ _ _⟩
  · have ER : Hid (getR k l = (0, false)) := by
      refine Lib.hid ?_
      unfold getR; rw [List.getElem?_eq_none (by omega)]
    generalize ceilR k l = i at *
    have hbf : decide (i < l.length) = false := by simpa using hlt
    go_wp2_with fail
    go_ret2
    exact ⟨by rw [ER.out]; rfl, Below.refl _ _⟩
end Go.Proofs.Ytdgclambplipnaa
