/- The reference's One makes what the program makes. No walk. -/
import Derived.Test.YtjbllcakaljpgaaRefSt0
namespace Go.Proofs.Ytjbllcakaljpgaa
open Go.RowKit
namespace M
theorem int_eqI {t : TypeId} {q : IntKind} (ht : Try.prog.underlying t = some (.int q)) (d : Nat) (x y : Nat) (w : World) : (Op.equalIn (d + 1) t (.int q x) (.int q y)).run Try.prog w = .ok (decide (x = y)) w := by
  have h : ((x : Int) == (y : Int)) = decide (x = y) := by
    by_cases h : x = y
    · subst h; simp
    · rw [decide_eq_false h]; simp; omega
  simp [Op.equalIn, run_underlying (P := Try.prog) ht, h]
set_option maxHeartbeats 4000000 in
theorem ru_eq (a b : Ru) (w : World) : (Op.equal 115 (ruV a) (ruV b)).run Try.prog w = .ok (decide (a = b)) w := by
  have h : ∀ d w, (Op.equalIn (d + 2) 115 (ruV a) (ruV b)).run Try.prog w = .ok (decide (a = b)) w := fun d w => by
    have p0 : ∀ (x0 x1 x2 x3 x4 : Int) (w : World), (part 3 #[.int .i64 x0, .int .u8 x1, .int .i64 x2, .int .i64 x3, .int .i64 x4] 0).run Try.prog w = .ok (.int .i64 x0) w := fun _ _ _ _ _ _ => by kernel_rfl
    have p1 : ∀ (x0 x1 x2 x3 x4 : Int) (w : World), (part 5 #[.int .i64 x0, .int .u8 x1, .int .i64 x2, .int .i64 x3, .int .i64 x4] 1).run Try.prog w = .ok (.int .u8 x1) w := fun _ _ _ _ _ _ => by kernel_rfl
    have p2 : ∀ (x0 x1 x2 x3 x4 : Int) (w : World), (part 26 #[.int .i64 x0, .int .u8 x1, .int .i64 x2, .int .i64 x3, .int .i64 x4] 2).run Try.prog w = .ok (.int .i64 x2) w := fun _ _ _ _ _ _ => by kernel_rfl
    have p3 : ∀ (x0 x1 x2 x3 x4 : Int) (w : World), (part 26 #[.int .i64 x0, .int .u8 x1, .int .i64 x2, .int .i64 x3, .int .i64 x4] 3).run Try.prog w = .ok (.int .i64 x3) w := fun _ _ _ _ _ _ => by kernel_rfl
    have p4 : ∀ (x0 x1 x2 x3 x4 : Int) (w : World), (part 3 #[.int .i64 x0, .int .u8 x1, .int .i64 x2, .int .i64 x3, .int .i64 x4] 4).run Try.prog w = .ok (.int .i64 x4) w := fun _ _ _ _ _ _ => by kernel_rfl
    have i0 := int_eqI Try.underlying3 d
    have i1 := int_eqI Try.underlying5 d
    have i2 := int_eqI Try.underlying26 d
    have hd : decide (a = b) = (decide (a.kind = b.kind) && (decide (a.letter = b.letter) && (decide (a.left = b.left) && (decide (a.right = b.right) && decide (a.times = b.times))))) := by
      obtain ⟨a1, a2, a3, a4, a5⟩ := a
      obtain ⟨b1, b2, b3, b4, b5⟩ := b
      simp [Bool.decide_and]
    rw [hd]
    rw [Op.equalIn]
    by_cases k1 : a.kind = b.kind <;> by_cases k2 : a.letter = b.letter <;> by_cases k3 : a.left = b.left <;> by_cases k4 : a.right = b.right <;> by_cases k5 : a.times = b.times <;>
      simp [run_underlying (P := Try.prog) Try.underlying115, Sem.run_bind, p0, p1, p2, p3, p4, i0, i1, i2, k1, k2, k3, k4, k5]
  simp [Op.equal, Op.maxDepth, h 9998]
end M
end Go.Proofs.Ytjbllcakaljpgaa
namespace Go.Proofs.Ytjbllcakaljpgaa
open Go.RowKit
namespace M
/-- A Make. -/
structure Mk where
  kind : Int
  letter : Nat
  left : Int
  right : Int
  times : Int
def pk (n : Int) (m : Nat) : Nat := (n % (m : Int)).toNat
theorem pk_lt (n : Int) {m : Nat} (h : 0 < m) : pk n m < m := by
  unfold pk
  have h1 := Int.emod_nonneg n (show (m : Int) ≠ 0 by omega)
  have h2 := Int.emod_lt_of_pos n (show (0 : Int) < m by omega)
  omega
def resAt (R : List Nat) (n : Int) : Nat := (R[pk n R.length]?).getD 0
/-- One Make: the store, the result. -/
def oneF (E : List En) (R : List Nat) (m : Mk) : List En × Nat :=
  if pk m.kind 4 = 0 then addF E (letE m.letter)
  else if pk m.kind 4 = 3 then ((powF E (resAt R m.left) (max m.times 0).toNat).1, (powF E (resAt R m.left) (max m.times 0).toNat).2.1)
  else ((pairF E (resAt R m.left) (resAt R m.right)).1, (pairF E (resAt R m.left) (resAt R m.right)).2.1)
/-- All of them. -/
def bldF : List Mk → List En → List Nat → List En × List Nat
  | [], E, R => (E, R)
  | m :: L, E, R => bldF L (oneF E R m).1 (R ++ [(oneF E R m).2])
theorem resAt_le {R : List Nat} {n : Nat} (h : ∀ x ∈ R, x ≤ n) (i : Int) : resAt R i ≤ n := by
  unfold resAt
  cases hx : R[pk i R.length]? with
  | none => simp
  | some x => exact h x (List.mem_of_getElem? hx)
theorem oneF_wf {E : List En} (h : Wf E) {R : List Nat} (hR : ∀ x ∈ R, x ≤ E.length) {m : Mk} (hl : m.letter < 256) : Wf (oneF E R m).1 ∧ (oneF E R m).1.length ≤ E.length + 1 ∧ E.length ≤ (oneF E R m).1.length ∧ (oneF E R m).2 ≤ (oneF E R m).1.length := by
  unfold oneF
  split
  · have := addF_wf h (letE_ok E hl)
    exact ⟨this.1, this.2.1, by unfold addF; split <;> simp, this.2.2.2⟩
  · split
    · exact powF_wf h (resAt_le hR m.left)
    · exact pairF_wf h (resAt_le hR m.left) (resAt_le hR m.right)
theorem bldF_wf : ∀ (L : List Mk) {E : List En} {R : List Nat}, Wf E → (∀ x ∈ R, x ≤ E.length) → (∀ m ∈ L, m.letter < 256) → Wf (bldF L E R).1 ∧ (bldF L E R).1.length ≤ E.length + L.length ∧ (bldF L E R).2.length = R.length + L.length ∧ ∀ x ∈ (bldF L E R).2, x ≤ (bldF L E R).1.length
  | [], E, R, h, hR, _ => ⟨h, by simp [bldF], by simp [bldF], hR⟩
  | m :: L, E, R, h, hR, hm => by
    obtain ⟨a, b, c, d⟩ := oneF_wf h hR (m := m) (hm m (List.mem_cons_self ..))
    have ih := bldF_wf L (E := (oneF E R m).1) (R := R ++ [(oneF E R m).2]) a (fun x hx => by
      rcases List.mem_append.1 hx with hx | hx
      · exact Nat.le_trans (hR x hx) c
      · simp only [List.mem_singleton] at hx; subst hx; exact d) (fun x hx => hm x (List.mem_cons_of_mem _ hx))
    obtain ⟨i1, i2, i3, i4⟩ := ih
    refine ⟨i1, ?_, ?_, i4⟩
    · show (bldF L _ _).1.length ≤ _
      simp only [List.length_cons]; omega
    · show (bldF L _ _).2.length = _
      rw [i3]; simp; omega
end M
end Go.Proofs.Ytjbllcakaljpgaa
namespace Go.Proofs.Ytjbllcakaljpgaa
open Go.RowKit
namespace M
def fidL (r : Ru) : Nat → List Ru → Nat
  | _, [] => 0
  | n, a :: R => if a = r then n else fidL r (n + 1) R
def addR (R : List Ru) (L : List Nat) (r : Ru) (n : Nat) : (List Ru × List Nat) × Nat := if fidL r 1 R = 0 then ((R ++ [r], L ++ [n]), R.length + 1) else ((R, L), fidL r 1 R)
/-- The reference's One. -/
def oneR (R : List Ru) (L : List Nat) (S : List Nat) (m : Mk) : (List Ru × List Nat) × Nat :=
  if pk m.kind 4 = 0 then addR R L ⟨1, m.letter, 0, 0, 0⟩ 1
  else if pk m.kind 4 = 3 then
    (if resAt S m.left = 0 ∨ m.times ≤ 0 ∨ m.times > ((1152921504606846976 / lenAt L (resAt S m.left) : Nat) : Int) then ((R, L), 0) else if m.times = 1 then ((R, L), resAt S m.left) else addR R L ⟨3, 0, resAt S m.left, 0, m.times.toNat⟩ (lenAt L (resAt S m.left) * m.times.toNat))
  else if resAt S m.left = 0 then ((R, L), resAt S m.right) else if resAt S m.right = 0 then ((R, L), resAt S m.left)
  else if lenAt L (resAt S m.left) > 1152921504606846976 - lenAt L (resAt S m.right) then ((R, L), 0) else addR R L ⟨2, 0, resAt S m.left, resAt S m.right, 0⟩ (lenAt L (resAt S m.left) + lenAt L (resAt S m.right))
theorem fidL_map (r : Ru) : ∀ (n : Nat) (E : List En), fidL r n (E.map En.ru) = fid r n E
  | _, [] => rfl
  | n, e :: E => by
    rw [List.map_cons, fidL, fid, fidL_map r (n + 1) E]
def lens (E : List En) : List Nat := E.map fun e => e.w.len
theorem lenAt_map (E : List En) {i : Nat} (hi : i ≤ E.length) : lenAt (lens E) i = (entAt E i).w.len := by
  unfold lenAt lens entAt
  by_cases h : i = 0
  · rw [if_pos h, if_pos h]; rfl
  · rw [if_neg h, if_neg h, List.getElem?_map, List.getElem?_eq_getElem (by omega)]; rfl
theorem addR_same (E : List En) (e : En) {n : Nat} (hn : n = e.w.len) : addR (E.map En.ru) (lens E) e.ru n = (((addF E e).1.map En.ru, lens (addF E e).1), (addF E e).2) := by
  unfold addR addF
  rw [fidL_map]
  split
  · simp [lens, hn]
  · rfl
theorem one_same {E : List En} (h : Wf E) {S : List Nat} (hS : ∀ x ∈ S, x ≤ E.length) (m : Mk) : oneR (E.map En.ru) (lens E) S m = (((oneF E S m).1.map En.ru, lens (oneF E S m).1), (oneF E S m).2) := by
  have hl := resAt_le hS m.left
  have hr := resAt_le hS m.right
  unfold oneR oneF
  by_cases k0 : pk m.kind 4 = 0
  · rw [if_pos k0, if_pos k0]
    exact addR_same E (letE m.letter) rfl
  · rw [if_neg k0, if_neg k0]
    by_cases k3 : pk m.kind 4 = 3
    · rw [if_pos k3, if_pos k3, lenAt_map E hl]
      generalize resAt S m.left = l at *
      unfold powF
      by_cases h0 : l = 0
      · rw [if_pos (.inl h0), if_pos (.inr h0)]
      · by_cases ht : m.times ≤ 0
        · rw [if_pos (.inr (.inl ht)), if_pos (.inl (by omega))]
        · obtain ⟨g1, g2, g3, g4⟩ := h.get l (by omega) hl
          have hlen : (entAt E l).w.len = (txt E l).length := by rw [g1]; rfl
          have hpos : 0 < (entAt E l).w.len := by rw [hlen]; exact g3
          obtain ⟨k, hk⟩ : ∃ k : Nat, m.times = (k : Int) := ⟨m.times.toNat, by omega⟩
          have e1 : (max m.times 0).toNat = k := by omega
          have e2 : m.times.toNat = k := by omega
          rw [e1, e2, hk]
          have hdiv : ((k : Int) > ((1152921504606846976 / (entAt E l).w.len : Nat) : Int)) ↔ ¬ (entAt E l).w.len * k ≤ 1152921504606846976 := by
            rw [Nat.mul_comm, ← Nat.le_div_iff_mul_le hpos]; omega
          rw [if_neg (show ¬ (k = 0 ∨ l = 0) by omega)]
          by_cases hs : (entAt E l).w.len * k ≤ 1152921504606846976
          · rw [if_neg (show ¬ (l = 0 ∨ (k : Int) ≤ 0 ∨ (k : Int) > ((1152921504606846976 / (entAt E l).w.len : Nat) : Int)) by rw [hdiv]; omega)]
            by_cases h1 : k = 1
            · rw [if_pos (by omega), if_pos h1]
            · rw [if_neg (by omega), if_neg h1, if_pos hs]
              refine addR_same E (powE E l k) ?_
              show _ = (rep k (txt E l)).length
              rw [rep_length, hlen, Nat.mul_comm]
          · rw [if_pos (.inr (.inr (hdiv.2 hs))), if_neg (show ¬ k = 1 from fun e => hs (by rw [e, Nat.mul_one, hlen]; exact g2)), if_neg hs]
    · rw [if_neg k3, if_neg k3, lenAt_map E hl, lenAt_map E hr]
      generalize resAt S m.left = l at *
      generalize resAt S m.right = r at *
      unfold pairF
      by_cases h0 : l = 0
      · rw [if_pos h0, if_pos h0]
      · rw [if_neg h0, if_neg h0]
        by_cases h1 : r = 0
        · rw [if_pos h1, if_pos h1]
        · rw [if_neg h1, if_neg h1]
          obtain ⟨g1, g2, g3, g4⟩ := h.get r (by omega) hr
          have hlen : (entAt E r).w.len = (txt E r).length := by rw [g1]; rfl
          by_cases hs : (entAt E l).w.len + (entAt E r).w.len ≤ 1152921504606846976
          · rw [if_neg (by omega), if_pos hs]
            exact addR_same E (pairE E l r) rfl
          · rw [if_pos (by omega), if_neg hs]
end M
end Go.Proofs.Ytjbllcakaljpgaa
