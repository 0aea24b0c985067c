/- What the calls on a transaction with a log do to the whole. No walk. -/
import Derived.Test.YtlfodhejpbjfcaaSerA
set_option linter.unusedVariables false
set_option linter.unusedSimpArgs false
namespace Go.Proofs.Ytlfodhejpbjfcaa
open Go.RowKit
namespace S
theorem okA_snoc {A : List (ActS × Int)} {a : ActS × Int} (h : ∀ b ∈ A, OkA b) (ha : OkA a) : ∀ b ∈ A ++ [a], OkA b := fun b hb => by
  rcases List.mem_append.1 hb with h1 | h1
  · exact h b h1
  · simp only [List.mem_singleton] at h1; subst h1; exact ha
/-- The next state: slot k has turned. -/
def NextS (K lo : Nat) (W w' : World) (p : Nat) (X : Bx) (Vs : List Ver) (m : Sl) (rs : Nat → R5) (f : Slots3) (k : Nat) (x : Tx) (A : List (ActS × Int)) : Prop :=
  (∃ t, SerAt (K + 1) lo w' p X Vs m rs (up f k (some (x, t, A)))) ∧ Rest lo W w'
section
variable {K lo p k : Nat} {W : World} {X : Bx} {Vs : List Ver} {m : Sl} {rs : Nat → R5} {f : Slots3} {x : Tx} {t : RT} {A : List (ActS × Int)}
theorem ser_get (hP : SerAt K lo W p X Vs m rs f) (hK : K ≤ 60) (hk : k < 4) (hf : f k = some (x, t, A)) {kd tx : Nat} (hkd : kd % 6 = 1) (s : ByteArray) (z : Int) (hok : OkA ((kd, tx, s, z), 0)) :
    Calls Try.prog 17 #[.pointer (some ⟨x.t, 0, none⟩), .string s] W fun e w' => e = .returned (.tuple #[.int .i64 (getR x.d x.ch x.T s).1, errV (getR x.d x.ch x.T s).2]) ∧
      NextS K lo W w' p X Vs m rs f k { x with rd := readG x.d x.rd x.ch s } (A ++ [((kd, tx, s, z), sawG (getR x.d x.ch x.T s))]) := by
  have hP' := hP
  obtain ⟨h1, h2, h3, h4, h5, h6, h7⟩ := hP
  obtain ⟨s1, s2, s3, s4, s5, s6, s7, s8, s9⟩ := h6 k hk _ hf
  dsimp only at *
  obtain ⟨z1, z2, z3, z4, z5⟩ := s4
  refine (tx_get h2 s1 s2 s (by have := hok.2.2; unfold maxLen at this; exact this) (by omega)).mono ?_
  rintro e w1 ⟨rfl, hL⟩
  have hR := getRT_eq t s
  have hrl := readG_len x.d x.rd x.ch s
  have := hP'.step (x' := { x with rd := readG x.d x.rd x.ch s }) (A' := A ++ [((kd, tx, s, z), sawG (getR x.d x.ch x.T s))]) hk hf hL rfl rfl rfl rfl rfl h3 (Int.le_refl _) (inv_get s3 s).2 ⟨by dsimp only; omega, by dsimp only; omega, by rw [hR.1]; dsimp only; omega, by omega, by rw [hR.1]; dsimp only; omega⟩ (h4.mono (by omega)) (fun _ h => h) s5 (fun hd => rep_get s3 hd (s6 hd) hkd s z) (by simp; exact s8) (okA_snoc s9 hok)
  exact ⟨rfl, ⟨_, this.1⟩, this.2⟩
theorem ser_put (hP : SerAt K lo W p X Vs m rs f) (hK : K ≤ 60) (hk : k < 4) (hf : f k = some (x, t, A)) {kd tx : Nat} (hkd : kd % 6 = 2 ∨ kd % 6 = 3) (s : ByteArray) (z : Int) (hok : OkA ((kd, tx, s, z), 0)) :
    Calls Try.prog 24 #[.pointer (some ⟨x.t, 0, none⟩), .string s, .int .i64 z] W fun e w' => e = .returned (errV (chk x.d s)) ∧
      NextS K lo W w' p X Vs m rs f k { x with ch := putN x.d x.ch s z } (A ++ [((kd, tx, s, z), chk x.d s)]) := by
  have hP' := hP
  obtain ⟨h1, h2, h3, h4, h5, h6, h7⟩ := hP
  obtain ⟨s1, s2, s3, s4, s5, s6, s7, s8, s9⟩ := h6 k hk _ hf
  dsimp only at *
  obtain ⟨z1, z2, z3, z4, z5⟩ := s4
  refine (tx_put h2 s1 s2 s z (by have := hok.2.2; unfold maxLen at this; exact this) (by omega)).mono ?_
  rintro e w1 ⟨rfl, hL⟩
  have hR := chgRT_len t s z false
  have hrl := putN_len x.d x.ch s z
  have := hP'.step (x' := { x with ch := putN x.d x.ch s z }) (A' := A ++ [((kd, tx, s, z), chk x.d s)]) hk hf hL rfl rfl rfl rfl rfl h3 (Int.le_refl _) (inv_put s3 s z).2 ⟨by dsimp only; omega, by dsimp only; omega, by omega, by omega, by omega⟩ (h4.mono (by omega)) (fun _ h => h) s5 (fun hd => rep_put (x := x) hd (s6 hd) hkd s z) (by simp; exact s8) (okA_snoc s9 hok)
  exact ⟨rfl, ⟨_, this.1⟩, this.2⟩
theorem ser_drop (hP : SerAt K lo W p X Vs m rs f) (hK : K ≤ 60) (hk : k < 4) (hf : f k = some (x, t, A)) {kd tx : Nat} (hkd : kd % 6 = 4) (s : ByteArray) (z : Int) (hok : OkA ((kd, tx, s, z), 0)) :
    Calls Try.prog 25 #[.pointer (some ⟨x.t, 0, none⟩), .string s] W fun e w' => e = .returned (errV (dropE x.d x.ch x.T s)) ∧
      NextS K lo W w' p X Vs m rs f k { x with rd := readG x.d x.rd x.ch s, ch := dropN x.d x.ch x.T s } (A ++ [((kd, tx, s, z), dropE x.d x.ch x.T s)]) := by
  have hP' := hP
  obtain ⟨h1, h2, h3, h4, h5, h6, h7⟩ := hP
  obtain ⟨s1, s2, s3, s4, s5, s6, s7, s8, s9⟩ := h6 k hk _ hf
  dsimp only at *
  obtain ⟨z1, z2, z3, z4, z5⟩ := s4
  refine (tx_drop h2 s1 s2 s (by have := hok.2.2; unfold maxLen at this; exact this) (by omega) (by omega)).mono ?_
  rintro e w1 ⟨rfl, hL⟩
  have hR := chgRT_len t s z true
  have hrl := dropN_len x.d x.ch x.T s
  have hrr := readG_len x.d x.rd x.ch s
  have := hP'.step (x' := { x with rd := readG x.d x.rd x.ch s, ch := dropN x.d x.ch x.T s }) (A' := A ++ [((kd, tx, s, z), dropE x.d x.ch x.T s)]) hk hf hL rfl rfl rfl rfl rfl h3 (Int.le_refl _) (inv_drop s3 s z).2 ⟨by dsimp only; omega, by dsimp only; omega, by omega, by omega, by omega⟩ (h4.mono (by omega)) (fun _ h => h) s5 (fun hd => rep_drop s3 hd (s6 hd) hkd s z) (by simp; exact s8) (okA_snoc s9 hok)
  exact ⟨rfl, ⟨_, this.1⟩, this.2⟩
theorem histT_commit {x : Tx} {Vs : List Ver} {t : RT} (h : HistT Vs x) : HistT (commitR Vs t).1 x := by
  unfold commitR
  split
  · exact h
  · split
    · exact h
    · split
      · exact h
      · exact histT_snoc h _
/-- What Commit leaves: the number, the code. -/
def CommitS (K lo : Nat) (W w' : World) (p : Nat) (X : Bx) (m : Sl) (rs : Nat → R5) (f : Slots3) (k : Nat) (x : Tx) (A : List (ActS × Int)) (n c : Int) : Prop :=
  ∃ X' Vs', X'.b = X.b ∧ NextS K lo W w' p X' Vs' m rs f k { x with d := true } A ∧
    ((c ≠ 0 ∧ X'.T.toList = X.T.toList) ∨ (c = 0 ∧ n = x.n ∧ X'.T.toList = X.T.toList) ∨ (c = 0 ∧ n ≠ x.n ∧ n = X'.N ∧ repN X.T.toList A = some X'.T.toList))
theorem ser_commit (hP : SerAt K lo W p X Vs m rs f) (hK : K ≤ 60) (hk : k < 4) (hf : f k = some (x, t, A)) :
    Calls Try.prog 20 #[.pointer (some ⟨x.t, 0, none⟩)] W fun e w' => ∃ n c, e = .returned (.tuple #[.int .i64 n, errV c]) ∧ CommitS K lo W w' p X m rs f k x A n c := by
  have hP' := hP
  obtain ⟨h1, h2, h3, h4, h5, h6, h7⟩ := hP
  obtain ⟨s1, s2, s3, s4, s5, s6, s7, s8, s9⟩ := h6 k hk _ hf
  dsimp only at *
  have hZ := s4
  have hZB := h4
  obtain ⟨z1, z2, z3, z4, z5⟩ := s4
  obtain ⟨b1, b2, b3, b4⟩ := h4
  have hnum := h3.num; have hpos := h3.pos; have hlo := s3.lo; have hhi := s3.hi
  have hnd : (x.ch.map Prod.fst).Nodup := s1.2.2.2.1.nodup
  refine (tx_commit h2 s1 s2 (by omega) (by omega) hlo (by omega) (by omega) (by omega)).mono ?_
  rintro e w1 ⟨n, c, X', rfl, hC, hX1, hX2, hL⟩
  obtain ⟨i1, i2, i3, i4, i5⟩ := inv_commit h3 s3 hnd hC
  have hcs := commit_sz s3 i3 (conf_eq h3 s3) hC hZB hZ hK
  have hcr : (commitR Vs t).2.1 = { t with done := true } := by
    unfold commitR
    split
    · rename_i hdn
      rw [← hdn]
    · split
      · rfl
      · split <;> rfl
  have hst := hP'.step (x' := { x with d := true }) (t' := (commitR Vs t).2.1) (A' := A) hk hf hL hX1 hX2 rfl rfl rfl i3 i5 i4 (by rw [hcr]; exact ⟨by dsimp only; omega, by dsimp only; omega, by dsimp only; omega, by dsimp only; omega, by dsimp only; omega⟩) hcs (fun y hy => histT_commit hy) (by have := histT_commit (t := t) s5; exact this) (fun hd => by cases hd) (by omega) s9
  refine ⟨n, c, rfl, X', _, hX1, ⟨⟨_, hst.1⟩, hst.2⟩, ?_⟩
  rcases hC with ⟨c1, rfl, rfl, rfl⟩ | ⟨c1, c2, rfl, rfl, rfl⟩ | ⟨c1, c2, c3, rfl, rfl, rfl⟩ | ⟨c1, c2, c3, rfl, rfl, q', L, hp, rfl⟩
  · exact .inl ⟨by decide, rfl⟩
  · exact .inr (.inl ⟨rfl, rfl, rfl⟩)
  · exact .inl ⟨by decide, rfl⟩
  · exact .inr (.inr ⟨rfl, by omega, rfl, rep_commit h3 hlo s5 c3 (s6 c1) hnd hp⟩)
end
end S
end Go.Proofs.Ytlfodhejpbjfcaa
