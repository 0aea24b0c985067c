/- The argument []api.Rule; the specification's earlier, Rule, Check (printed by walk/mkr11.py). -/
import Derived.Test.YtpjcfepngjpfbaaAcc
import Derived.Test.YtpjcfepngjpfbaaMds
set_option linter.unusedVariables false
set_option linter.unusedSimpArgs false
namespace Go.Proofs.Ytpjcfepngjpfbaa
open Go.RowKit Go.Lib
/-- A rule of an argument: any numbers. -/
structure RuI where
  kind : Int
  letter : Nat
  left : Int
  right : Int
  times : Int
structure RuI.Wd (r : RuI) : Prop where
  letter : r.letter < 256
  kind : -9223372036854775808 ≤ r.kind ∧ r.kind ≤ 9223372036854775807
  left : -9223372036854775808 ≤ r.left ∧ r.left ≤ 9223372036854775807
  right : -9223372036854775808 ≤ r.right ∧ r.right ≤ 9223372036854775807
  times : -9223372036854775808 ≤ r.times ∧ r.times ≤ 9223372036854775807
def RuIAt (W : World) (p : Addr) (r : RuI) : Prop := W.cell? p = some (.int .i64 r.kind) ∧ W.cell? ⟨p.block, p.off + 1, none⟩ = some (.int .u8 r.letter) ∧ W.cell? ⟨p.block, p.off + 2, none⟩ = some (.int .i64 r.left) ∧ W.cell? ⟨p.block, p.off + 3, none⟩ = some (.int .i64 r.right) ∧ W.cell? ⟨p.block, p.off + 4, none⟩ = some (.int .i64 r.times)
theorem RuIAt.keep {A C : World} {b : Addr} {r : RuI} (h : RuIAt A b r) (hb : C.heap[b.block]? = A.heap[b.block]?) : RuIAt C b r := by
  obtain ⟨h1, h2, h3, h4, h5⟩ := h
  refine ⟨?_, ?_, ?_, ?_, ?_⟩
  · unfold World.cell? at *; rw [hb]; exact h1
  · unfold World.cell? at *; dsimp only at *; rw [hb]; exact h2
  · unfold World.cell? at *; dsimp only at *; rw [hb]; exact h3
  · unfold World.cell? at *; dsimp only at *; rw [hb]; exact h4
  · unfold World.cell? at *; dsimp only at *; rw [hb]; exact h5
/-- The rules of an argument, wherever they lie. -/
def RowRu (W : World) (v : Value) (L : List RuI) : Prop :=
  ∃ a cap, v = .slice a L.length cap ∧ L.length ≤ cap ∧ cap ≤ maxLen ∧ (∀ r ∈ L, r.Wd) ∧ (∀ (i : Nat) (h : i < L.length), ∃ b, a = some b ∧ b.block < W.heap.size ∧ RuIAt W (b.add (i * 5)) L[i])
theorem RowRu.under {A C : World} {v : Value} {L : List RuI} {n : Nat} (h : RowRu A v L) (hb : Below n A C) (hn : A.heap.size ≤ n) : RowRu C v L := by
  obtain ⟨a, cap, rfl, h1, h2, h3, h⟩ := h
  exact ⟨a, cap, rfl, h1, h2, h3, fun i hi => (h i hi).imp fun b hh => ⟨hh.1, Nat.lt_of_lt_of_le hh.2.1 hb.size, hh.2.2.keep (by rw [M.adb]; exact hb.block _ (Nat.lt_of_lt_of_le hh.2.1 hn))⟩⟩
/-- A rule that fits as rule n. -/
def OkI (r : RuI) (n : Nat) : Prop := (r.kind = 1 ∧ r.left = 0 ∧ r.right = 0 ∧ r.times = 0) ∨ (r.kind = 2 ∧ r.letter = 0 ∧ r.times = 0 ∧ (1 ≤ r.left ∧ r.left < n) ∧ (1 ≤ r.right ∧ r.right < n)) ∨ (r.kind = 3 ∧ r.letter = 0 ∧ r.right = 0 ∧ 2 ≤ r.times ∧ (1 ≤ r.left ∧ r.left < n))
abbrev ruIV (r : RuI) : Value := .agg #[.int .i64 r.kind, .int .u8 r.letter, .int .i64 r.left, .int .i64 r.right, .int .i64 r.times]
namespace M
attribute [local go_sem] Oper.semAt_some
set_option maxRecDepth 100000 in
theorem earlier_any (W : World) (x : Int) (n : Nat) : Calls Try.prog 87 #[.int .i64 x, .int .i64 n] W fun e w' => e = .returned (.bool (decide (1 ≤ x ∧ x < n))) ∧ w' = W := by
  by_cases h1 : 1 ≤ x
  · have h2 : x ≥ 1 := h1
    by_cases h3 : x < n
    · have e : decide (1 ≤ x ∧ x < n) = true := decide_eq_true ⟨h1, h3⟩
      rw [e]
      go_enter Try.func87, Try.ntmps87
      go_wp2_with fail
      go_ret
      exact ⟨rfl, rfl⟩
    · have e : decide (1 ≤ x ∧ x < n) = false := decide_eq_false (fun h => h3 h.2)
      have e2 : decide (x < (n : Int)) = false := decide_eq_false h3
      rw [e]
      go_enter Try.func87, Try.ntmps87
      go_wp2_with fail
      go_ret
      exact ⟨rfl, rfl⟩
  · have e : decide (1 ≤ x ∧ x < n) = false := decide_eq_false (fun h => h1 h.1)
    have e2 : decide (1 ≤ x) = false := decide_eq_false h1
    rw [e]
    go_enter Try.func87, Try.ntmps87
    go_wp2_with fail
    go_ret
    exact ⟨rfl, rfl⟩
/-- A box of a rule. -/
theorem newRuI (W : World) (r : RuI) : ∃ w1, W.alloc (.cells #[.int .i64 r.kind, .int .u8 r.letter, .int .i64 r.left, .int .i64 r.right, .int .i64 r.times] 59) = w1 ∧ Below W.heap.size W w1 ∧
    (w1.cell? ⟨W.heap.size, 0, none⟩ = some (.int .i64 r.kind) ∧ w1.cell? ⟨W.heap.size, 1, none⟩ = some (.int .u8 r.letter) ∧ w1.cell? ⟨W.heap.size, 2, none⟩ = some (.int .i64 r.left) ∧ w1.cell? ⟨W.heap.size, 3, none⟩ = some (.int .i64 r.right) ∧ w1.cell? ⟨W.heap.size, 4, none⟩ = some (.int .i64 r.times)) := by
  have k : (W.alloc (.cells #[.int .i64 r.kind, .int .u8 r.letter, .int .i64 r.left, .int .i64 r.right, .int .i64 r.times] 59)).heap[W.heap.size]? = some (.cells #[.int .i64 r.kind, .int .u8 r.letter, .int .i64 r.left, .int .i64 r.right, .int .i64 r.times] 59 (0, 0)) := heap_new' _ _
  have b : Below W.heap.size W (W.alloc (.cells #[.int .i64 r.kind, .int .u8 r.letter, .int .i64 r.left, .int .i64 r.right, .int .i64 r.times] 59)) := (Below.refl _ _).alloc (Nat.le_refl _) _
  generalize W.alloc (.cells #[.int .i64 r.kind, .int .u8 r.letter, .int .i64 r.left, .int .i64 r.right, .int .i64 r.times] 59) = w1 at k b
  refine ⟨_, rfl, b, ?_⟩
  simp [World.cell?, k]
set_option maxRecDepth 100000 in
set_option maxHeartbeats 4000000 in
theorem rule11_any (W : World) (r : RuI) {n : Nat} (hn : 1 ≤ n) :
    Calls Try.prog 63 #[ruIV r, .int .i64 n] W fun e w' => ∃ c : Int, e = .returned (.int .i64 c) ∧ (c = 0 ↔ OkI r n) ∧ Below W.heap.size W w' := by
  obtain ⟨w1, hw1, b1, c0, c1, c2, c3, c4⟩ := newRuI W r
  have HB := Lib.hid b1
  have n1 : ¬ (n : Int) < 1 := by omega
  have n2 : ¬ n < 1 := by omega
  have n3 : ¬ n = 0 := by omega
  have HEL := Lib.hid (fun (x : Int) (w : World) => earlier_any w x n)
  clear b1
  by_cases k1 : r.kind = 1
  · have k1b : (r.kind == 1) = true := by simp [k1]
    have k1H := Lib.hid k1
    clear k1
    by_cases a : r.left = 0
    · have ab : ((r.left : Int) != 0) = false := by simp [a]
      have aH := Lib.hid a
      clear a
      by_cases b : r.right = 0
      · have bb : ((r.right : Int) != 0) = false := by simp [b]
        have bH := Lib.hid b
        clear b
        by_cases c : r.times = 0
        · have cb : ((r.times : Int) != 0) = false := by simp [c]
          have cH := Lib.hid c
          clear c
          unfold ruIV
          go_enter Try.func63, Try.ntmps63
          go_wp2_with fail
          go_ret
          refine ⟨_, rfl, ?_, HB.out⟩
          have g0 := k1H.out
          have g1 := aH.out
          have g2 := bH.out
          have g3 := cH.out
          unfold OkI
          omega
        · have cb : ((r.times : Int) != 0) = true := by simp; omega
          have cH := Lib.hid c
          clear c
          unfold ruIV
          go_enter Try.func63, Try.ntmps63
          go_wp2_with fail
          go_ret
          refine ⟨_, rfl, ?_, HB.out⟩
          have g0 := k1H.out
          have g1 := aH.out
          have g2 := bH.out
          have g3 := cH.out
          unfold OkI
          omega
      · have bb : ((r.right : Int) != 0) = true := by simp; omega
        have bH := Lib.hid b
        clear b
        unfold ruIV
        go_enter Try.func63, Try.ntmps63
        go_wp2_with fail
        go_ret
        refine ⟨_, rfl, ?_, HB.out⟩
        have g0 := k1H.out
        have g1 := aH.out
        have g2 := bH.out
        unfold OkI
        omega
    · have ab : ((r.left : Int) != 0) = true := by simp; omega
      have aH := Lib.hid a
      clear a
      unfold ruIV
      go_enter Try.func63, Try.ntmps63
      go_wp2_with fail
      go_ret
      refine ⟨_, rfl, ?_, HB.out⟩
      have g0 := k1H.out
      have g1 := aH.out
      unfold OkI
      omega
  · have k1b : (r.kind == 1) = false := by simp [k1]
    have k1H := Lib.hid k1
    clear k1
    by_cases k2 : r.kind = 2
    · have k2b : (r.kind == 2) = true := by simp [k2]
      have k2H := Lib.hid k2
      clear k2
      by_cases a : r.letter = 0
      · have ab : ((r.letter : Int) != 0) = false := by simp [a]
        have aH := Lib.hid a
        clear a
        by_cases b : r.times = 0
        · have bb : ((r.times : Int) != 0) = false := by simp [b]
          have bH := Lib.hid b
          clear b
          by_cases c : 1 ≤ r.left ∧ r.left < n
          · have cdH := Lib.hid (show decide (1 ≤ r.left ∧ r.left < (n : Int)) = true from decide_eq_true c)
            have cH := Lib.hid c
            clear c
            by_cases d : 1 ≤ r.right ∧ r.right < n
            · have ddH := Lib.hid (show decide (1 ≤ r.right ∧ r.right < (n : Int)) = true from decide_eq_true d)
              have dH := Lib.hid d
              clear d
              unfold ruIV
              go_enter Try.func63, Try.ntmps63
              go_wp2_with fail
              refine (HEL.out r.left w1).mono ?_; rintro e w ⟨rfl, h⟩; rw [h, cdH.out]; clear h w
              go_wp2_with fail
              refine (HEL.out r.right w1).mono ?_; rintro e w ⟨rfl, h⟩; rw [h, ddH.out]; clear h w
              go_wp2_with fail
              go_ret
              refine ⟨_, rfl, ?_, HB.out⟩
              have g0 := k1H.out
              have g1 := k2H.out
              have g2 := aH.out
              have g3 := bH.out
              have g4 := cH.out
              have g5 := dH.out
              unfold OkI
              omega
            · have ddH := Lib.hid (show decide (1 ≤ r.right ∧ r.right < (n : Int)) = false from decide_eq_false d)
              have dH := Lib.hid d
              clear d
              unfold ruIV
              go_enter Try.func63, Try.ntmps63
              go_wp2_with fail
              refine (HEL.out r.left w1).mono ?_; rintro e w ⟨rfl, h⟩; rw [h, cdH.out]; clear h w
              go_wp2_with fail
              refine (HEL.out r.right w1).mono ?_; rintro e w ⟨rfl, h⟩; rw [h, ddH.out]; clear h w
              go_wp2_with fail
              go_ret
              refine ⟨_, rfl, ?_, HB.out⟩
              have g0 := k1H.out
              have g1 := k2H.out
              have g2 := aH.out
              have g3 := bH.out
              have g4 := cH.out
              have g5 := dH.out
              unfold OkI
              omega
          · have cdH := Lib.hid (show decide (1 ≤ r.left ∧ r.left < (n : Int)) = false from decide_eq_false c)
            have cH := Lib.hid c
            clear c
            unfold ruIV
            go_enter Try.func63, Try.ntmps63
            go_wp2_with fail
            refine (HEL.out r.left w1).mono ?_; rintro e w ⟨rfl, h⟩; rw [h, cdH.out]; clear h w
            go_wp2_with fail
            go_ret
            refine ⟨_, rfl, ?_, HB.out⟩
            have g0 := k1H.out
            have g1 := k2H.out
            have g2 := aH.out
            have g3 := bH.out
            have g4 := cH.out
            unfold OkI
            omega
        · have bb : ((r.times : Int) != 0) = true := by simp; omega
          have bH := Lib.hid b
          clear b
          unfold ruIV
          go_enter Try.func63, Try.ntmps63
          go_wp2_with fail
          go_ret
          refine ⟨_, rfl, ?_, HB.out⟩
          have g0 := k1H.out
          have g1 := k2H.out
          have g2 := aH.out
          have g3 := bH.out
          unfold OkI
          omega
      · have ab : ((r.letter : Int) != 0) = true := by simp; omega
        have aH := Lib.hid a
        clear a
        unfold ruIV
        go_enter Try.func63, Try.ntmps63
        go_wp2_with fail
        go_ret
        refine ⟨_, rfl, ?_, HB.out⟩
        have g0 := k1H.out
        have g1 := k2H.out
        have g2 := aH.out
        unfold OkI
        omega
    · have k2b : (r.kind == 2) = false := by simp [k2]
      have k2H := Lib.hid k2
      clear k2
      by_cases k3 : r.kind = 3
      · have k3b : (r.kind == 3) = true := by simp [k3]
        have k3H := Lib.hid k3
        clear k3
        by_cases a : r.letter = 0
        · have ab : ((r.letter : Int) != 0) = false := by simp [a]
          have aH := Lib.hid a
          clear a
          by_cases b : r.right = 0
          · have bb : ((r.right : Int) != 0) = false := by simp [b]
            have bH := Lib.hid b
            clear b
            by_cases c : 2 ≤ r.times
            · have cb : ¬ r.times < 2 := by omega
              have cH := Lib.hid c
              clear c
              by_cases d : 1 ≤ r.left ∧ r.left < n
              · have ddH := Lib.hid (show decide (1 ≤ r.left ∧ r.left < (n : Int)) = true from decide_eq_true d)
                have dH := Lib.hid d
                clear d
                unfold ruIV
                go_enter Try.func63, Try.ntmps63
                go_wp2_with fail
                refine (HEL.out r.left w1).mono ?_; rintro e w ⟨rfl, h⟩; rw [h, ddH.out]; clear h w
                go_wp2_with fail
                go_ret
                refine ⟨_, rfl, ?_, HB.out⟩
                have g0 := k1H.out
                have g1 := k2H.out
                have g2 := k3H.out
                have g3 := aH.out
                have g4 := bH.out
                have g5 := cH.out
                have g6 := dH.out
                unfold OkI
                omega
              · have ddH := Lib.hid (show decide (1 ≤ r.left ∧ r.left < (n : Int)) = false from decide_eq_false d)
                have dH := Lib.hid d
                clear d
                unfold ruIV
                go_enter Try.func63, Try.ntmps63
                go_wp2_with fail
                refine (HEL.out r.left w1).mono ?_; rintro e w ⟨rfl, h⟩; rw [h, ddH.out]; clear h w
                go_wp2_with fail
                go_ret
                refine ⟨_, rfl, ?_, HB.out⟩
                have g0 := k1H.out
                have g1 := k2H.out
                have g2 := k3H.out
                have g3 := aH.out
                have g4 := bH.out
                have g5 := cH.out
                have g6 := dH.out
                unfold OkI
                omega
            · have cb : r.times < 2 := by omega
              have cH := Lib.hid c
              clear c
              unfold ruIV
              go_enter Try.func63, Try.ntmps63
              go_wp2_with fail
              go_ret
              refine ⟨_, rfl, ?_, HB.out⟩
              have g0 := k1H.out
              have g1 := k2H.out
              have g2 := k3H.out
              have g3 := aH.out
              have g4 := bH.out
              have g5 := cH.out
              unfold OkI
              omega
          · have bb : ((r.right : Int) != 0) = true := by simp; omega
            have bH := Lib.hid b
            clear b
            unfold ruIV
            go_enter Try.func63, Try.ntmps63
            go_wp2_with fail
            go_ret
            refine ⟨_, rfl, ?_, HB.out⟩
            have g0 := k1H.out
            have g1 := k2H.out
            have g2 := k3H.out
            have g3 := aH.out
            have g4 := bH.out
            unfold OkI
            omega
        · have ab : ((r.letter : Int) != 0) = true := by simp; omega
          have aH := Lib.hid a
          clear a
          unfold ruIV
          go_enter Try.func63, Try.ntmps63
          go_wp2_with fail
          go_ret
          refine ⟨_, rfl, ?_, HB.out⟩
          have g0 := k1H.out
          have g1 := k2H.out
          have g2 := k3H.out
          have g3 := aH.out
          unfold OkI
          omega
      · have k3b : (r.kind == 3) = false := by simp [k3]
        have k3H := Lib.hid k3
        clear k3
        unfold ruIV
        go_enter Try.func63, Try.ntmps63
        go_wp2_with fail
        go_ret
        refine ⟨_, rfl, ?_, HB.out⟩
        have g0 := k1H.out
        have g1 := k2H.out
        have g2 := k3H.out
        unfold OkI
        omega
/-- All rules fit. -/
def OkL (L : List RuI) : Prop := ∀ (i : Nat) (h : i < L.length), OkI L[i] (i + 1)
set_option maxRecDepth 100000 in
set_option maxHeartbeats 4000000 in
theorem check11_any {W : World} {v : Value} {L : List RuI} (hL : RowRu W v L) : Calls Try.prog 27 #[v] W fun e w' => ∃ c : Int, e = .returned (.int .i64 c) ∧ (c = 0 ↔ OkL L) ∧ Below W.heap.size W w' := by
  have HL := Lib.hid hL
  obtain ⟨a0, cap0, rfl, hc1, hc2, -, -⟩ := hL
  unfold maxLen at hc2
  obtain ⟨n, hn⟩ : ∃ n, L.length = n := ⟨_, rfl⟩
  have HN := Lib.hid hn
  rw [hn] at hc1 HL ⊢
  have HC := Lib.hid (And.intro hc1 hc2)
  clear hc1 hc2 hn
  go_enter Try.func27, Try.ntmps27
  go_wp2_with fail
  go_loopw [3] (fun iv wr => ∃ i : Nat, iv = .int .i64 i ∧ i ≤ n ∧ (∀ (j : Nat) (h : j < L.length), j < i → OkI L[j] (j + 1)) ∧ Below W.heap.size W wr) (fun iv _ => n - (intOf iv).toNat)
  case atStart => exact ⟨0, rfl, by omega, fun j h hj => by omega, Below.refl _ _⟩
  case round =>
    obtain ⟨i, rfl, hi, hok, hB⟩ := hrel
    have HOK := Lib.hid hok; have HB := Lib.hid hB
    clear hok hB
    by_cases hlast : i = n
    · have d1 : ¬ (i : Int) < (n : Int) := by omega
      have HD : Hid (OkL L) := Lib.hid (fun j h => HOK.out j h (by rw [hlast, ← HN.out]; exact h))
      clear hlast
      go_wp2_with fail
      go_ret
      exact ⟨0, rfl, ⟨fun _ => HD.out, fun _ => rfl⟩, HB.out⟩
    · have d1 : (i : Int) < (n : Int) := by omega
      have hil : i < L.length := by rw [HN.out]; omega
      obtain ⟨a, cap, hv, h1, h2, h3, h4⟩ := HL.out.under HB.out (Nat.le_refl _)
      obtain ⟨b, hb, hbl, hat⟩ := h4 i hil
      simp only [Value.slice.injEq] at hv
      obtain ⟨rfl, -, rfl⟩ := hv
      subst hb
      obtain ⟨r, hr⟩ : ∃ r, L[i]'hil = r := ⟨_, rfl⟩
      rw [hr] at hat
      obtain ⟨q0, q1, q2, q3, q4⟩ := hat
      have hiw : IntKind.i64.wrap ((i : Int) + 1) = ((i + 1 : Nat) : Int) := by rw [IntKind.wrap_i64]; have := HC.out; omega
      obtain ⟨i2, hi2⟩ : ∃ y, i + 1 = y := ⟨_, rfl⟩
      rw [hi2] at hiw
      have HR := Lib.hid (rule11_any wr r (n := i2) (by omega))
      unfold ruIV at HR
      have HRI : Hid (∀ h : i < L.length, L[i]'h = r) := Lib.hid (fun _ => hr)
      have HI2 := Lib.hid hi2; have HLT := Lib.hid (And.intro hil (show i < n by omega))
      clear hlast h1 h2 h3 h4 hbl hr hi2 hil
      go_wp2_with fail
      refine HR.out.mono ?_; rintro e w ⟨c, rfl, hc, b2⟩
      have HCC := Lib.hid hc; have HB2 := Lib.hid (Below.after HB.out b2)
      clear hc b2 q0 q1 q2 q3 q4 HR
      by_cases hc0 : c = 0
      · have hcb : (c != 0) = false := by simp [hc0]
        have HOI : Hid (OkI r i2) := Lib.hid (HCC.out.1 hc0)
        clear hc0
        go_wp2_with fail
        go_roundw
        case rel => exact ⟨i2, rfl, by have h1 := HI2.out; have h2 := HLT.out; omega, fun j h hj => by
          by_cases e : j < i
          · exact HOK.out j h e
          · have e2 : j = i := by have := HI2.out; omega
            subst e2
            rw [HRI.out h, HI2.out]; exact HOI.out, HB2.out⟩
        case measure => have h1 := HI2.out; have h2 := HLT.out; simp [intOf]; omega
      · have hcb : (c != 0) = true := by simp [hc0]
        have HNO : Hid (¬ OkL L) := Lib.hid (fun h => hc0 (HCC.out.2 (by have := h i HLT.out.1; rw [HRI.out HLT.out.1, HI2.out] at this; exact this)))
        have HC0 := Lib.hid hc0
        clear hc0
        go_wp2_with fail
        go_ret
        exact ⟨c, rfl, ⟨fun h => absurd h HC0.out, fun h => absurd h HNO.out⟩, HB2.out⟩
end M
end Go.Proofs.Ytpjcfepngjpfbaa
