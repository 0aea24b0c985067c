/- The law's awake: an example of chapter 38. -/
import Derived.Test.YtplccefjljdjnaaEqA
import Derived.Test.YtplccefjljdjnaaErrA
import Derived.Test.YtplccefjljdjnaaMade2
import Derived.Test.YtplccefjljdjnaaSto
import Derived.Test.YtplccefjljdjnaaRefM
import Derived.Test.YtplccefjljdjnaaRefN
set_option linter.unusedVariables false
set_option linter.unusedSimpArgs false
namespace Go.Proofs.Ytplccefjljdjnaa
open Go.RowKit Go.Lib
namespace M
attribute [local go_sem] Oper.semAt_some
def awkS : List Spc := [⟨1, 2, ⟨#[120]⟩⟩, ⟨5, 0, ⟨#[121, 122]⟩⟩]
theorem two_of {α : Type} {l : List α} (h : l.length = 2) : ∃ a b, l = [a, b] := by
  match l, h with
  | [a, b], _ => exact ⟨a, b, rfl⟩
theorem awk_F {E : List En} {L : List Chg} (h : Mt E L awkS) : prepF E 6 L [(5, true)] = 0 ∧ ancF (mvsF E 0 L) (lngF E 6 L).1 6 5 true = (6, true) := by
  obtain ⟨h1, h2, h3⟩ := h
  have e : awkS.map (fun s => (s.pos, s.n, bts s.text)) = [(1, 2, [120]), (5, 0, [121, 122])] := by rfl
  rw [e] at h1
  obtain ⟨c, d, rfl⟩ := two_of (show L.length = 2 by have := congrArg List.length h1; simpa using this)
  · simp only [List.map_cons, List.map_nil, List.cons.injEq, Prod.mk.injEq, and_true] at h1
    obtain ⟨⟨a1, a2, a3⟩, b1, b2, b3⟩ := h1
    have i2 : ¬ d.id = 0 := fun g => by have := (h3 d (by simp)).1 g; rw [b3] at this; cases this
    have hf : formF 6 (-1) [c, d] = true := by simp [formF, chgOk, rngB, maxL, a1, a2, b1, b2, i2]
    have hl : (lngF E 6 [c, d]) = (7, 0) := by
      have hc : chkF 6 [c, d] = 0 := by unfold chkF; rw [if_neg (by unfold maxL; omega), if_pos hf]
      unfold lngF
      rw [if_neg (by rw [hc]; simp)]
      simp [delF, insF, a2, a3, b2, b3, maxL]
    refine ⟨?_, ?_⟩
    · unfold prepF
      rw [if_neg (by unfold maxL; omega), if_pos (by rfl), hl]
    · rw [anc_R hf, hl, if_neg (by omega)]
      simp [mapF, a1, a2, a3, b1, b2, b3]
set_option maxRecDepth 100000 in
set_option maxHeartbeats 4000000 in
theorem awake_any (W : World) : Calls Try.prog 20 #[] W fun e w' => e = .returned (.bool true) ∧ Below W.heap.size W w' := by
  have HS := Lib.hid (snew_any W 1048576 (by omega))
  rw [show ((1048576 : Nat) : Int) = 1048576 from rfl] at HS
  have hgd : Try.prog.eqGuardType Try.prog.depth 33 = false := by kernel_rfl
  go_enter Try.func20, Try.ntmps20
  go_wp2_with fail
  refine HS.out.mono ?_
  rintro e w1 ⟨B, rfl, s1, b1⟩
  obtain ⟨w2, hw2⟩ : ∃ w, w1.alloc (.cells #[.int .i64 1, .int .i64 2, .string ⟨#[120]⟩, .int .i64 5, .int .i64 0, .string ⟨#[121, 122]⟩] 86) = w := ⟨_, rfl⟩
  have hnew := heap_new' w1 (.cells #[.int .i64 1, .int .i64 2, .string ⟨#[120]⟩, .int .i64 5, .int .i64 0, .string ⟨#[121, 122]⟩] 86)
  rw [hw2] at hnew
  have b2 : Below w1.heap.size w1 w2 := by rw [← hw2]; exact (Below.refl _ _).alloc (Nat.le_refl _) _
  obtain ⟨g, hg⟩ : ∃ g, w1.heap.size = g := ⟨_, rfl⟩
  have hgl : g < w2.heap.size := by rw [← hg, ← hw2]; simp
  have hrow : RowSp w2 (.slice (some ⟨g, 0, none⟩) 2 2) awkS := by
    rw [← hg]
    refine ⟨_, 2, rfl, by decide, by unfold maxLen; omega, fun i hi => ⟨_, rfl, by rw [hg]; exact hgl, ?_⟩⟩
    have hi2 : i < 2 := hi
    rcases (show i = 0 ∨ i = 1 by omega) with rfl | rfl
    · simp [SpAt, awkS, World.cell?, Addr.add, hnew]
    · simp [SpAt, awkS, World.cell?, Addr.add, hnew]
  rw [hg] at hnew
  have HM := Lib.hid (made_any (s1.below b2) .nil hrow (by rfl) (by simp) (by simp) (Nat.le_trans b1.size b2.size) (fun a n c h _ => .inr (by
    simp only [Value.slice.injEq, Option.some.injEq] at h
    obtain ⟨h, -, -⟩ := h
    rw [← h]
    exact ⟨_, _, hnew⟩)))
  have HB2 := Lib.hid (b1.trans (b2.mono b1.size))
  clear s1 b1 b2 hnew hgl hrow HS
  go_wp2_with fail
  refine HM.out.mono ?_
  rintro e w3 ⟨E, L, v1, v2, rfl, s3, f3, -, n3, hmt, hC, -, b3⟩
  clear HM hw2 hg
  have HB3 := Lib.hid (HB2.out.trans b3)
  obtain ⟨q1, q2⟩ := awk_F hmt
  have HLL := hmt.len
  have HMP := Lib.hid (map_any s3 f3.wf (Nat.le_trans n3 (by decide)) hC hmt.2.1 (by rw [HLL]; decide) 6 5 true)
  unfold MapP at HMP
  rw [q1, q2] at HMP
  clear s3 f3 n3 hmt hC b3 q1 q2 HLL HB2
  go_wp2_with fail
  refine HMP.out.mono ?_
  rintro e w4 ⟨⟨-, rfl⟩ | ⟨h, -⟩, b4⟩
  rotate_left
  · exact absurd rfl h
  dsimp only
  have HB4 := Lib.hid (HB3.out.trans (b4.mono HB3.out.size))
  obtain ⟨wz, w5, hz, hs1, ka, ba, ⟨p0, p1⟩, f0, f1⟩ := newAn w4 6 true
  obtain ⟨ga, hga⟩ : ∃ g, w4.heap.size = g := ⟨_, rfl⟩
  rw [hga] at hs1 p0 p1 f0 f1 ka
  obtain ⟨y0, y1, -, -⟩ := ka.cells
  have HB5 := Lib.hid (Below.after HB4.out ba)
  have heq := an_eq 6 6 true true
  rw [decide_eq_true (show (6 : Int) = 6 ∧ true = true from ⟨rfl, rfl⟩)] at heq
  clear ka ba b4 HMP HB3
  go_wp2_with fail
  go_ret
  exact ⟨rfl, HB5.out⟩
end M
end Go.Proofs.Ytplccefjljdjnaa
