/- Sizes behind a commit. No walk. -/
import Derived.Test.YtlfodhejpbjfcaaPlayS
set_option linter.unusedVariables false
set_option linter.unusedSimpArgs false
namespace Go.Proofs.Ytlfodhejpbjfcaa
open Go.RowKit
namespace S
theorem finRT_len (t : RT) (s : ByteArray) : (finRT t s).sees = t.sees ∧ (finRT t s).read = t.read ∧ (finRT t s).changed.length ≤ t.changed.length + 1 := by
  unfold finRT
  split
  · exact ⟨rfl, rfl, by omega⟩
  · exact ⟨rfl, rfl, by simp⟩
theorem chgRT_len (t : RT) (s : ByteArray) (z : Int) (drop : Bool) : (chgRT t s z drop).1.sees.length ≤ t.sees.length + 1 ∧ (chgRT t s z drop).1.read.length ≤ t.read.length + 1 ∧ (chgRT t s z drop).1.changed.length ≤ t.changed.length + 1 := by
  have hg := getRT_eq t s
  unfold chgRT
  split
  · exact ⟨by simp, by simp, by simp⟩
  · split
    · split
      · split
        · obtain ⟨f1, f2, f3⟩ := finRT_len { (getRT t s).1 with sees := dropR s (getRT t s).1.sees } s
          dsimp only at f1 f2 f3 ⊢
          rw [f1, f2]
          rw [hg.1] at f3 ⊢
          dsimp only at f3 ⊢
          have hl : (dropR s t.sees).length ≤ t.sees.length := List.length_filter_le _ _
          exact ⟨by omega, hg.2, f3⟩
        · dsimp only
          rw [hg.1]
          exact ⟨by dsimp only; omega, hg.2, by dsimp only; omega⟩
      · obtain ⟨f1, f2, f3⟩ := finRT_len { t with sees := putR s z t.sees } s
        dsimp only at f1 f2 f3 ⊢
        rw [f1, f2]
        exact ⟨putR_len s z t.sees, by omega, f3⟩
    · exact ⟨by simp, by simp, by simp⟩
theorem putN_len (d : Bool) (ch : List (ByteArray × (Int × Bool))) (s : ByteArray) (z : Int) : (putN d ch s z).length ≤ ch.length + 1 := by
  unfold putN
  split
  · exact putA_length.2
  · omega
theorem dropN_len (d : Bool) (ch : List (ByteArray × (Int × Bool))) (T : Tr ByteArray Int) (s : ByteArray) : (dropN d ch T s).length ≤ ch.length + 1 := by
  unfold dropN
  split
  · exact putA_length.2
  · omega
theorem commit_sz {K : Nat} {X X' : Bx} {Vs : List Ver} {x : Tx} {t : RT} {n c : Int} (hI : TxInv X.N x t) (hB' : BoxInv X' (commitR Vs t).1) (hcf : (conf X.last x.n x.rd || conf X.last x.n x.ch) = confR Vs t) (hC : CommitR X x X' n c) (hS : SzB K X Vs) (hx : Sz K x t) (hK : K ≤ 60) : SzB (K + 1) X' (commitR Vs t).1 := by
  have hd := hI.done
  have hnil := hI.nil
  rcases hC with ⟨h1, rfl, rfl, rfl⟩ | ⟨h1, h2, rfl, rfl, rfl⟩ | ⟨h1, h2, h3, rfl, rfl, rfl⟩ | ⟨h1, h2, h3, rfl, rfl, q', L, hL, rfl⟩
  · have e : (commitR Vs t).1 = Vs := by unfold commitR; rw [← hd, h1]; rfl
    rw [e]; exact hS.mono (by omega)
  · have e : (commitR Vs t).1 = Vs := by unfold commitR; rw [← hd, h1, if_neg (by decide), if_pos (hnil.1 h2)]
    rw [e]; exact hS.mono (by omega)
  · have e : (commitR Vs t).1 = Vs := by unfold commitR; rw [← hd, h1, if_neg (by decide), if_neg (fun x => h2 (hnil.2 x)), if_pos (by rw [← hcf]; exact h3)]
    rw [e]; exact hS.mono (by omega)
  · have e : (commitR Vs t).1 = Vs ++ [(seenN t.sees (lastL Vs) t.changed, t.changed)] := by
      unfold commitR; rw [← hd, h1, if_neg (by decide), if_neg (fun x => h2 (hnil.2 x)), if_neg (by rw [← hcf, h3]; decide)]; rfl
    rw [e] at hB' ⊢
    obtain ⟨a1, a2, a3, a4⟩ := hS
    obtain ⟨z1, z2, z3, z4, z5⟩ := hx
    have hl := hL.length_eq
    have s1 := appN_sz L X.T
    have s2 := lastN_length (X.N + 1) L X.last
    have hlist := hB'.list
    rw [lastL_snoc] at hlist
    dsimp only at hlist
    have hlen : ((seenN t.sees (lastL Vs) t.changed).length : Int) = (appN X.T L).sz := by rw [← hlist, ← Tr.sz_eq]
    refine ⟨by dsimp only; push_cast; omega, by dsimp only; omega, by simp; omega, fun V hV => ?_⟩
    rcases List.mem_append.1 hV with hV | hV
    · have := a4 V hV; exact ⟨by omega, by omega⟩
    · simp only [List.mem_singleton] at hV
      subst hV
      exact ⟨by dsimp only; omega, by dsimp only; omega⟩
end S
end Go.Proofs.Ytlfodhejpbjfcaa
