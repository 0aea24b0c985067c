/- Commit where nothing is to be made visible. -/
import Derived.Test.YtlfodhejpbjfcaaSess3
namespace Go.Proofs.Ytlfodhejpbjfcaa
open Go.RowKit
namespace S
attribute [local go_sem] Oper.semAt_some

set_option maxRecDepth 100000 in
set_option maxHeartbeats 1000000 in
theorem Commit_done {W : World} {t b r c : Nat} {n : Int} {q : Option Addr} (h : TxnC W t b n q r c true) :
    Calls Try.prog 20 #[.pointer (some ⟨t, 0, none⟩)] W fun e w' => e = .returned (.tuple #[.int .i64 0, err 7]) ∧ w' = W := by
  obtain ⟨c0, -, -, -, -, c5, -⟩ := h.cells
  clear h
  go_enter Try.func20, Try.ntmps20
  go_wp2_with fail
  go_ret2
  exact ⟨rfl, rfl⟩
set_option maxRecDepth 100000 in
set_option maxHeartbeats 1000000 in
theorem Commit_empty {W : World} {t b r c : Nat} {n : Int} {q : Option Addr} (h : TxnC W t b n q r c false) (hc : MapAt evc W c []) :
    Calls Try.prog 20 #[.pointer (some ⟨t, 0, none⟩)] W fun e w' => e = .returned (.tuple #[.int .i64 n, .nilIface]) ∧ BC t W w' ∧ TxnC w' t b n q r c true := by
  obtain ⟨c0, -, -, -, -, c5, f5⟩ := h.cells
  obtain ⟨W1, hW1⟩ : ∃ W1, W.setCell ⟨t, 5, none⟩ (.bool true) = W1 := ⟨_, rfl⟩
  have h1 : TxnC W1 t b n q r c true := by rw [← hW1]; exact h.finish true
  have hb : BC t W W1 := by rw [← hW1]; exact (BC.refl _ _).set (p := ⟨t, 5, none⟩) (.inr rfl) _
  have hc1 : MapAt evc W1 c [] := MapAt.bc hc hb (mapUnlike hc h).symm
  have hln := hc1.len (P := Try.prog) (t := 118) (k := 9) (e := 124) (ty := 3) Try.underlying118
  simp only [List.length_nil] at hln
  obtain ⟨-, d1, -, -, d4, -, -⟩ := h1.cells
  have H1 := Lib.hid h1; have HB := Lib.hid hb
  clear h h1 hb hc hc1
  go_enter Try.func20, Try.ntmps20
  go_wp2_with fail
  go_ret2
  exact ⟨rfl, HB.out, H1.out⟩
end S
end Go.Proofs.Ytlfodhejpbjfcaa
