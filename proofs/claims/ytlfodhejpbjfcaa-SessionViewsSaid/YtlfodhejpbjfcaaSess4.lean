/- Commit where nothing is to be made visible. -/
import Derived.Test.YtlfodhejpbjfcaaSess2
namespace Go.Proofs.Ytlfodhejpbjfcaa
open Go.RowKit
namespace S
attribute [local go_sem] Oper.semAt_some

def putN (d : Bool) (ch : List (ByteArray × (Int × Bool))) (s : ByteArray) (x : Int) : List (ByteArray × (Int × Bool)) := if chk d s = 0 then putA s (x, false) ch else ch

set_option maxRecDepth 100000 in
set_option maxHeartbeats 2000000 in
theorem Put_any {W : World} {t b r c : Nat} {n : Int} {q : Option Addr} {d : Bool} {ch : List (ByteArray × (Int × Bool))} (h : TxnC W t b n q r c d) (hc : MapAt evc W c ch) (s : ByteArray) (x : Int) (hs : s.size ≤ 9223372036854775807) (hcl : ch.length < 1000000) :
    Calls Try.prog 24 #[.pointer (some ⟨t, 0, none⟩), .string s, .int .i64 x] W fun e w' => e = .returned (errV (chk d s)) ∧ BC c W w' ∧ MapAt evc w' c (putN d ch s x) := by
  obtain ⟨-, -, -, -, c4, -⟩ := h.cells
  have H := Lib.hid h; have HC := Lib.hid hc
  clear h hc
  obtain ⟨N, hN⟩ : ∃ X, putN d ch s x = X := ⟨_, rfl⟩
  have HN := Lib.hid hN
  obtain ⟨E, hE⟩ : ∃ E, errV (chk d s) = E := ⟨_, rfl⟩
  have HE := Lib.hid hE
  rw [hN, hE]
  clear hN hE
  by_cases h0 : chk d s = 0
  · obtain ⟨w1, hup, hm1, hg1, -⟩ := HC.out.put (P := Try.prog) (t := 118) (k := 9) (e := 124) Try.underlying9 Try.underlying118 (by unfold maxLen; omega) (s := s) (by unfold maxLen; omega) (x, false)
    have HB := Lib.hid (BC.grown hg1)
    have HM : Hid (MapAt evc w1 c N) := Lib.hid (by rw [← HN.out]; unfold putN; rw [if_pos h0]; exact hm1)
    simp only [evc] at hup
    clear hg1 hm1
    go_enter Try.func24, Try.ntmps24
    go_wp2_with fail
    refine (check_any H.out s hs).mono ?_; rintro e w2 ⟨rfl, rfl⟩
    rw [h0]
    simp only [errV, if_true]
    go_wp2_with fail
    go_ret
    exact ⟨by rw [← HE.out, h0]; rfl, HB.out, HM.out⟩
  · have HM : Hid (MapAt evc W c N) := Lib.hid (by rw [← HN.out]; unfold putN; rw [if_neg h0]; exact HC.out)
    go_enter Try.func24, Try.ntmps24
    go_wp2_with fail
    refine (check_any H.out s hs).mono ?_; rintro e w1 ⟨rfl, rfl⟩
    have he : errV (chk d s) = .iface 60 (.int .i64 (chk d s)) := by unfold errV; rw [if_neg h0]; rfl
    have HV := Lib.hid he
    rw [he]
    clear he h0
    generalize chk d s = cd at *
    go_wp2_with fail
    go_ret
    exact ⟨by rw [← HE.out, HV.out]; rfl, BC.refl _ _, HM.out⟩

/-- Nothing that lay has turned but two blocks. -/
structure BC2 (C D : Nat) (A B : World) : Prop where
  os : B.os = A.os
  tape : B.tape = A.tape
  output : B.output = A.output
  size : A.heap.size ≤ B.heap.size
  block : ∀ k, k < A.heap.size → k ≠ C → k ≠ D → B.heap[k]? = A.heap[k]?
theorem _root_.Go.Proofs.Ytlfodhejpbjfcaa.BC.two {C D : Nat} {A B E : World} (h : BC C A B) (k : BC D B E) : BC2 C D A E :=
  ⟨k.os.trans h.os, k.tape.trans h.tape, k.output.trans h.output, Nat.le_trans h.size k.size, fun i hi hc hd => (k.block i (Nat.lt_of_lt_of_le hi h.size) hd).trans (h.block i hi hc)⟩

/-- What Drop answers and leaves. -/
def dropE (d : Bool) (ch : List (ByteArray × (Int × Bool))) (T : Tr ByteArray Int) (s : ByteArray) : Int := (getR d ch T s).2
def dropN (d : Bool) (ch : List (ByteArray × (Int × Bool))) (T : Tr ByteArray Int) (s : ByteArray) : List (ByteArray × (Int × Bool)) := if (getR d ch T s).2 = 0 then putA s (0, true) ch else ch

set_option maxRecDepth 100000 in
set_option maxHeartbeats 2000000 in
theorem Drop_any {W : World} {t b r c : Nat} {n : Int} {q : Option Addr} {d : Bool} {T : Tr ByteArray Int} {rd : List (ByteArray × Bool)} {ch : List (ByteArray × (Int × Bool))} (h : TxnC W t b n q r c d) (hT : sd.Is W q T) (hr : MapAt Value.bool W r rd) (hc : MapAt evc W c ch) (hrc : r ≠ c) (s : ByteArray) (hs : s.size ≤ 9223372036854775807) (hrl : rd.length < 1000000) (hcl : ch.length < 1000000) :
    Calls Try.prog 25 #[.pointer (some ⟨t, 0, none⟩), .string s] W fun e w' => e = .returned (errV (dropE d ch T s)) ∧ BC2 r c W w' ∧ MapAt Value.bool w' r (readG d rd ch s) ∧ MapAt evc w' c (dropN d ch T s) := by
  have H := Lib.hid h; have HT := Lib.hid hT; have HR := Lib.hid hr; have HC := Lib.hid hc
  clear h hT hr hc
  obtain ⟨G, hG⟩ : ∃ G, dropE d ch T s = G := ⟨_, rfl⟩
  obtain ⟨RG, hRG⟩ : ∃ X, readG d rd ch s = X := ⟨_, rfl⟩
  obtain ⟨CN, hCN⟩ : ∃ X, dropN d ch T s = X := ⟨_, rfl⟩
  have HGR := Lib.hid hG; have HRG := Lib.hid hRG; have HCN := Lib.hid hCN
  rw [hG, hRG, hCN]
  clear hG hRG hCN
  by_cases h0 : chk d s = 0
  · go_enter Try.func25, Try.ntmps25
    go_wp2_with fail
    refine (check_any H.out s hs).mono ?_; rintro e w1 ⟨rfl, rfl⟩
    rw [h0]
    simp only [errV, if_true]
    go_wp2_with fail
    refine (see_any H.out HT.out HR.out HC.out s hs hrl).mono ?_; rintro e w2 ⟨rfl, b2, m2⟩
    have HB2 := Lib.hid b2
    have HM2 : Hid (MapAt Value.bool w2 r RG) := Lib.hid (by rw [← HRG.out]; unfold readG; rw [if_pos h0]; exact m2)
    have HC2 := Lib.hid (MapAt.bc HC.out b2 hrc.symm)
    have h2 : TxnC w2 t b n q r c d := b2.obj (mapUnlike HR.out H.out) H.out
    obtain ⟨-, -, -, -, c4, -⟩ := h2.cells
    obtain ⟨w3, hup, hm3, hg3, -⟩ := HC2.out.put (P := Try.prog) (t := 118) (k := 9) (e := 124) Try.underlying9 Try.underlying118 (by unfold maxLen; omega) (s := s) (by unfold maxLen; omega) (0, true)
    have HB3 := Lib.hid (BC.grown hg3); have HC3 := Lib.hid hm3
    simp only [evc] at hup
    have HM3 := Lib.hid (MapAt.bc HM2.out HB3.out hrc)
    clear b2 m2 h2 hg3 hm3
    unfold seeR
    cases hg : getA s ch with
    | some x =>
      have HGA := Lib.hid hg; clear hg
      simp only
      cases hx : x.2 with
      | true =>
        have HE : Hid (G = 5) := Lib.hid (by rw [← HGR.out]; simp [dropE, getR, h0, HGA.out, hx])
        have HCC : Hid (MapAt evc w2 c CN) := Lib.hid (by rw [← HCN.out]; simp only [dropN, getR, h0, HGA.out, hx, if_true]; exact HC2.out)
        clear hx
        simp only [Bool.not_true]
        go_wp2_with fail
        go_ret
        exact ⟨by rw [HE.out]; rfl, HB2.out.two (BC.refl _ _), HM2.out, HCC.out⟩
      | false =>
        have HE : Hid (G = 0) := Lib.hid (by rw [← HGR.out]; simp [dropE, getR, h0, HGA.out, hx])
        have HCC : Hid (MapAt evc w3 c CN) := Lib.hid (by rw [← HCN.out]; simp only [dropN, getR, h0, HGA.out, hx, if_true]; exact HC3.out)
        clear hx
        simp only [Bool.not_false]
        go_wp2_with fail
        go_ret
        exact ⟨by rw [HE.out]; rfl, HB2.out.two HB3.out, HM3.out, HCC.out⟩
    | none =>
      have HGA := Lib.hid hg; clear hg
      simp only
      obtain ⟨F, hF⟩ : ∃ F, findF sd.lt s T = F := ⟨_, rfl⟩
      have HF2 := Lib.hid hF
      rw [hF]
      clear hF
      cases F with
      | nil =>
        have HE : Hid (G = 5) := Lib.hid (by rw [← HGR.out]; simp [dropE, getR, h0, HGA.out, HF2.out])
        have HCC : Hid (MapAt evc w2 c CN) := Lib.hid (by rw [← HCN.out]; simp only [dropN, getR, h0, HGA.out, HF2.out, if_true]; exact HC2.out)
        simp only [sd.getV]
        go_wp2_with fail
        go_ret
        exact ⟨by rw [HE.out]; rfl, HB2.out.two (BC.refl _ _), HM2.out, HCC.out⟩
      | node l nk nv r =>
        have HE : Hid (G = 0) := Lib.hid (by rw [← HGR.out]; simp [dropE, getR, h0, HGA.out, HF2.out])
        have HCC : Hid (MapAt evc w3 c CN) := Lib.hid (by rw [← HCN.out]; simp only [dropN, getR, h0, HGA.out, HF2.out, if_true]; exact HC3.out)
        simp only [sd.getV]
        go_wp2_with fail
        go_ret
        exact ⟨by rw [HE.out]; rfl, HB2.out.two HB3.out, HM3.out, HCC.out⟩
  · have HE : Hid (G = chk d s) := Lib.hid (by rw [← HGR.out]; unfold dropE getR; rw [if_neg h0])
    have HM2 : Hid (MapAt Value.bool W r RG) := Lib.hid (by rw [← HRG.out]; unfold readG; rw [if_neg h0]; exact HR.out)
    have HCC : Hid (MapAt evc W c CN) := Lib.hid (by rw [← HCN.out]; unfold dropN getR; rw [if_neg h0]; simp only; rw [if_neg h0]; exact HC.out)
    go_enter Try.func25, Try.ntmps25
    go_wp2_with fail
    refine (check_any H.out s hs).mono ?_; rintro e w1 ⟨rfl, rfl⟩
    have he : errV (chk d s) = .iface 60 (.int .i64 (chk d s)) := by unfold errV; rw [if_neg h0]; rfl
    have HV := Lib.hid he
    rw [he]
    clear he h0
    generalize chk d s = cd at *
    go_wp2_with fail
    go_ret
    exact ⟨by rw [HE.out]; simp only; rw [HV.out]; rfl, (BC.refl _ _).two (BC.refl _ _), HM2.out, HCC.out⟩
end S
end Go.Proofs.Ytlfodhejpbjfcaa
namespace Go.Proofs.Ytlfodhejpbjfcaa
open Go.RowKit
namespace S
attribute [local go_sem] Oper.semAt_some

set_option maxRecDepth 100000 in
set_option maxHeartbeats 1000000 in
theorem Commit_done {W : World} {t b r c : Nat} {n : Int} {q : Option Addr} (h : TxnC W t b n q r c true) :
    Calls Try.prog 20 #[.pointer (some ⟨t, 0, none⟩)] W fun e w' => e = .returned (.tuple #[.int .i64 0, err 7]) ∧ w' = W := by
  obtain ⟨c0, -, -, -, -, c5, -⟩ := h.cells
  clear h
  go_enter Try.func20, Try.ntmps20
  go_wp2_with fail
  go_ret2
  exact ⟨rfl, rfl⟩
set_option maxRecDepth 100000 in
set_option maxHeartbeats 1000000 in
theorem Commit_empty {W : World} {t b r c : Nat} {n : Int} {q : Option Addr} (h : TxnC W t b n q r c false) (hc : MapAt evc W c []) :
    Calls Try.prog 20 #[.pointer (some ⟨t, 0, none⟩)] W fun e w' => e = .returned (.tuple #[.int .i64 n, .nilIface]) ∧ BC t W w' ∧ TxnC w' t b n q r c true := by
  obtain ⟨c0, -, -, -, -, c5, f5⟩ := h.cells
  obtain ⟨W1, hW1⟩ : ∃ W1, W.setCell ⟨t, 5, none⟩ (.bool true) = W1 := ⟨_, rfl⟩
  have h1 : TxnC W1 t b n q r c true := by rw [← hW1]; exact h.finish true
  have hb : BC t W W1 := by rw [← hW1]; exact (BC.refl _ _).set (p := ⟨t, 5, none⟩) (.inr rfl) _
  have hc1 : MapAt evc W1 c [] := MapAt.bc hc hb (mapUnlike hc h).symm
  have hln := hc1.len (P := Try.prog) (t := 118) (k := 9) (e := 124) (ty := 3) Try.underlying118
  simp only [List.length_nil] at hln
  obtain ⟨-, d1, -, -, d4, -, -⟩ := h1.cells
  have H1 := Lib.hid h1; have HB := Lib.hid hb
  clear h h1 hb hc hc1
  go_enter Try.func20, Try.ntmps20
  go_wp2_with fail
  go_ret2
  exact ⟨rfl, HB.out, H1.out⟩
end S
end Go.Proofs.Ytlfodhejpbjfcaa
