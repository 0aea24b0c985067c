/- A transaction: see, Get, Put, Drop. -/
import Derived.Test.YtlfodhejpbjfcaaSess1
import Derived.Test.YtlfodhejpbjfcaaTail
namespace Go.Proofs.Ytlfodhejpbjfcaa
open Go.RowKit
namespace S
attribute [local go_sem] Oper.semAt_some

/-- What see answers, and what is read behind it. -/
def seeR (ch : List (ByteArray × (Int × Bool))) (T : Tr ByteArray Int) (s : ByteArray) : Value := match getA s ch with
  | some x => .tuple #[.int .i64 x.1, .bool (!x.2)]
  | none => sd.getV (findF sd.lt s T)
def readN (rd : List (ByteArray × Bool)) (ch : List (ByteArray × (Int × Bool))) (s : ByteArray) : List (ByteArray × Bool) := match getA s ch with
  | some _ => rd
  | none => putA s true rd

set_option maxRecDepth 100000 in
set_option maxHeartbeats 2000000 in
theorem see_any {W : World} {t b r c : Nat} {n : Int} {q : Option Addr} {d : Bool} {T : Tr ByteArray Int} {rd : List (ByteArray × Bool)} {ch : List (ByteArray × (Int × Bool))} (h : TxnC W t b n q r c d) (hT : sd.Is W q T) (hr : MapAt Value.bool W r rd) (hc : MapAt evc W c ch) (s : ByteArray) (hs : s.size ≤ 9223372036854775807) (hrl : rd.length < 1000000) :
    Calls Try.prog 44 #[.pointer (some ⟨t, 0, none⟩), .string s] W fun e w' => e = .returned (seeR ch T s) ∧ BC r W w' ∧ MapAt Value.bool w' r (readN rd ch s) := by
  have HF : ∀ f, Fence.wide.fn f := fun _ => trivial
  obtain ⟨-, c1, c2, c3, c4, -⟩ := h.cells
  have hlk := hc.look (P := Try.prog) (t := 118) (k := 9) (e := 124) true Try.underlying9 Try.underlying118 (z := .agg #[.int .i64 0, .bool false]) (by kernel_rfl) (s := s) (by unfold maxLen; omega)
  unfold seeR readN
  cases hg : getA s ch with
  | some x =>
    rw [hg] at hlk
    simp only [if_true, evc] at hlk
    obtain ⟨W0, hW0⟩ : ∃ W0, W.alloc (.cells #[.int .i64 x.1, .bool x.2] 124) = W0 := ⟨_, rfl⟩
    have hb0 : Below W.heap.size W W0 := by rw [← hW0]; exact (Below.refl _ W).alloc (Nat.le_refl _) _
    have n0 : W0.heap[W.heap.size]? = some (.cells #[.int .i64 x.1, .bool x.2] 124 (0, 0)) := by rw [← hW0]; exact heap_new _ _
    have k0 : ∀ w, Below W0.heap.size W0 w → w.cell? ⟨W.heap.size, 0, none⟩ = some (.int .i64 x.1) := fun w hw => by have := box_below hw n0; simp [World.cell?, this]
    have k1 : ∀ w, Below W0.heap.size W0 w → w.cell? ⟨W.heap.size, 1, none⟩ = some (.bool x.2) := fun w hw => by have := box_below hw n0; simp [World.cell?, this]
    have B0 : Below W0.heap.size W0 W0.drew := (Below.refl _ _).drew
    have HB := Lib.hid (BC.of (C := r) (Below.step hb0 B0)); have HR := Lib.hid (hr.below (Below.step hb0 B0))
    have hnot : ∀ (x : Bool) (w : World), (Op.unary .not (.bool x)).run Try.prog w = .ok (.bool (!x)) w := fun _ _ => rfl
    clear hb0 n0 hr hc hT h hg
    go_enter Try.func44, Try.ntmps44
    go_wp2_with fail
    refine wp_region_anyH (Below W0.heap.size W0) (by kernel_rfl) ?_
    refine AnyH.take (i := 0) (d := some 18) (v := ?_) (by kernel_rfl) rfl rfl HF (fun _ _ _ h => h) (.inl ⟨by rfl, ?_⟩) (by first | assumption | rfl) ?_
    rotate_left
    · intro w hS; try subst hS
      go_simp; try with_reducible rfl
    try simp only [Act.put, List.setIfInBounds_toArray, List.set_cons_zero, List.set_cons_succ]
    refine AnyH.take (i := 1) (d := some 19) (v := ?_) (by kernel_rfl) rfl rfl HF (fun _ _ _ h => h) (.inl ⟨by rfl, ?_⟩) (by first | assumption | rfl) ?_
    rotate_left
    · intro w hS; try subst hS
      go_simp; try with_reducible rfl
    try simp only [Act.put, List.setIfInBounds_toArray, List.set_cons_zero, List.set_cons_succ]
    refine AnyH.take (i := 2) (d := some 20) (v := ?_) (by kernel_rfl) rfl rfl HF (fun _ _ _ h => h) (.inl ⟨by rfl, ?_⟩) (by first | assumption | rfl) ?_
    rotate_left
    · intro w hS; try subst hS
      go_simp; try with_reducible rfl
    try simp only [Act.put, List.setIfInBounds_toArray, List.set_cons_zero, List.set_cons_succ]
    refine AnyH.take (i := 3) (d := some 21) (v := ?_) (by kernel_rfl) rfl rfl HF (fun _ _ _ h => h) (.inl ⟨by rfl, ?_⟩) (by first | assumption | rfl) ?_
    rotate_left
    · intro w hS; try subst hS
      go_simp; try with_reducible rfl
    try simp only [Act.put, List.setIfInBounds_toArray, List.set_cons_zero, List.set_cons_succ]
    refine AnyH.take (i := 4) (d := some 22) (v := ?_) (by kernel_rfl) rfl rfl HF (fun _ _ _ h => h) (.inl ⟨by rfl, ?_⟩) (by first | assumption | rfl) ?_
    rotate_left
    · intro w hS; try subst hS
      go_simp; try with_reducible rfl
    try simp only [Act.put, List.setIfInBounds_toArray, List.set_cons_zero, List.set_cons_succ]
    refine AnyH.take (i := 5) (d := some 4) (v := ?_) (by kernel_rfl) rfl rfl HF (fun _ _ _ h => h) (.inl ⟨by rfl, ?_⟩) (by first | assumption | rfl) ?_
    rotate_left
    · intro w hS; try subst hS
      go_simp; try with_reducible rfl
    try simp only [Act.put, List.setIfInBounds_toArray, List.set_cons_zero, List.set_cons_succ]
    refine AnyH.take (i := 6) (d := some 5) (v := ?_) (by kernel_rfl) rfl rfl HF (fun _ _ _ h => h) (.inl ⟨by rfl, ?_⟩) (by first | assumption | rfl) ?_
    rotate_left
    · intro w hS; try subst hS
      go_simp; try with_reducible rfl
    try simp only [Act.put, List.setIfInBounds_toArray, List.set_cons_zero, List.set_cons_succ]
    refine AnyH.done (by kernel_rfl) ?_
    go_wp2_with fail
    go_ret2
    exact ⟨rfl, HB.out, HR.out⟩
  | none =>
    rw [hg] at hlk
    simp only [if_true] at hlk
    obtain ⟨Wy, hWy⟩ : ∃ W0, W.alloc (.cells #[.int .i64 0, .bool false] 124) = W0 := ⟨_, rfl⟩
    have hby : Below W.heap.size W Wy := by rw [← hWy]; exact (Below.refl _ W).alloc (Nat.le_refl _) _
    have ny : Wy.heap[W.heap.size]? = some (.cells #[.int .i64 0, .bool false] 124 (0, 0)) := by rw [← hWy]; exact heap_new _ _
    have y0 : Wy.cell? ⟨W.heap.size, 0, none⟩ = some (.int .i64 0) := by simp [World.cell?, ny]
    have y1 : Wy.cell? ⟨W.heap.size, 1, none⟩ = some (.bool false) := by simp [World.cell?, ny]
    have z0 : Wy.frozen? ⟨W.heap.size, 0, none⟩ = false := by simp [World.frozen?, ny]
    have z1 : Wy.frozen? ⟨W.heap.size, 1, none⟩ = false := by simp [World.frozen?, ny]
    obtain ⟨W0, hW0⟩ : ∃ W0, (Wy.setCell ⟨W.heap.size, 0, none⟩ (.int .i64 0)).setCell ⟨W.heap.size, 1, none⟩ (.bool false) = W0 := ⟨_, rfl⟩
    have hb0 : Below W.heap.size W W0 := by rw [← hW0]; exact (hby.setCell (p := ⟨W.heap.size, 0, none⟩) (Nat.le_refl _) _).setCell (p := ⟨W.heap.size, 1, none⟩) (Nat.le_refl _) _
    clear hby ny
    have h0 : TxnC W0 t b n q r c d := box_below hb0 h
    obtain ⟨w1, hup, hm1, hg1, hz1⟩ := (hr.below hb0).put (P := Try.prog) (t := 117) (k := 9) (e := 4) Try.underlying9 Try.underlying117 (by unfold maxLen; omega) (s := s) (by unfold maxLen; omega) true
    obtain ⟨-, c1, c2, c3, -⟩ := h0.cells
    have htr : t ≠ r := fun e => by
      obtain ⟨es, ck, e2, -⟩ := hr
      rw [← e, h] at e2; cases e2
    have hbc := BC.grown hg1
    have h1 : TxnC w1 t b n q r c d := hbc.obj htr h0
    obtain ⟨-, d1, d2, -⟩ := h1.cells
    have hT1 : sd.Is w1 q T := (hT.below hb0).keep (fun k cs fz e => hbc.obj (fun e2 => by
      subst e2
      obtain ⟨es, ck, e3, -⟩ := hr.below hb0
      rw [e] at e3; cases e3) e)
    have HG := Lib.hid (sd.Get_any s hT1); have HB := Lib.hid ((BC.of (C := r) hb0).trans hbc); have HM := Lib.hid hm1
    clear hb0 hr hc hT h hg h0 h1 hm1 hg1 hz1 hbc hT1
    go_enter Try.func44, Try.ntmps44
    go_wp2_with fail
    refine HG.out.mono ?_; rintro e w2 ⟨rfl, b2⟩
    have HB2 := Lib.hid (HB.out.trans (.of b2)); have HM2 := Lib.hid (HM.out.below b2)
    clear b2
    obtain ⟨F, hF⟩ : ∃ F, findF sd.lt s T = F := ⟨_, rfl⟩
    have HF2 := Lib.hid hF
    rw [hF]
    clear hF
    cases F with
    | nil =>
      simp only [sd.getV]
      go_wp2_with fail
      go_ret2
      exact ⟨by rw [HF2.out]; rfl, HB2.out, HM2.out⟩
    | node l nk nv r =>
      simp only [sd.getV]
      go_wp2_with fail
      go_ret2
      exact ⟨by rw [HF2.out]; rfl, HB2.out, HM2.out⟩

/-- A map beside stands. -/
theorem MapAt.bc {α : Type} {ev : α → Value} {A B : World} {k C : Nat} {l : List (ByteArray × α)} (h : MapAt ev A k l) (hb : BC C A B) (hk : k ≠ C) : MapAt ev B k l := h.of_block (hb.block k h.lt hk)
theorem mapUnlike {α : Type} {ev : α → Value} {A : World} {k : Nat} {l : List (ByteArray × α)} (h : MapAt ev A k l) {g : Nat} {cs : Array Value} {t : TypeId} {fz : Nat × Nat} (hg : A.heap[g]? = some (.cells cs t fz)) : g ≠ k := fun e => by
  obtain ⟨es, ck, e2, -⟩ := h
  rw [← e, hg] at e2; cases e2
theorem isKept {α : Type} {ev : α → Value} {A B : World} {k : Nat} {l : List (ByteArray × α)} (h : MapAt ev A k l) (hb : BC k A B) {q : Option Addr} {T : Tr ByteArray Int} (hT : sd.Is A q T) : sd.Is B q T :=
  hT.keep (fun g cs fz e => hb.obj (mapUnlike h e) e)

/-- What Get answers. -/
def getR (d : Bool) (ch : List (ByteArray × (Int × Bool))) (T : Tr ByteArray Int) (s : ByteArray) : Int × Int :=
  if chk d s = 0 then (match getA s ch with
    | some x => if x.2 then (0, 5) else (x.1, 0)
    | none => match findF sd.lt s T with
      | .nil => (0, 5)
      | .node _ _ v _ => (v, 0)) else (0, chk d s)
def readG (d : Bool) (rd : List (ByteArray × Bool)) (ch : List (ByteArray × (Int × Bool))) (s : ByteArray) : List (ByteArray × Bool) := if chk d s = 0 then readN rd ch s else rd

set_option maxRecDepth 100000 in
set_option maxHeartbeats 2000000 in
theorem Get_any {W : World} {t b r c : Nat} {n : Int} {q : Option Addr} {d : Bool} {T : Tr ByteArray Int} {rd : List (ByteArray × Bool)} {ch : List (ByteArray × (Int × Bool))} (h : TxnC W t b n q r c d) (hT : sd.Is W q T) (hr : MapAt Value.bool W r rd) (hc : MapAt evc W c ch) (s : ByteArray) (hs : s.size ≤ 9223372036854775807) (hrl : rd.length < 1000000) :
    Calls Try.prog 17 #[.pointer (some ⟨t, 0, none⟩), .string s] W fun e w' => e = .returned (.tuple #[.int .i64 (getR d ch T s).1, errV (getR d ch T s).2]) ∧ BC r W w' ∧ MapAt Value.bool w' r (readG d rd ch s) := by
  have H := Lib.hid h; have HT := Lib.hid hT; have HR := Lib.hid hr; have HC := Lib.hid hc
  clear h hT hr hc
  obtain ⟨G, hG⟩ : ∃ G, getR d ch T s = G := ⟨_, rfl⟩
  obtain ⟨RG, hRG⟩ : ∃ X, readG d rd ch s = X := ⟨_, rfl⟩
  have HGR := Lib.hid hG; have HRG := Lib.hid hRG
  rw [hG, hRG]
  clear hG hRG
  by_cases h0 : chk d s = 0
  · go_enter Try.func17, Try.ntmps17
    go_wp2_with fail
    refine (check_any H.out s hs).mono ?_; rintro e w1 ⟨rfl, rfl⟩
    rw [h0]
    simp only [errV, if_true]
    go_wp2_with fail
    refine (see_any H.out HT.out HR.out HC.out s hs hrl).mono ?_; rintro e w2 ⟨rfl, b2, m2⟩
    have HB2 := Lib.hid b2
    have HM2 : Hid (MapAt Value.bool w2 r RG) := Lib.hid (by rw [← HRG.out]; unfold readG; rw [if_pos h0]; exact m2)
    clear b2 m2
    unfold seeR
    cases hg : getA s ch with
    | some x =>
      have HGA := Lib.hid hg; clear hg
      simp only
      cases hx : x.2 with
      | true =>
        have HE : Hid (G = (0, 5)) := Lib.hid (by rw [← HGR.out]; simp [getR, h0, HGA.out, hx])
        clear hx
        simp only [Bool.not_true]
        go_wp2_with fail
        go_ret2
        exact ⟨by rw [HE.out]; rfl, HB2.out, HM2.out⟩
      | false =>
        have HE : Hid (G = (x.1, 0)) := Lib.hid (by rw [← HGR.out]; simp [getR, h0, HGA.out, hx])
        clear hx
        simp only [Bool.not_false]
        go_wp2_with fail
        go_ret2
        exact ⟨by rw [HE.out]; rfl, HB2.out, HM2.out⟩
    | none =>
      have HGA := Lib.hid hg; clear hg
      simp only
      obtain ⟨F, hF⟩ : ∃ F, findF sd.lt s T = F := ⟨_, rfl⟩
      have HF2 := Lib.hid hF
      rw [hF]
      clear hF
      cases F with
      | nil =>
        have HE : Hid (G = (0, 5)) := Lib.hid (by rw [← HGR.out]; simp [getR, h0, HGA.out, HF2.out])
        simp only [sd.getV]
        go_wp2_with fail
        go_ret2
        exact ⟨by rw [HE.out]; rfl, HB2.out, HM2.out⟩
      | node l nk nv r =>
        have HE : Hid (G = (nv, 0)) := Lib.hid (by rw [← HGR.out]; simp [getR, h0, HGA.out, HF2.out])
        simp only [sd.getV]
        go_wp2_with fail
        go_ret2
        exact ⟨by rw [HE.out]; rfl, HB2.out, HM2.out⟩
  · have HE : Hid (G = (0, chk d s)) := Lib.hid (by rw [← HGR.out]; unfold getR; rw [if_neg h0])
    have HM2 : Hid (MapAt Value.bool W r RG) := Lib.hid (by rw [← HRG.out]; unfold readG; rw [if_neg h0]; exact HR.out)
    go_enter Try.func17, Try.ntmps17
    go_wp2_with fail
    refine (check_any H.out s hs).mono ?_; rintro e w1 ⟨rfl, rfl⟩
    have he : errV (chk d s) = .iface 60 (.int .i64 (chk d s)) := by unfold errV; rw [if_neg h0]; rfl
    have HV := Lib.hid he
    rw [he]
    clear he h0
    generalize chk d s = cd at *
    go_wp2_with fail
    go_ret2
    exact ⟨by rw [HE.out]; simp only; rw [HV.out]; rfl, BC.refl _ _, HM2.out⟩
end S
end Go.Proofs.Ytlfodhejpbjfcaa
