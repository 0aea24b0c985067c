/- The ends of the law's round. No walk. -/
import Derived.Test.YtlfodhejpbjfcaaSerB
set_option linter.unusedVariables false
set_option linter.unusedSimpArgs false
namespace Go.Proofs.Ytlfodhejpbjfcaa
open Go.RowKit
theorem OnT.mono {ts ts' : List TypeId} {A B : World} (h : OnT ts A B) (hs : ∀ t ∈ ts, t ∈ ts') : OnT ts' A B :=
  ⟨h.os, h.tape, h.output, h.size, fun k o e hn => h.block k o e (fun cs t fz e' ht => hn cs t fz e' (hs t ht))⟩
namespace S
/-- Ahead of each act. -/
def SerRel (lo p : Nat) (m : Sl) (rs : Nat → R5) (D E : Nat) (i : Nat) (now : Value) (wr : World) : Prop :=
  ∃ X Vs f va vs, SerAt i lo wr p X Vs m rs f ∧ Half lo wr D 62 29 4 encAc va (lgA f) ∧ Half lo wr E 64 3 1 encIn vs (lgI f) ∧ Prs 0 wr now X.T.toList
theorem half_start {α : Type} (lo : Nat) (W : World) (t e : TypeId) (size : Nat) (enc : α → List Value) (hlo : lo ≤ W.heap.size) : Half lo (W.alloc (.cells #[.slice none 0 0, .slice none 0 0, .slice none 0 0, .slice none 0 0] t)) W.heap.size t e size enc (fun _ => sl0) (fun _ => []) :=
  ⟨heap_new _ _, hlo, fun _ _ => SlA.nil _ _ _ _ _, fun _ _ _ _ _ => Sep.nil _⟩
abbrev HalfA (lo : Nat) (W : World) (D : Nat) (va : Nat → Sl) (L : Nat → List ActS) : Prop := Half lo W D 62 29 4 encAc va L
abbrev HalfI (lo : Nat) (W : World) (D : Nat) (va : Nat → Sl) (L : Nat → List Int) : Prop := Half lo W D 64 3 1 encIn va L
abbrev ButA (k : Nat) (s : Sl) (l : List ActS) (lo : Nat) (W : World) (D : Nat) (va : Nat → Sl) (L : Nat → List ActS) : Prop := HalfBut k s l lo W D 62 29 4 encAc va L
abbrev ButI (k : Nat) (s : Sl) (l : List Int) (lo : Nat) (W : World) (D : Nat) (va : Nat → Sl) (L : Nat → List Int) : Prop := HalfBut k s l lo W D 64 3 1 encIn va L
theorem lgA_up (f : Slots3) (k : Nat) (y : Tx × RT × List (ActS × Int)) : lgA (up f k (some y)) = up (lgA f) k (y.2.2.map Prod.fst) := by
  funext j
  unfold lgA up
  by_cases h : j = k
  · simp [h]
  · simp [h]
theorem lgI_up (f : Slots3) (k : Nat) (y : Tx × RT × List (ActS × Int)) : lgI (up f k (some y)) = up (lgI f) k (y.2.2.map Prod.snd) := by
  funext j
  unfold lgI up
  by_cases h : j = k
  · simp [h]
  · simp [h]
theorem lgA_at {f : Slots3} {k : Nat} {x : Tx} {t : RT} {A : List (ActS × Int)} (hf : f k = some (x, t, A)) : lgA f k = A.map Prod.fst := by unfold lgA; rw [hf]
theorem lgI_at {f : Slots3} {k : Nat} {x : Tx} {t : RT} {A : List (ActS × Int)} (hf : f k = some (x, t, A)) : lgI f k = A.map Prod.snd := by unfold lgI; rw [hf]
theorem lgA_same {f : Slots3} {k : Nat} {x x' : Tx} {t t' : RT} {A : List (ActS × Int)} (hf : f k = some (x, t, A)) : lgA (up f k (some (x', t', A))) = lgA f := by
  rw [lgA_up, ← lgA_at hf]
  funext j
  unfold up
  split
  · rename_i e; rw [e]
  · rfl
theorem lgI_same {f : Slots3} {k : Nat} {x x' : Tx} {t t' : RT} {A : List (ActS × Int)} (hf : f k = some (x, t, A)) : lgI (up f k (some (x', t', A))) = lgI f := by
  rw [lgI_up, ← lgI_at hf]
  funext j
  unfold up
  split
  · rename_i e; rw [e]
  · rfl
section
variable {K lo p k D E : Nat} {w : World} {X : Bx} {Vs : List Ver} {m : Sl} {rs : Nat → R5} {f : Slots3} {va vs : Nat → Sl} {s1 s2 : Sl} {now : Value}
/-- Both stores. -/
theorem stores_onT (hD : LgC w D 62 va) (hE : LgC w E 64 vs) (s1 s2 : Sl) :
    OnT tsL w ((w.setCell ⟨D, k, none⟩ (slV s1)).setCell ⟨E, k, none⟩ (slV s2)) ∧ KeepT 49 w ((w.setCell ⟨D, k, none⟩ (slV s1)).setCell ⟨E, k, none⟩ (slV s2)) := by
  have o1 : OnT tsL w (w.setCell ⟨D, k, none⟩ (slV s1)) := OnT.set (a := ⟨D, k, none⟩) hD (by decide) _
  have hE' : LgC (w.setCell ⟨D, k, none⟩ (slV s1)) E 64 vs := KeepT.setCell (a := ⟨D, k, none⟩) hD (by decide) _ _ _ hE
  have o2 : OnT tsL (w.setCell ⟨D, k, none⟩ (slV s1)) ((w.setCell ⟨D, k, none⟩ (slV s1)).setCell ⟨E, k, none⟩ (slV s2)) := OnT.set (a := ⟨E, k, none⟩) hE' (by decide) _
  exact ⟨o1.trans o2, (o1.trans o2).keepT (by decide)⟩
theorem halves_store (hk : k < 4) {l1 : List ActS} {l2 : List Int} {LA : Nat → List ActS} {LI : Nat → List Int} (hD : ButA k s1 l1 lo w D va LA) (hE : ButI k s2 l2 lo w E vs LI) :
    HalfA lo ((w.setCell ⟨D, k, none⟩ (slV s1)).setCell ⟨E, k, none⟩ (slV s2)) D (up va k s1) (up LA k l1) ∧ HalfI lo ((w.setCell ⟨D, k, none⟩ (slV s1)).setCell ⟨E, k, none⟩ (slV s2)) E (up vs k s2) (up LI k l2) := by
  have d1 := hD.store hk (by decide)
  have e1 : ButI k s2 l2 lo (w.setCell ⟨D, k, none⟩ (slV s1)) E vs LI := hE.keep (KeepT.setCell (a := ⟨D, k, none⟩) hD.1 (by decide)) (KeepT.setCell (a := ⟨D, k, none⟩) hD.1 (by decide))
  have e2 := e1.store hk (by decide)
  exact ⟨d1.keep (KeepT.setCell (a := ⟨E, k, none⟩) e1.1 (by decide)) (KeepT.setCell (a := ⟨E, k, none⟩) e1.1 (by decide)), e2⟩
theorem rel_end {x x' : Tx} {t t' : RT} {Al : List (ActS × Int)} {a : ActS} {sv : Int} (hk : k < 4) (hf : f k = some (x, t, Al)) (hS : SerAt K lo w p X Vs m rs (up f k (some (x', t', Al ++ [(a, sv)])))) (hD : ButA k s1 (lgA f k ++ [a]) lo w D va (lgA f)) (hE : ButI k s2 (lgI f k ++ [sv]) lo w E vs (lgI f)) (hnow : Prs 0 w now X.T.toList) :
    SerRel lo p m rs D E K now ((w.setCell ⟨D, k, none⟩ (slV s1)).setCell ⟨E, k, none⟩ (slV s2)) := by
  obtain ⟨o, kn⟩ := stores_onT (k := k) hD.1 hE.1 s1 s2
  obtain ⟨h1, h2⟩ := halves_store hk hD hE
  rw [lgA_at hf] at h1
  rw [lgI_at hf] at h2
  refine ⟨X, Vs, _, up va k s1, up vs k s2, hS.onT o, ?_, ?_, hnow.keep kn⟩
  · rw [lgA_up]
    simpa using h1
  · rw [lgI_up]
    simpa using h2
theorem rel_begin {x : Tx} (hk : k < 4) (hP : SerAt K lo w p X Vs m rs f) (hD : HalfA lo w D va (lgA f)) (hE : HalfI lo w E vs (lgI f)) (hnow : Prs 0 w now X.T.toList)
    (hx : TxAt w X.b x) (ha : X.apart x) (hap : ∀ j, j < 4 → ∀ y, f j = some y → x.apart y.1) (hlo : lo ≤ x.t ∧ lo ≤ x.r ∧ lo ≤ x.c) {t0 r0 c0 : Nat} (hxe : x = ⟨t0, r0, c0, X.N, X.q, X.T, false, [], []⟩) (hK : K ≤ 60) :
    SerRel lo p m rs D E (K + 1) now (((w.setCell ⟨D, k, none⟩ (slV sl0)).setCell ⟨E, k, none⟩ (slV sl0)).setCell ⟨p, 2 + k, none⟩ (.pointer (some ⟨x.t, 0, none⟩))) := by
  obtain ⟨o, kn⟩ := stores_onT (k := k) hD.1 hE.1 sl0 sl0
  obtain ⟨h1, h2⟩ := halves_store hk (hD.nilBut k) (hE.nilBut k)
  have hP2 := hP.onT o
  have hB := hP.2.2.1
  have hS := hP.2.2.2.1
  have hkp : ∀ {ty : TypeId}, ty ≠ 43 → KeepT ty ((w.setCell ⟨D, k, none⟩ (slV sl0)).setCell ⟨E, k, none⟩ (slV sl0)) (((w.setCell ⟨D, k, none⟩ (slV sl0)).setCell ⟨E, k, none⟩ (slV sl0)).setCell ⟨p, 2 + k, none⟩ (.pointer (some ⟨x.t, 0, none⟩))) := fun ht => KeepT.setCell (a := ⟨p, 2 + k, none⟩) hP2.1 (Ne.symm ht)
  have hlast : (beginR Vs).sees.length ≤ 20 + 60 * K := by
    show (lastL Vs).length ≤ _
    unfold lastL
    have hp := hB.pos
    rw [List.getLast?_eq_getElem?, List.getElem?_eq_getElem (by omega)]
    exact (hS.2.2.2 _ (List.getElem_mem _)).1
  have hn := hP2.put hk (t := beginR Vs) (hx.onT o) ha hap hlo (by rw [hxe]; exact inv_begin hB t0 r0 c0) (by rw [hxe]; exact ⟨by simp, by simp, by omega, by simp [beginR], by simp [beginR]⟩) (by rw [hxe]; exact histT_new hB t0 r0 c0) (fun _ => by rw [hxe]; exact repOk_new _ _ _ _ _ _)
  refine ⟨X, Vs, _, up va k sl0, up vs k sl0, hn, ?_, ?_, (hnow.keep kn).keep (hkp (by decide))⟩
  · rw [lgA_up]
    exact h1.keep (hkp (by decide)) (hkp (by decide))
  · rw [lgI_up]
    exact h2.keep (hkp (by decide)) (hkp (by decide))
/-- What the drawn regions of the law look at. -/
def SerS (D E g : Nat) (va vs : Nat → Sl) (kd tx : Nat) (s : ByteArray) (z : Int) (w : World) : Prop :=
  LgC w D 62 va ∧ LgC w E 64 vs ∧ w.heap[g]? = some (.cells #[.int .u8 (kd : Int), .int .u8 (tx : Int), .string s, .int .i64 z] 29 (0, 0))
theorem SerS.keep {g kd tx : Nat} {s : ByteArray} {z : Int} {w w' : World} (h : SerS D E g va vs kd tx s z w) (h1 : KeepT 62 w w') (h2 : KeepT 64 w w') (h3 : KeepT 29 w w') : SerS D E g va vs kd tx s z w' :=
  ⟨h1 _ _ _ h.1, h2 _ _ _ h.2.1, h3 _ _ _ h.2.2⟩
theorem SerS.below {g kd tx : Nat} {s : ByteArray} {z : Int} {w w' : World} (h : SerS D E g va vs kd tx s z w) (hb : Below w.heap.size w w') : SerS D E g va vs kd tx s z w' := h.keep (KeepT.below hb) (KeepT.below hb) (KeepT.below hb)
/-- append to the acts of slot k. -/
theorem app_act {w0 : World} {LA : Nat → List ActS} (h : HalfA lo w0 D va LA) (hk : k < 4) (hlo : lo ≤ w0.heap.size) (hl : (LA k).length ≤ 1000) {kd tx : Nat} {s : ByteArray} {z : Int} {g : Nat} (hS : SerS D E g va vs kd tx s z w0) (hg : ∀ b, (slV (va k)).ownBlock = some b → b < g) :
    ∃ (s1 : Sl) (w' : World), (Builtin.append_ #[23, 23] 23 #[slV (va k), .slice (some ⟨w0.heap.size, 0, none⟩) 1 1]).run Try.prog (w0.alloc (.cells #[.int .u8 (kd : Int), .int .u8 (tx : Int), .string s, .int .i64 z] 29)) = .ok (slV s1) w' ∧
      ButA k s1 (LA k ++ [(kd, tx, s, z)]) lo w' D va LA ∧ OnT [29] w0 w' ∧ Below lo w0 w' ∧ SerS D E g va vs kd tx s z w' := by
  obtain ⟨s1, w', hrun, hB, ho, hb, hoth⟩ := h.app elemAc encAc_len 23 hk (by decide) hlo (kd, tx, s, z) 1 (cs := #[.int .u8 (kd : Int), .int .u8 (tx : Int), .string s, .int .i64 z]) rfl (encAc_one _) (by omega) (ts := [29]) (by decide)
  refine ⟨s1, w', hrun, hB, ho, hb, hB.1, ho.cells hS.2.1 (by decide), hoth g (fun e => ?_) _ hS.2.2⟩
  have := hg g e; omega
/-- append to the answers of slot k. -/
theorem app_int {w0 : World} {LI : Nat → List Int} (h : HalfI lo w0 E vs LI) (hk : k < 4) (hlo : lo ≤ w0.heap.size) (hl : (LI k).length ≤ 1000) (z : Int) :
    ∃ (s2 : Sl) (w' : World), (Builtin.append_ #[63, 63] 63 #[slV (vs k), .slice (some ⟨w0.heap.size, 0, none⟩) 1 1]).run Try.prog (w0.alloc (.cells #[.int .i64 z] 3)) = .ok (slV s2) w' ∧
      ButI k s2 (LI k ++ [z]) lo w' E vs LI ∧ OnT [3] w0 w' ∧ Below lo w0 w' := by
  obtain ⟨s1, w', hrun, hB, ho, hb, hoth⟩ := h.app elemIn encIn_len 63 hk (by decide) hlo z 1 (cs := #[.int .i64 z]) rfl (encIn_one _) (by omega) (ts := [3]) (by decide)
  exact ⟨s1, w', hrun, hB, ho, hb⟩
end
end S
end Go.Proofs.Ytlfodhejpbjfcaa
