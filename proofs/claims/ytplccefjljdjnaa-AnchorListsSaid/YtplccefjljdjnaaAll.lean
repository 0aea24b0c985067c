/- anchor.MapAll. -/
import Derived.Test.YtplccefjljdjnaaBase
import Derived.Test.YtplccefjljdjnaaMake
import Derived.Test.YtplccefjljdjnaaBack
namespace Go.Proofs.Ytplccefjljdjnaa
open Go.RowKit

theorem heap_set {W : World} {g : Nat} {cs : Array Value} {t : TypeId} {i : Nat} (v : Value) (h : W.heap[g]? = some (.cells cs t (0, 0))) : (W.setCell ⟨g, i, none⟩ v).heap[g]? = some (.cells (cs.setIfInBounds i v) t (0, 0)) := by
  obtain ⟨hlt, hk⟩ := Array.getElem?_eq_some_iff.1 h
  show (W.heap.modify g _)[g]? = _
  rw [Array.getElem?_eq_getElem (by rw [Array.size_modify]; exact hlt), Array.getElem_modify_self, hk]
  rfl

/-- Block g is a row of n elements; element i is F i where D holds. -/
def Arr {α : Type} (ev : α → Value) (t : TypeId) (w : World) (g n : Nat) (D : Nat → Prop) (F : Nat → α) : Prop :=
  ∃ cs : Array Value, w.heap[g]? = some (.cells cs t (0, 0)) ∧ cs.size = n ∧ ∀ i, i < n → D i → cs[i]? = some (ev (F i))
section
variable {α : Type} {ev : α → Value} {t : TypeId} {w : World} {g n : Nat} {D : Nat → Prop} {F : Nat → α}
theorem Arr.lt (h : Arr ev t w g n D F) : g < w.heap.size := by obtain ⟨cs, h, -⟩ := h; exact (Array.getElem?_eq_some_iff.1 h).1
theorem Arr.cell (h : Arr ev t w g n D F) {i : Nat} (hi : i < n) (hd : D i) : w.cell? ⟨g, i, none⟩ = some (ev (F i)) := by
  obtain ⟨cs, h, -, hc⟩ := h
  simp [World.cell?, h, hc i hi hd]
theorem Arr.held (h : Arr ev t w g n D F) {i : Nat} (hi : i < n) : ∃ u, w.cell? ⟨g, i, none⟩ = some u := by
  obtain ⟨cs, h, hs, -⟩ := h
  exact ⟨cs[i]'(by omega), by simp [World.cell?, h, hs, hi]⟩
theorem Arr.free (h : Arr ev t w g n D F) (i : Nat) : w.frozen? ⟨g, i, none⟩ = false := by
  obtain ⟨cs, h, -⟩ := h
  simp [World.frozen?, h]
theorem Arr.below {w' : World} (h : Arr ev t w g n D F) (hb : Below w.heap.size w w') : Arr ev t w' g n D F := by
  obtain ⟨cs, h, r⟩ := h
  exact ⟨cs, box_below hb h, r⟩
theorem Arr.set (h : Arr ev t w g n D F) {i : Nat} {v : Value} (hv : v = ev (F i)) {D' : Nat → Prop} (hd : ∀ k, D' k → k ≠ i → D k) : Arr ev t (w.setCell ⟨g, i, none⟩ v) g n D' F := by
  subst hv
  obtain ⟨cs, h, hs, hc⟩ := h
  refine ⟨_, heap_set _ h, by simp [hs], fun k hk hdk => ?_⟩
  by_cases e : i = k
  · subst e; rw [Array.getElem?_setIfInBounds_self_of_lt (by omega)]
  · rw [Array.getElem?_setIfInBounds_ne e]; exact hc k hk (hd k hdk (fun x => e x.symm))
theorem Arr.setAny (h : Arr ev t w g n D F) {i : Nat} (v : Value) {D' : Nat → Prop} (hd : ∀ k, D' k → k ≠ i ∧ D k) : Arr ev t (w.setCell ⟨g, i, none⟩ v) g n D' F := by
  obtain ⟨cs, h, hs, hc⟩ := h
  refine ⟨_, heap_set _ h, by simp [hs], fun k hk hdk => ?_⟩
  rw [Array.getElem?_setIfInBounds_ne (fun e => (hd k hdk).1 e.symm)]
  exact hc k hk (hd k hdk).2
theorem Arr.other (h : Arr ev t w g n D F) {a : Addr} (v : Value) (ha : g ≠ a.block) : Arr ev t (w.setCell a v) g n D F := by
  obtain ⟨cs, h, r⟩ := h
  refine ⟨cs, ?_, r⟩
  rw [Below.heap_setCell]
  · exact h
  · exact ha
theorem Arr.made (w : World) (z : Value) (n : Nat) (t : TypeId) (ev : α → Value) (F : Nat → α) : Arr ev t (w.alloc (.cells (madeCells #[z] n) t)) w.heap.size n (fun _ => False) F :=
  ⟨_, heap_new w _, size_madeCells _ _, fun _ _ h => h.elim⟩
theorem Arr.dom (h : Arr ev t w g n D F) {D' : Nat → Prop} (hd : ∀ i, i < n → D' i → D i) : Arr ev t w g n D' F := by
  obtain ⟨cs, h1, h2, h3⟩ := h
  exact ⟨cs, h1, h2, fun i hi hD => h3 i hi (hd i hi hD)⟩
theorem Arr.row (h : Arr ev t w g n D F) (hd : ∀ i, i < n → D i) (hn : n ≤ maxLen) : RowAt ev w (.slice (some ⟨g, 0, none⟩) n n) ((List.range n).map F) := by
  refine ⟨some ⟨g, 0, none⟩, n, by simp, by simp, hn, fun i hi => ⟨_, rfl, ?_⟩⟩
  have hi' : i < n := by simpa using hi
  have e : (⟨g, 0, none⟩ : Addr).add i = ⟨g, i, none⟩ := by unfold Addr.add; split <;> simp_all
  rw [e, h.cell hi' (hd i hi')]
  simp
end
theorem box_other {W : World} {B : Nat} {o : Obj} {a : Addr} (v : Value) (h : W.heap[B]? = some o) (ha : B ≠ a.block) : (W.setCell a v).heap[B]? = some o := by
  rw [Below.heap_setCell]
  · exact h
  · exact ha
end Go.Proofs.Ytplccefjljdjnaa
namespace Go.Proofs.Ytplccefjljdjnaa
open Go.RowKit Go.Lib
namespace M
attribute [local go_sem] Oper.semAt_some
/-- Where anchors go. -/
def resA (E : List En) (len : Int) (L : List Chg) (A : List (Int × Bool)) : List (Int × Bool) := A.map (fun a => ((ancF (mvsF E 0 L) (lngF E len L).1 len a.1 a.2).1, a.2))
/-- The cells of anchors, one behind the other. -/
def cellA (R : List (Int × Bool)) (p : Nat) : Value := match R[p / 2]? with
  | some q => if p % 2 = 0 then .int .i64 q.1 else .bool q.2
  | none => undef
abbrev ArA (w : World) (g n i : Nat) (R : List (Int × Bool)) : Prop := Arr (fun v : Value => v) 33 w g (n * 2) (· < i * 2) (cellA R)
theorem addr_at (g k : Nat) : (⟨g, 0, none⟩ : Addr).add k = ⟨g, k, none⟩ := by unfold Addr.add; split <;> simp_all
theorem ArA.row {w : World} {g n : Nat} {R : List (Int × Bool)} (h : ArA w g n n R) (hn : R.length = n) (hm : n ≤ maxLen) : RowAn w (.slice (some ⟨g, 0, none⟩) n n) R := by
  subst hn
  refine ⟨_, R.length, rfl, Nat.le_refl _, hm, fun i hi => ⟨_, rfl, ?_, ?_⟩⟩
  · rw [addr_at, Arr.cell h (i := i * 2) (by omega) (by show i * 2 < R.length * 2; omega)]
    unfold cellA
    rw [show i * 2 / 2 = i by omega, List.getElem?_eq_getElem hi]
    simp
  · rw [addr_at]
    dsimp only
    rw [Arr.cell h (i := i * 2 + 1) (by omega) (by show i * 2 + 1 < R.length * 2; omega)]
    unfold cellA
    rw [show (i * 2 + 1) / 2 = i by omega, List.getElem?_eq_getElem hi]
    simp
theorem ArA.put {w : World} {g n i : Nat} {R : List (Int × Bool)} (h : ArA w g n i R) {q : Int × Bool} (hq : R[i]? = some q) : ArA ((w.setCell ⟨g, i * 2, none⟩ (.int .i64 q.1)).setCell ⟨g, i * 2 + 1, none⟩ (.bool q.2)) g n (i + 1) R := by
  have h1 : Arr (fun v : Value => v) 33 (w.setCell ⟨g, i * 2, none⟩ (.int .i64 q.1)) g (n * 2) (fun p => p < i * 2 + 1) (cellA R) :=
    Arr.set h (by unfold cellA; rw [show i * 2 / 2 = i by omega, hq]; simp) (fun k hk hne => by show k < i * 2; have : k < i * 2 + 1 := hk; omega)
  exact Arr.set h1 (by unfold cellA; rw [show (i * 2 + 1) / 2 = i by omega, hq]; simp) (fun k hk hne => by show k < i * 2 + 1; have : k < (i + 1) * 2 := hk; omega)
def AllP (E : List En) (len : Int) (L : List Chg) (A : List (Int × Bool)) (W : World) (e : Ending) (w' : World) : Prop :=
  ((prepF E len L A = 0 ∧ ∃ v, e = .returned (.tuple #[v, .nilIface]) ∧ RowAn w' v (resA E len L A)) ∨
  (prepF E len L A ≠ 0 ∧ e = .returned (.tuple #[.slice none 0 0, err (prepF E len L A)]))) ∧ Below W.heap.size W w'
set_option maxRecDepth 100000 in
set_option maxHeartbeats 8000000 in
theorem mapAll_any {n0 B most b0 : Nat} {W : World} {E : List En} (hs : StAt n0 W B most E) (hwf : Wf E) (hE : E.length ≤ 1048576) {v va : Value} {L : List Chg} {A : List (Int × Bool)} (hC : Chs b0 W v L) (hT : Txs E L) (hLb : L.length ≤ 1000000) (hA : RowAn W va A) (hAb : A.length ≤ 1000) (len : Int) :
    Calls Try.prog 25 #[.pointer (some ⟨B, 0, none⟩), .int .i64 len, v, va] W (AllP E len L A W) := by
  obtain ⟨la, lc, rfl⟩ := hC.len
  have HA := Lib.hid hA
  have HPR := Lib.hid (prepare_any hs hwf hE hC hT hLb hA (by omega) len)
  obtain ⟨aa, ac, rfl, -⟩ := hA
  obtain ⟨n, hn⟩ : ∃ n, A.length = n := ⟨_, rfl⟩
  rw [hn] at HA HPR hAb ⊢
  have HN := Lib.hid hn
  have hmk : ∀ w : World, (Instr.makeSlice 50 (.int .i64 n) (.int .i64 n)).run Try.prog w = .ok (.slice (some ⟨w.heap.size, 0, none⟩) n n) (w.alloc (.cells (madeCells #[.int .i64 0, .bool false] (n * 2)) 33)) := fun w => by
    have h := mk_run (P := Try.prog) (t := 50) (e := 33) (z := .agg #[.int .i64 0, .bool false]) (size := 2) (bytes := 16) (by kernel_rfl) (by kernel_rfl) n n (by omega) (by omega) (by omega) w
    have hz : (Value.agg #[.int .i64 0, .bool false]).cells = #[Value.int .i64 0, .bool false] := rfl
    rw [hz] at h
    simpa using h
  have HOKP : Hid (∀ (w : World) (v : Value), prepF E len L A = 0 → RowAn w v (resA E len L A) → Below W.heap.size W w → AllP E len L A W (.returned (.tuple #[v, .nilIface])) w) := Lib.hid (fun w v h1 h2 h3 => ⟨.inl ⟨h1, v, rfl, h2⟩, h3⟩)
  have HBADP : Hid (∀ (w : World) (c : Int), prepF E len L A = c → c ≠ 0 → Below W.heap.size W w → AllP E len L A W (.returned (.tuple #[.slice none 0 0, err c])) w) := Lib.hid (fun w c h1 h2 h3 => ⟨.inr ⟨by rw [h1]; exact h2, by rw [h1]⟩, h3⟩)
  clear hs hwf hC hT hn
  go_enter Try.func25, Try.ntmps25
  go_wp2_with fail
  refine HPR.out.mono ?_
  rintro e w1 (⟨hp, mv, rfl, hM, b1⟩ | ⟨hp, rfl, b1⟩)
  · obtain ⟨hl0, hax⟩ := prepF_ok hp
    obtain ⟨o1, o2, o3, -, -⟩ := lngF_ok hl0
    have HIB := Lib.hid (mvs_inB hl0)
    have HSO := Lib.hid (mvsF_sorted (E := E) L (-1) 0 o3)
    have HP := Lib.hid hp; have HAX := Lib.hid hax; have HLB := Lib.hid o2
    obtain ⟨nl, hnl⟩ : ∃ n, (lngF E len L).1 = n := ⟨_, rfl⟩
    have HNL := Lib.hid hnl
    rw [hnl]
    obtain ⟨ma, mc, rfl⟩ := hM.len
    have HML : Hid ((mvsF E 0 L).length ≤ 1000000) := Lib.hid (by rw [mvsF_len]; exact hLb)
    obtain ⟨ml, hml⟩ : ∃ n, (mvsF E 0 L).length = n := ⟨_, rfl⟩
    rw [hml] at hM ⊢
    have B1 := Lib.hid b1
    obtain ⟨gm, hgm⟩ : ∃ g, w1.heap.size = g := ⟨_, rfl⟩
    obtain ⟨w2, hw2⟩ : ∃ w, w1.alloc (.cells #[.slice ma ml mc, .int .i64 nl] 96) = w := ⟨_, rfl⟩
    have k2 : MsC w2 gm (.slice ma ml mc) nl := by rw [← hw2, ← hgm]; exact heap_new' _ _
    have b2 : Below w1.heap.size w1 w2 := by rw [← hw2]; exact (Below.refl _ _).alloc (Nat.le_refl _) _
    have B2 := Lib.hid (Below.after B1.out b2)
    have K2 := Lib.hid k2
    have HM2 := Lib.hid (hM.below b2)
    have HA2 := Lib.hid (HA.out.below B2.out)
    obtain ⟨w3, hw3⟩ : ∃ w, w2.alloc (.cells (madeCells #[.int .i64 0, .bool false] (n * 2)) 33) = w := ⟨_, rfl⟩
    obtain ⟨ga, hga⟩ : ∃ g, w2.heap.size = g := ⟨_, rfl⟩
    have HGA := Lib.hid hga
    have HR3 : Hid (ArA w3 ga n 0 (resA E len L A)) := Lib.hid (by
      rw [← hw3, ← hga]
      refine ⟨_, heap_new' _ _, size_madeCells _ _, fun i _ h0 => ?_⟩
      have h0' : i < 0 * 2 := h0
      omega)
    have HB3 : Hid (Below ga w2 w3) := Lib.hid (by rw [← hw3, ← hga]; exact (Below.refl _ _).alloc (Nat.le_refl _) _)
    have HRL : Hid (∀ i (h : i < A.length), (resA E len L A)[i]? = some ((ancF (mvsF E 0 L) nl len A[i].1 A[i].2).1, A[i].2)) := Lib.hid (fun i h => by
      unfold resA
      rw [List.getElem?_map, List.getElem?_eq_getElem h, hnl]; rfl)
    clear hp hax hl0 o1 o2 o3 hnl hM b1 hml k2 b2 HPR
    go_wp2_with fail
    clear hw2 hgm hw3 hga hmk
    go_loopw [31] (fun iv wr => ∃ i : Nat, iv = .int .i64 i ∧ i ≤ n ∧ ArA wr ga n i (resA E len L A) ∧ Below ga w2 wr) (fun iv _ => n - (intOf iv).toNat)
    case atStart => exact ⟨0, rfl, Nat.zero_le _, HR3.out, HB3.out⟩
    case round =>
      clear HR3 HB3
      obtain ⟨i, rfl, hi, hR, hB⟩ := hrel
      have HR := Lib.hid hR; have HB := Lib.hid hB
      clear hR hB
      by_cases hlt : i < n
      · have hlt2 : (i : Int) < (n : Int) := by omega
        have hlt3 : (0 : Int) ≤ (i : Int) := by omega
        have hb' : Below w2.heap.size w2 wr := by rw [HGA.out]; exact HB.out
        obtain ⟨a', cap', ha', -, -, hAi⟩ := HA2.out.below hb'
        rw [HN.out] at ha'
        simp only [Value.slice.injEq] at ha'
        obtain ⟨rfl, -, rfl⟩ := ha'
        have hil : i < A.length := by rw [HN.out]; exact hlt
        obtain ⟨b, rfl, q0, q1⟩ := hAi i hil
        obtain ⟨x1, x2⟩ := HAX.out _ (List.getElem_mem hil)
        have hrl := HRL.out i hil
        generalize A[i] = ax at *
        obtain ⟨x, r⟩ := ax
        dsimp only at q0 q1 x1 x2 hrl
        have HRI := Lib.hid hrl
        obtain ⟨wz, w5, hz, hs1, ka, ba, ⟨p0, p1⟩, f0, f1⟩ := newAn wr x r
        obtain ⟨gx, hgx⟩ : ∃ g, wr.heap.size = g := ⟨_, rfl⟩
        rw [hgx] at hs1 p0 p1 f0 f1 ka
        obtain ⟨y0, y1, -, -⟩ := ka.cells
        obtain ⟨m0, m1, -, -⟩ := MsC.cells (show MsC w5 gm (.slice ma ml mc) nl from below_block ba (below_block hb' K2.out))
        have HAN := Lib.hid (anchor_any (nl := nl) (right := r) ((HM2.out.below hb').below ba) HSO.out HML.out ⟨x1, x2, HLB.out⟩ HIB.out)
        obtain ⟨rx, rb, hres⟩ : ∃ a b, ancF (mvsF E 0 L) nl len x r = (a, b) := ⟨_, _, rfl⟩
        rw [hres] at HAN HRI
        have HB5 : Hid (Below ga w2 w5) := Lib.hid (by rw [← HGA.out]; exact Below.after hb' ba)
        have HR5 := Lib.hid (Arr.below HR.out ba)
        clear hAi hrl hres ka ba hb' x1 x2 hil
        go_wp2_with fail
        clear hz hs1 p0 p1 f0 f1 hgx q0 q1 y0 y1 m0 m1
        refine HAN.out.mono ?_
        rintro e w6 ⟨rfl, b6⟩
        have hr6 := Arr.below HR5.out b6
        obtain ⟨u0, hu0⟩ := hr6.held (i := i * 2) (by omega)
        obtain ⟨u1, hu1⟩ := hr6.held (i := i * 2 + 1) (by omega)
        have hz0 := hr6.free (i * 2)
        have hz1 := hr6.free (i * 2 + 1)
        have HX1 := Lib.hid (ArA.put hr6 HRI.out)
        have HX2 : Hid (Below ga w2 ((w6.setCell ⟨ga, i * 2, none⟩ (.int .i64 rx)).setCell ⟨ga, i * 2 + 1, none⟩ (.bool r))) := Lib.hid (((HB5.out.trans (b6.mono (Nat.le_trans (by rw [HGA.out]; exact Nat.le_refl _) HB5.out.size))).setCell (p := ⟨ga, i * 2, none⟩) (Nat.le_refl _) _).setCell (p := ⟨ga, i * 2 + 1, none⟩) (Nat.le_refl _) _)
        dsimp only at HX1
        clear hr6 b6 HAN
        go_wp2_with fail
        clear hu0 hu1 hz0 hz1
        go_roundw
        case rel => exact ⟨i + 1, by go_num, by omega, HX1.out, HX2.out⟩
        case measure => first | (simp [intOf]; omega) | simp [intOf]
      · have hlt2 : ¬ (i : Int) < (n : Int) := by omega
        obtain rfl : i = n := by omega
        have HX1 : Hid (RowAn wr (.slice (some ⟨ga, 0, none⟩) i i) (resA E len L A)) := Lib.hid (HR.out.row (by unfold resA; rw [List.length_map]; exact HN.out) (by unfold maxLen; omega))
        have HX2 : Hid (Below W.heap.size W wr) := Lib.hid (Below.after B2.out (by rw [HGA.out]; exact HB.out))
        clear hlt
        go_wp2_with fail
        go_ret2
        exact HOKP.out _ _ HP.out HX1.out HX2.out
  · obtain ⟨cd, hcd⟩ : ∃ c, prepF E len L A = c := ⟨_, rfl⟩
    have HCD := Lib.hid hcd
    rw [hcd] at hp ⊢
    have HNZ := Lib.hid hp
    unfold err
    have B1 := Lib.hid b1
    obtain ⟨w4, hw4⟩ : ∃ w, w1.alloc (.cells #[.slice none 0 0, .int .i64 0] 96) = w := ⟨_, rfl⟩
    have b4 : Below w1.heap.size w1 w4 := by rw [← hw4]; exact (Below.refl _ _).alloc (Nat.le_refl _) _
    have k4 : MsC w4 w1.heap.size (.slice none 0 0) 0 := by rw [← hw4]; exact heap_new' _ _
    obtain ⟨e0, e1, e2, e3⟩ := k4.cells
    obtain ⟨w5, hw5⟩ : ∃ w, (w4.setCell ⟨w1.heap.size, 0, none⟩ (.slice none 0 0)).setCell ⟨w1.heap.size, 1, none⟩ (.int .i64 0) = w := ⟨_, rfl⟩
    have b5 : Below w1.heap.size w1 w5 := by rw [← hw5]; exact (b4.setCell (p := ⟨w1.heap.size, 0, none⟩) (Nat.le_refl _) _).setCell (p := ⟨w1.heap.size, 1, none⟩) (Nat.le_refl _) _
    have HB5 := Lib.hid (Below.after B1.out b5)
    clear b1 b4 b5 k4 HPR hcd hp hmk
    go_wp2_with fail
    go_ret2
    exact HBADP.out _ cd HCD.out HNZ.out HB5.out
end M
end Go.Proofs.Ytplccefjljdjnaa
