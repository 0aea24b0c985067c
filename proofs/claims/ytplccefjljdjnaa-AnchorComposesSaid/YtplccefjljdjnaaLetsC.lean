/- AnchorLetters: what is made for it; the walk. -/
import Derived.Test.YtplccefjljdjnaaApply
import Derived.Test.YtplccefjljdjnaaMapsC
import Derived.Test.YtplccefjljdjnaaAccAt
set_option linter.unusedVariables false
set_option linter.unusedSimpArgs false
namespace Go.Proofs.Ytplccefjljdjnaa
open Go.RowKit Go.Lib
namespace M
attribute [local go_sem] Oper.semAt_some
theorem mask62' (x : Int) : ∃ m : Nat, bits .and .i64 x 4611686018427387903 = (m : Int) ∧ m ≤ 4611686018427387903 := by
  have h : (BitVec.ofInt 64 x &&& BitVec.ofInt 64 4611686018427387903).toNat ≤ 4611686018427387903 := by
    rw [BitVec.toNat_and]
    exact Nat.le_trans Nat.and_le_right (by decide)
  have e : bits .and .i64 x 4611686018427387903 = IntKind.i64.wrap ((BitVec.ofInt 64 x &&& BitVec.ofInt 64 4611686018427387903).toNat : Int) := rfl
  generalize (BitVec.ofInt 64 x &&& BitVec.ofInt 64 4611686018427387903).toNat = m at h e
  exact ⟨m, by rw [e, IntKind.wrap_i64]; omega, h⟩
/-- What has been made for a law: a store of few rules, changes. -/
structure Mdk (n0 B : Nat) (w : World) (S : List Spc) (E : List En) (L : List Chg) (v1 : Value) (b1 k : Nat) : Prop where
  st : StAt n0 w B 1048576 E
  wf : WfD E
  few : E.length ≤ k
  mt : Mt E L S
  chs : Chs b1 w v1 L
  len : L.length ≤ 12
  tl : ∀ c ∈ L, (txt E c.id).length ≤ 40
theorem Mdk.below {n0 B : Nat} {w w' : World} {S : List Spc} {E : List En} {L : List Chg} {v1 : Value} {b1 k : Nat} (h : Mdk n0 B w S E L v1 b1 k) (hb : Below w.heap.size w w') : Mdk n0 B w' S E L v1 b1 k :=
  ⟨h.st.below hb, h.wf, h.few, h.mt, h.chs.below hb, h.len, h.tl⟩
theorem insF_le (E : List En) : ∀ (L : List Chg) (k : Nat), (∀ c ∈ L, (txt E c.id).length ≤ k) → insF E L ≤ L.length * k
  | [], _, _ => by simp [insF]
  | c :: L, k, h => by
    rw [insF_cons, List.length_cons, Nat.succ_mul]
    have := insF_le E L k (fun d hd => h d (by simp [hd]))
    have := h c (by simp)
    omega
theorem insF_ext {E E2 : List En} (hx : Ext E E2) : ∀ (L : List Chg), (∀ c ∈ L, c.id ≤ E.length) → insF E2 L = insF E L
  | [], _ => rfl
  | c :: L, h => by rw [insF_cons, insF_cons, hx.txt (h c (by simp)), insF_ext hx L (fun d hd => h d (by simp [hd]))]
theorem lngF_ext {E E2 : List En} (hx : Ext E E2) {L : List Chg} (h : ∀ c ∈ L, c.id ≤ E.length) (len : Int) : lngF E2 len L = lngF E len L := by
  unfold lngF
  rw [insF_ext hx L h]
/-- The store has grown. -/
theorem Mdk.grow {n0 B : Nat} {w w' : World} {S : List Spc} {E E2 : List En} {L : List Chg} {v1 : Value} {b1 k k2 : Nat} (h : Mdk n0 B w S E L v1 b1 k) (hs : StAt n0 w' B 1048576 E2) (hw : WfD E2) (hx : Ext E E2) (hk : E2.length ≤ k2) (hkt : Kt w w') : Mdk n0 B w' S E2 L v1 b1 k2 :=
  ⟨hs, hw, hk, h.mt.ext hx, kt_chs h.chs hkt, h.len, fun c hc => by rw [hx.txt (h.mt.2.1 c hc).1]; exact h.tl c hc⟩
/-- made, for a law: out of a store of few rules. -/
theorem madeK_any {n0 B k : Nat} {W : World} {E0 : List En} (hs : StAt n0 W B 1048576 E0) (hw : WfD E0) (hk : E0.length ≤ k) (hkb : k ≤ 100000) {v : Value} {S : List Spc} (hS : RowSp W v S) (hsm : smallF S = true) (hn0 : n0 ≤ W.heap.size) (hout : ∀ (a : Addr) n c, v = .slice (some a) n c → 0 < n → a.block < n0) :
    Calls Try.prog 16 #[.pointer (some ⟨B, 0, none⟩), v] W fun e w' => ∃ E L v1 v2, e = .returned (.tuple #[v1, v2, .bool true]) ∧ (∃ a2 n2 c2, v2 = .slice a2 n2 c2) ∧ Mdk n0 B w' S E L v1 W.heap.size (k + 960) ∧ Ext E0 E ∧ Below n0 W w' :=
  (made_any hs hw hS hsm (by omega) (by omega) hn0 (fun a n c h h0 => .inl (hout a n c h h0))).mono fun e w' ⟨E, L, v1, v2, he, h1, h2, h3, h4, h5, h6, h7, h8⟩ => by
    have hsl := (small_le hsm).1
    obtain ⟨a2, c2, e2⟩ := h7.len
    exact ⟨E, L, v1, v2, he, ⟨_, _, _, e2⟩, ⟨h1, h2, by omega, h5, h6, by rw [h5.len]; exact hsl, fun c hc => mt_tl h5 hsm c hc⟩, h3, h8⟩
theorem dep13 : Dep 13 700 := ⟨by decide, by decide⟩
/-- balance.Text of a string. -/
theorem text_conv (w : World) (s : ByteArray) : ∃ gc w1, (∀ h : True, bytesWorld w 5 s = w1) ∧ Below w.heap.size w w1 ∧ ByV w1 w.heap.size 0 (bts s) ∧ s.size ≤ gc ∧ grownCap w s.size 0 5 = gc := by
  exact ⟨_, _, fun _ => rfl, bw_below w s, bw_byv w s, by have := grownCap_ge w s.size 0 5; omega, rfl⟩
/-- A kept letter's anchors. -/
theorem lets_plain {E : List En} {t : List Nat} {L : List Chg} (h : (lngF E t.length L).2 = 0) {x : Nat} (hx : x < t.length) :
    ancF (mvsF E 0 L) (lngF E t.length L).1 t.length x true = ((mapF E x 0 L).2.1, (mapF E x 0 L).2.2) ∧ (ancF (mvsF E 0 L) (lngF E t.length L).1 t.length (x + 1) false).2 = (mapF E x 0 L).2.2 ∧
    ((mapF E x 0 L).2.2 = true → 0 ≤ (mapF E x 0 L).2.1 ∧ (patF E t 0 L)[((mapF E x 0 L).2.1).toNat]? = t[x]? ∧ (ancF (mvsF E 0 L) (lngF E t.length L).1 t.length (x + 1) false).1 = (mapF E x 0 L).2.1 + 1) := by
  obtain ⟨o1, o2, o3, o4, o5⟩ := lngF_ok h
  have e1 : ancF (mvsF E 0 L) (lngF E t.length L).1 t.length x true = ((mapF E x 0 L).2.1, (mapF E x 0 L).2.2) := by rw [anc_R o3, if_neg (by omega)]
  have e2 : ancF (mvsF E 0 L) (lngF E t.length L).1 t.length (x + 1) false = (plL (mapF E x 0 L), (mapF E x 0 L).2.2) := by
    rw [anc_L o3, if_neg (by omega)]
    rw [show ((x : Int) + 1 - 1) = x by omega]
  obtain ⟨c1, c2, c3⟩ := mapF_hi (E := E) (y := x) (len := t.length) (by omega) L (-1) 0 o3
  rw [e1, e2]
  refine ⟨rfl, rfl, fun hk => ?_⟩
  have h3 := c3 hk
  obtain ⟨i1, i2⟩ := patF_map (E := E) (t := t) (y := x) L (-1) 0 0 o3 (by omega) (by omega) (by omega) hk
  unfold plL
  dsimp only
  rw [if_pos hk, ← h3]
  refine ⟨by omega, ?_, rfl⟩
  have e3 : ((mapF E x 0 L).1 - ((0 : Nat) + 0 : Int)).toNat = (mapF E x 0 L).1.toNat := by congr 1; omega
  rw [e3] at i2
  simpa using i2
end M
end Go.Proofs.Ytplccefjljdjnaa
