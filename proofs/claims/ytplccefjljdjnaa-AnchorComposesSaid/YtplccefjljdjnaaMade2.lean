/- The law's made: changes laid into a store, and the reference's changes. -/
import Derived.Test.YtplccefjljdjnaaMade
import Derived.Test.YtplccefjljdjnaaPrep
set_option linter.unusedVariables false
set_option linter.unusedSimpArgs false
namespace Go.Proofs.Ytplccefjljdjnaa
open Go.RowKit Go.Lib
namespace M
attribute [local go_sem] Oper.semAt_some
structure Rc where
  pos : Int
  n : Int
  len : Nat
def encRc (c : Rc) : List Value := [.int .i64 c.pos, .int .i64 c.n, .int .i64 c.len]
theorem encRc_len (c : Rc) : (encRc c).length = 3 := rfl
theorem encRc_one (c : Rc) : ∀ u ∈ encRc c, u.oneCell' = true := by simp [encRc, Value.oneCell']
abbrev Rcs (B : Nat) (W : World) (v : Value) (L : List Rc) : Prop := SlA B W 93 3 encRc v L
theorem elemRc : Elem Try.prog 29 93 3 24 := elem_of Try.underlying29 (z := .agg #[.int .i64 0, .int .i64 0, .int .i64 0]) (by kernel_rfl) rfl (by decide) (by decide)
/-- A change, as the reference has it. -/
def rcOf (E : List En) (c : Chg) : Rc := ⟨c.pos, c.n, (txt E c.id).length⟩
/-- The changes are those of the argument. -/
def Mt (E : List En) (L : List Chg) (S : List Spc) : Prop := L.map (fun c => (c.pos, c.n, txt E c.id)) = S.map (fun s => (s.pos, s.n, bts s.text)) ∧ Txs E L ∧ ∀ c ∈ L, (c.id = 0 ↔ txt E c.id = [])
theorem Mt.ext {E E2 : List En} {L : List Chg} {S : List Spc} (h : Mt E L S) (hx : Ext E E2) : Mt E2 L S := by
  obtain ⟨h1, h2, h3⟩ := h
  refine ⟨?_, fun c hc => ⟨Nat.le_trans (h2 c hc).1 hx.le, by rw [hx.ent (h2 c hc).1]; exact (h2 c hc).2⟩, fun c hc => by rw [hx.txt (h2 c hc).1]; exact h3 c hc⟩
  rw [← h1]
  refine List.map_congr_left fun c hc => ?_
  rw [hx.txt (h2 c hc).1]
theorem Mt.snoc {E : List En} {L : List Chg} {S : List Spc} {c : Chg} {s : Spc} (h : Mt E L S) (hp : c.pos = s.pos) (hn : c.n = s.n) (ht : txt E c.id = bts s.text) (hi : c.id ≤ E.length) (he : (entAt E c.id).even = true) (h0 : c.id = 0 ↔ txt E c.id = []) : Mt E (L ++ [c]) (S ++ [s]) := by
  obtain ⟨h1, h2, h3⟩ := h
  refine ⟨by rw [List.map_append, List.map_append, h1]; simp [hp, hn, ht], fun x hx => ?_, fun x hx => ?_⟩
  · rcases List.mem_append.1 hx with g | g
    · exact h2 x g
    · simp only [List.mem_singleton] at g; subst g; exact ⟨hi, he⟩
  · rcases List.mem_append.1 hx with g | g
    · exact h3 x g
    · simp only [List.mem_singleton] at g; subst g; exact h0
theorem Mt.len {E : List En} {L : List Chg} {S : List Spc} (h : Mt E L S) : L.length = S.length := by
  have := congrArg List.length h.1
  simpa using this
theorem Mt.rcs {E : List En} {L : List Chg} {S : List Spc} (h : Mt E L S) : L.map (rcOf E) = S.map (fun s => (⟨s.pos, s.n, s.text.size⟩ : Rc)) := by
  have h1 := congrArg (List.map (fun p : Int × Int × List Nat => (⟨p.1, p.2.1, p.2.2.length⟩ : Rc))) h.1
  rw [List.map_map, List.map_map] at h1
  have e1 : L.map (rcOf E) = L.map ((fun p : Int × Int × List Nat => (⟨p.1, p.2.1, p.2.2.length⟩ : Rc)) ∘ (fun c => (c.pos, c.n, txt E c.id))) := rfl
  rw [e1, h1]
  refine List.map_congr_left fun s _ => ?_
  simp only [Function.comp, bts_length]
theorem bw_below (w : World) (s : ByteArray) : Below w.heap.size w (bytesWorld w 5 s) := by
  refine ⟨rfl, ?_, ?_, ?_, fun k hk => bytesWorld_at_old w _ s k hk⟩
  · simp [bytesWorld, World.freeze, World.alloc, World.drew, -World.alloc_eq, -World.drew_eq]
  · simp [bytesWorld, World.freeze, World.alloc, World.drew, -World.alloc_eq, -World.drew_eq]
  · rw [bytesWorld_size]; omega
theorem bw_byv (w : World) (s : ByteArray) : ByV (bytesWorld w 5 s) w.heap.size 0 (bts s) := by
  refine ⟨_, _, bytesWorld_at_new w _ s, fun i x hi => ?_⟩
  have hil : i < s.size := by have := (List.getElem?_eq_some_iff.1 hi).1; rwa [bts_length] at this
  have hx : x = (s.data.toList.getD i 0).toNat := by
    simp only [bts, List.getElem?_map, Option.map_eq_some_iff] at hi
    obtain ⟨y, hy, rfl⟩ := hi
    rw [List.getD_eq_getElem?_getD, hy]; rfl
  have h := bytesWorld_cell w 5 s i hil
  have h' : (bytesCells w 5 s)[i]? = some (.int .u8 (s.data.toList.getD i 0).toNat) := by simpa [World.cell?, bytesWorld_at_new] using h
  rw [Nat.zero_add, h', hx]
/-- All below a block stands, and all changes of the argument. -/
def KB (n0 : Nat) (W w : World) : Prop := Below n0 W w ∧ KeepT 86 W w
theorem KB.refl (n0 : Nat) (W : World) : KB n0 W W := ⟨Below.refl _ _, KeepT.refl _ _⟩
theorem KB.step {n0 : Nat} {W A C : World} (h : KB n0 W A) (hn : n0 ≤ A.heap.size) (hb : Below A.heap.size A C) : KB n0 W C := ⟨h.1.trans (hb.mono hn), h.2.trans (KeepT.below hb)⟩
theorem KB.kt {n0 : Nat} {W A C : World} (h : KB n0 W A) (hb : Below n0 A C) (hk : Kt A C) : KB n0 W C := ⟨h.1.trans hb, h.2.trans (fun k cs fz e => hk _ (by decide) (by decide) k cs fz e)⟩
theorem KB.own {n0 b0 : Nat} {W A C : World} (h : KB n0 W A) {α : Type} {e : TypeId} {size : Nat} {enc : α → List Value} {v : Value} {l : List α} {o : Obj} (hn : n0 ≤ b0) (hb : Below b0 A C) (hS : SlA b0 A e size enc v l) (hg : (A.alloc o).grownBy C v.ownBlock) (ht : 86 ≠ e) : KB n0 W C := by
  have hb2 : Below A.heap.size A (A.alloc o) := (Below.refl _ _).alloc (Nat.le_refl _) _
  exact ⟨h.1.trans (hb.mono hn), (h.2.trans (KeepT.below hb2)).trans (keep_own (hS.below hb2) hg ht)⟩
/-- What made has made. -/
def MadeP (n0 B most : Nat) (E : List En) (W : World) (S : List Spc) (e : Ending) (w' : World) : Prop := ∃ E' L v1 v2, e = .returned (.tuple #[v1, v2, .bool true]) ∧ StAt n0 w' B most E' ∧ WfD E' ∧ Ext E E' ∧ E'.length ≤ E.length + 80 * S.length ∧ Mt E' L S ∧ Chs W.heap.size w' v1 L ∧ Rcs W.heap.size w' v2 (L.map (rcOf E')) ∧ Below n0 W w'
set_option maxRecDepth 100000 in
set_option maxHeartbeats 8000000 in
theorem made_any {n0 B most : Nat} {W : World} {E : List En} (hs : StAt n0 W B most E) (hwf : WfD E) {v : Value} {S : List Spc} (hS : RowSp W v S) (hsm : smallF S = true) (hmost : E.length + 1000 ≤ most) (hE : E.length + 1000 ≤ 1048575) (hn0 : n0 ≤ W.heap.size) (hout : ∀ (a : Addr) n c, v = .slice (some a) n c → 0 < n → a.block < n0 ∨ ∃ cs fz, W.heap[a.block]? = some (.cells cs 86 fz)) :
    Calls Try.prog 16 #[.pointer (some ⟨B, 0, none⟩), v] W (MadeP n0 B most E W S) := by
  have HF : ∀ f, Fence.wide.fn f := fun _ => trivial
  have H := Lib.hid hS; have HS := Lib.hid hs; have HWF := Lib.hid hwf; have HN0 := Lib.hid hn0; have HRM := Lib.hid (And.intro hmost hE)
  obtain ⟨va, vc, rfl, -, hcm, -⟩ := hS
  unfold maxLen at hcm
  have HOU : Hid (∀ a, va = some a → 0 < S.length → ∀ w, KB n0 W w → w.heap[a.block]? = W.heap[a.block]?) := Lib.hid (fun a h h0 w hw => by
    rcases hout a _ _ (by rw [h]) h0 with g | ⟨cs, fz, g⟩
    · exact hw.1.block _ g
    · rw [g]; exact hw.2 _ _ _ g)
  have hsm2 : S.length ≤ 12 ∧ ∀ s ∈ S, s.text.size ≤ 40 := by
    unfold smallF at hsm
    simp only [Bool.and_eq_true, decide_eq_true_eq] at hsm
    refine ⟨hsm.2, fun s hs => ?_⟩
    have := List.all_eq_true.1 hsm.1 s hs
    simpa using this
  have HSM := Lib.hid hsm2
  clear hs hwf hsm hmost hE hn0 hout hsm2
  go_enter Try.func16, Try.ntmps16
  go_wp2_with fail
  go_loopw [7, 8, 9] (fun pv qv iv wr => ∃ (i : Nat) (E' : List En) (L : List Chg), iv = .int .i64 i ∧ i ≤ S.length ∧ StAt n0 wr B most E' ∧ WfD E' ∧ Ext E E' ∧ E'.length ≤ E.length + 80 * i ∧ Mt E' L (S.take i) ∧ Chs W.heap.size wr pv L ∧ Rcs W.heap.size wr qv (L.map (rcOf E')) ∧ KB n0 W wr ∧ W.heap.size ≤ wr.heap.size) (fun _ _ iv _ => S.length - (intOf iv).toNat)
  case atStart => exact ⟨0, E, [], rfl, Nat.zero_le _, HS.out, HWF.out, Ext.refl _, by omega, ⟨rfl, fun c hc => by simp at hc, fun c hc => by simp at hc⟩, SlA.nil _ _ _ _ _, SlA.nil _ _ _ _ _, KB.refl _ _, Nat.le_refl _⟩
  case round =>
    obtain ⟨i, E1, L, rfl, hi, hst, hwf, hx, hle, hmt, hch, hrc, hB, hz⟩ := hrel
    obtain ⟨pa, pc, rfl⟩ := hch.len
    obtain ⟨qa, qc, rfl⟩ := hrc.len
    have hLl : L.length = i := by rw [hmt.len, List.length_take]; omega
    have hLm : (L.map (rcOf E1)).length = i := by rw [List.length_map]; exact hLl
    rw [hLl] at hch ⊢
    rw [hLm] at hrc ⊢
    have HST := Lib.hid hst; have HW1 := Lib.hid hwf; have HX := Lib.hid hx; have HLE := Lib.hid hle; have HMT := Lib.hid hmt; have HCH := Lib.hid hch; have HRC := Lib.hid hrc; have HB := Lib.hid hB; have HZ := Lib.hid hz; have HLL := Lib.hid (And.intro hLl hLm)
    clear hst hwf hx hle hmt hch hrc hB hz hLl hLm
    by_cases hlt : i < S.length
    · have hlt2 : (i : Int) < (S.length : Int) := by omega
      have hlt3 : (0 : Int) ≤ (i : Int) := by omega
      obtain ⟨a', cap', ha', hs1, hs2, hSi⟩ := H.out
      simp only [Value.slice.injEq] at ha'
      obtain ⟨rfl, -, rfl⟩ := ha'
      obtain ⟨b, rfl, hbl, hsp⟩ := hSi i hlt
      have hbn := HOU.out b rfl (by omega)
      have HSP : Hid (∀ w, KB n0 W w → SpAt w (b.add (i * 3)) S[i]) := Lib.hid (fun w hw => hsp.keep (by rw [add_block]; exact hbn w hw))
      have hsz := HSM.out.2 S[i] (List.getElem_mem hlt)
      have HTS : Hid (S.take (i + 1) = S.take i ++ [S[i]]) := Lib.hid (take_snoc hlt)
      generalize S[i] = s at *
      obtain ⟨q0, q1, q2⟩ := HSP.out wr HB.out
      have hcv := Lib.run_convert_string_bytes (P := Try.prog) wr 9 75 5 s.text Try.underlying9 Try.underlying75 Try.underlying5

      have hb2 := bw_below wr s.text
      have hv2 := bw_byv wr s.text
      have hgc : s.text.size ≤ grownCap wr s.text.size 0 5 := by have := grownCap_ge wr s.text.size 0 5; omega
      have hgm : grownCap wr s.text.size 0 5 ≤ maxLen := grownCap_le_maxLen wr s.text.size 0 5 (by unfold maxLen; omega)
      obtain ⟨w1, hw1⟩ : ∃ w, bytesWorld wr 5 s.text = w := ⟨_, rfl⟩
      obtain ⟨gc, hgce⟩ : ∃ c, grownCap wr s.text.size 0 5 = c := ⟨_, rfl⟩
      rw [hw1] at hcv hb2 hv2
      rw [hgce] at hcv hgc hgm
      have HBT := Lib.hid (btxt_any (HST.out.below hb2) HW1.out (bts_length s.text) hv2 hgc hgm (by omega) (bts_small s.text) (by have := HLE.out; have := HRM.out.1; have := HSM.out.1; omega) (by have := HLE.out; have := HRM.out.2; have := HSM.out.1; omega))
      have HB1 := Lib.hid hb2
      clear hv2 hgc hgm hgce hb2
      go_wp2_with fail
      refine HBT.out.mono ?_
      rintro e w2 ⟨E2, id, rfl, s2, f2, x2, n2, hid, hid0, htx, hev, b2, kt2⟩
      have HS2 := Lib.hid s2; have HF2 := Lib.hid f2; have HX2 := Lib.hid (HX.out.trans x2)
      have HLE2 : Hid (E2.length ≤ E.length + 80 * (i + 1)) := Lib.hid (by rw [bts_length] at n2; have := HLE.out; omega)
      have HMT2 : Hid (Mt E2 (L ++ [⟨s.pos, s.n, id⟩]) (S.take (i + 1))) := Lib.hid (by rw [HTS.out]; exact (HMT.out.ext x2).snoc rfl rfl htx hid hev (by rw [htx]; exact hid0))
      have HB2 := Lib.hid ((HB.out.step (Nat.le_trans HN0.out HZ.out) HB1.out).kt b2 kt2)
      have HZ2 : Hid (W.heap.size ≤ w2.heap.size) := Lib.hid (Nat.le_trans HZ.out (Nat.le_trans HB1.out.size b2.size))
      have HCH2 := Lib.hid (SlA.keep (HCH.out.below HB1.out) (fun k cs fz h => kt2 _ (by decide) (by decide) _ _ _ h))
      have HRC2 := Lib.hid (SlA.keep (HRC.out.below HB1.out) (fun k cs fz h => kt2 _ (by decide) (by decide) _ _ _ h))
      have HRE : Hid (L.map (rcOf E1) = L.map (rcOf E2)) := Lib.hid (List.map_congr_left fun c hc => by unfold rcOf; rw [x2.txt (HMT.out.2.1 c hc).1])
      have HTL : Hid ((txt E2 id).length = s.text.size) := Lib.hid (by rw [htx, bts_length])
      clear s2 f2 x2 n2 hid hid0 htx hev b2 kt2 HBT hw1 hcv q0 q1 q2
      go_wp2_with fail
      have m0 : ∀ w, KB n0 W w → w.cell? (b.add (i * 3)) = some (.int .i64 s.pos) := fun w hw => (HSP.out w hw).1
      have m1 : ∀ w, KB n0 W w → w.cell? ⟨(b.add (i * 3)).block, (b.add (i * 3)).off + 1, none⟩ = some (.int .i64 s.n) := fun w hw => (HSP.out w hw).2.1
      have m2 : ∀ w, KB n0 W w → w.cell? ⟨(b.add (i * 3)).block, (b.add (i * 3)).off + 2, none⟩ = some (.string s.text) := fun w hw => (HSP.out w hw).2.2
      refine wp_region_anyH (KB n0 W) (by kernel_rfl) ?_
      obtain ⟨wd, hwd⟩ : ∃ w, w2.drew = w := ⟨_, rfl⟩
      have SD : Below w2.heap.size w2 wd := by rw [← hwd]; exact (Below.refl _ _).drew
      rw [hwd]
      clear hwd
      have S0 : KB n0 W wd := HB2.out.step (Nat.le_trans HN0.out HZ2.out) SD
      have HZd : Hid (W.heap.size ≤ wd.heap.size) := Lib.hid (Nat.le_trans HZ2.out SD.size)
      have HSd := Lib.hid (HS2.out.below SD)
      obtain ⟨v3, w3, hrun3, s3, g3, b3⟩ := run_app1 elemCh encCh_len 28 (HCH2.out.below SD) ⟨s.pos, s.n, id⟩ 1 (cs := #[.int .i64 s.pos, .int .i64 s.n, .int .i64 id]) rfl (encCh_one _) (by have := HLL.out.1; have := HSM.out.1; omega) HZd.out
      have hl3 : (L ++ [(⟨s.pos, s.n, id⟩ : Chg)]).length = i + 1 := by rw [List.length_append, List.length_singleton, HLL.out.1]
      obtain ⟨a3, c3, he3⟩ := s3.len
      rw [hl3] at he3
      subst he3
      have S3 : KB n0 W w3 := S0.own HN0.out b3 (HCH2.out.below SD) g3 (by decide)
      have HS3 := Lib.hid (StAt.app' HSd.out (HCH2.out.below SD) g3 (by decide) (by decide))
      have HCH3 := Lib.hid s3
      have HRC3 := Lib.hid (SlA.keep (HRC2.out.below SD) (fun k cs fz h => app_other (HCH2.out.below SD) g3 h (by decide)))
      have HZ3 : Hid (W.heap.size ≤ w3.heap.size) := Lib.hid (Nat.le_trans HZd.out b3.size)
      have SB : KB n0 W (wd.alloc (.cells #[.int .i64 s.pos, .int .i64 s.n, .int .i64 id] 71)) := S0.step (Nat.le_trans HN0.out HZd.out) ((Below.refl _ _).alloc (Nat.le_refl _) _)
      clear hl3 s3 g3 b3 SD
      refine AnyH.take (i := 0) (d := some 31) (v := ?_) (by kernel_rfl) rfl rfl HF (fun _ _ _ h => h) (.inl ⟨by rfl, ?_⟩) (by first | assumption | rfl) ?_
      rotate_left
      · intro w hS; try subst hS
        go_simp; try with_reducible rfl
      try simp only [Act.put, List.setIfInBounds_toArray, List.set_cons_zero, List.set_cons_succ]
      refine AnyH.take (i := 1) (d := some 32) (v := ?_) (by kernel_rfl) rfl rfl HF (fun _ _ _ h => h) (.inl ⟨by rfl, ?_⟩) (by first | assumption | rfl) ?_
      rotate_left
      · intro w hS; try subst hS
        go_simp; try with_reducible rfl
      try simp only [Act.put, List.setIfInBounds_toArray, List.set_cons_zero, List.set_cons_succ]
      refine AnyH.take (i := 2) (d := some 33) (v := ?_) (by kernel_rfl) rfl rfl HF (fun _ _ _ h => h) (.inl ⟨by rfl, ?_⟩) (by first | assumption | rfl) ?_
      rotate_left
      · intro w hS; try subst hS
        go_simp; try with_reducible rfl
      try simp only [Act.put, List.setIfInBounds_toArray, List.set_cons_zero, List.set_cons_succ]
      refine AnyH.take (i := 3) (d := some 34) (v := ?_) (by kernel_rfl) rfl rfl HF (fun _ _ _ h => h) (.inl ⟨by rfl, ?_⟩) (by first | assumption | rfl) ?_
      rotate_left
      · intro w hS; try subst hS
        go_simp; try with_reducible rfl
      try simp only [Act.put, List.setIfInBounds_toArray, List.set_cons_zero, List.set_cons_succ]
      refine AnyH.take (i := 4) (d := some 35) (v := ?_) (by kernel_rfl) rfl rfl HF (fun _ _ _ h => h) (.inl ⟨by rfl, ?_⟩) (by first | assumption | rfl) ?_
      rotate_left
      · intro w hS; try subst hS
        go_simp; try with_reducible rfl
      try simp only [Act.put, List.setIfInBounds_toArray, List.set_cons_zero, List.set_cons_succ]
      refine AnyH.take (i := 5) (d := some 36) (v := ?_) (by kernel_rfl) rfl rfl HF (fun _ _ _ h => h) (.inl ⟨by rfl, ?_⟩) (by first | assumption | rfl) ?_
      rotate_left
      · intro w hS; try subst hS
        go_simp; try with_reducible rfl
      try simp only [Act.put, List.setIfInBounds_toArray, List.set_cons_zero, List.set_cons_succ]
      refine AnyH.take (i := 6) (d := some 37) (v := ?_) (by kernel_rfl) rfl rfl HF (fun _ _ _ h => h) (.inl ⟨by rfl, ?_⟩) (by first | assumption | rfl) ?_
      rotate_left
      · intro w hS; try subst hS
        go_simp; try with_reducible rfl
      try simp only [Act.put, List.setIfInBounds_toArray, List.set_cons_zero, List.set_cons_succ]
      refine AnyH.take (i := 7) (d := some 38) (v := ?_) (by kernel_rfl) rfl rfl HF (fun _ _ _ h => h) (.inl ⟨by rfl, ?_⟩) (by first | assumption | rfl) ?_
      rotate_left
      · intro w hS; try subst hS
        go_simp; try with_reducible rfl
      try simp only [Act.put, List.setIfInBounds_toArray, List.set_cons_zero, List.set_cons_succ]
      refine AnyH.take (i := 8) (d := some 39) (v := ?_) (by kernel_rfl) rfl rfl HF (fun _ _ _ h => h) (.inl ⟨by rfl, ?_⟩) (by first | assumption | rfl) ?_
      rotate_left
      · intro w hS; try subst hS
        go_simp; try with_reducible rfl
      try simp only [Act.put, List.setIfInBounds_toArray, List.set_cons_zero, List.set_cons_succ]
      refine AnyH.take (i := 9) (d := some 40) (v := ?_) (by kernel_rfl) rfl rfl HF (fun _ _ _ h => h) (.inl ⟨by rfl, ?_⟩) (by first | assumption | rfl) ?_
      rotate_left
      · intro w hS; try subst hS
        go_simp; try with_reducible rfl
      try simp only [Act.put, List.setIfInBounds_toArray, List.set_cons_zero, List.set_cons_succ]
      refine AnyH.take (i := 10) (d := some 41) (v := ?_) (by kernel_rfl) rfl rfl HF (fun _ _ _ h => h) (.inl ⟨by rfl, ?_⟩) (by first | assumption | rfl) ?_
      rotate_left
      · intro w hS; try subst hS
        go_simp; try with_reducible rfl
      try simp only [Act.put, List.setIfInBounds_toArray, List.set_cons_zero, List.set_cons_succ]
      refine AnyH.take (i := 11) (d := some 42) (v := ?_) (by kernel_rfl) rfl rfl HF (fun _ _ _ h => h) (.inl ⟨by rfl, ?_⟩) (by first | assumption | rfl) ?_
      rotate_left
      · intro w hS; try subst hS
        go_simp; try with_reducible rfl
      try simp only [Act.put, List.setIfInBounds_toArray, List.set_cons_zero, List.set_cons_succ]
      refine AnyH.take (i := 12) (d := some 43) (v := ?_) (by kernel_rfl) rfl rfl HF (fun _ _ _ h => h) (.inl ⟨by rfl, ?_⟩) (by first | assumption | rfl) ?_
      rotate_left
      · intro w hS; try subst hS
        go_simp; try with_reducible rfl
      try simp only [Act.put, List.setIfInBounds_toArray, List.set_cons_zero, List.set_cons_succ]
      refine AnyH.one (i := 13) (by kernel_rfl) (by kernel_rfl) rfl HF (by rfl) (fun K hK => ?_)
      go_simp
      refine hK _ _ SB ?_
      clear hK K
      try simp only [Act.put, List.setIfInBounds_toArray, List.set_cons_zero, List.set_cons_succ]
      refine AnyH.one (i := 14) (by kernel_rfl) (by kernel_rfl) rfl HF (by rfl) (fun K hK => ?_)
      simp [execOp, resolve, invoke, builtin, hrun3, Result.andThen, Act.eval, Oper.uponIn]
      refine hK _ _ S3 ?_
      clear hK K hrun3 SB S0
      try simp only [Act.put, List.setIfInBounds_toArray, List.set_cons_zero, List.set_cons_succ]
      refine AnyH.take (i := 15) (d := some 7) (v := ?_) (by kernel_rfl) rfl rfl HF (fun _ _ _ h => h) (.inl ⟨by rfl, ?_⟩) (by first | assumption | rfl) ?_
      rotate_left
      · intro w hS; try subst hS
        go_simp; try with_reducible rfl
      try simp only [Act.put, List.setIfInBounds_toArray, List.set_cons_zero, List.set_cons_succ]
      refine AnyH.done (by kernel_rfl) ?_
      go_wp2_with fail
      refine wp_region_anyH (KB n0 W) (by kernel_rfl) ?_
      obtain ⟨we, hwe⟩ : ∃ w, w3.drew = w := ⟨_, rfl⟩
      have SE : Below w3.heap.size w3 we := by rw [← hwe]; exact (Below.refl _ _).drew
      rw [hwe]
      clear hwe
      have S4 : KB n0 W we := S3.step (Nat.le_trans HN0.out HZ3.out) SE
      have HZe : Hid (W.heap.size ≤ we.heap.size) := Lib.hid (Nat.le_trans HZ3.out SE.size)
      obtain ⟨v5, w5, hrun5, s5, g5, b5⟩ := run_app1 elemRc encRc_len 29 (HRC3.out.below SE) ⟨s.pos, s.n, s.text.size⟩ 1 (cs := #[.int .i64 s.pos, .int .i64 s.n, .int .i64 s.text.size]) rfl (encRc_one _) (by have := HLL.out.2; have := HSM.out.1; omega) HZe.out
      have hl5 : (L.map (rcOf E1) ++ [(⟨s.pos, s.n, s.text.size⟩ : Rc)]).length = i + 1 := by rw [List.length_append, List.length_singleton, HLL.out.2]
      obtain ⟨a5, c5, he5⟩ := s5.len
      rw [hl5] at he5
      subst he5
      have S5 : KB n0 W w5 := S4.own HN0.out b5 (HRC3.out.below SE) g5 (by decide)
      have HS5 := Lib.hid (StAt.app' (HS3.out.below SE) (HRC3.out.below SE) g5 (by decide) (by decide))
      have HRC5 : Hid (Rcs W.heap.size w5 (.slice a5 (i + 1) c5) ((L ++ [(⟨s.pos, s.n, id⟩ : Chg)]).map (rcOf E2))) := Lib.hid (by
        rw [List.map_append, ← HRE.out]
        have e : [(⟨s.pos, s.n, id⟩ : Chg)].map (rcOf E2) = [⟨s.pos, s.n, s.text.size⟩] := by simp [rcOf, HTL.out]
        rw [e]; exact s5)
      have HCH5 := Lib.hid (SlA.keep (HCH3.out.below SE) (fun k cs fz h => app_other (HRC3.out.below SE) g5 h (by decide)))
      have HZ5 : Hid (W.heap.size ≤ w5.heap.size) := Lib.hid (Nat.le_trans HZe.out b5.size)
      have SB : KB n0 W (we.alloc (.cells #[.int .i64 s.pos, .int .i64 s.n, .int .i64 s.text.size] 93)) := S4.step (Nat.le_trans HN0.out HZe.out) ((Below.refl _ _).alloc (Nat.le_refl _) _)
      clear hl5 s5 g5 b5 SE S3
      refine AnyH.take (i := 0) (d := some 46) (v := ?_) (by kernel_rfl) rfl rfl HF (fun _ _ _ h => h) (.inl ⟨by rfl, ?_⟩) (by first | assumption | rfl) ?_
      rotate_left
      · intro w hS; try subst hS
        go_simp; try with_reducible rfl
      try simp only [Act.put, List.setIfInBounds_toArray, List.set_cons_zero, List.set_cons_succ]
      refine AnyH.take (i := 1) (d := some 47) (v := ?_) (by kernel_rfl) rfl rfl HF (fun _ _ _ h => h) (.inl ⟨by rfl, ?_⟩) (by first | assumption | rfl) ?_
      rotate_left
      · intro w hS; try subst hS
        go_simp; try with_reducible rfl
      try simp only [Act.put, List.setIfInBounds_toArray, List.set_cons_zero, List.set_cons_succ]
      refine AnyH.take (i := 2) (d := some 48) (v := ?_) (by kernel_rfl) rfl rfl HF (fun _ _ _ h => h) (.inl ⟨by rfl, ?_⟩) (by first | assumption | rfl) ?_
      rotate_left
      · intro w hS; try subst hS
        go_simp; try with_reducible rfl
      try simp only [Act.put, List.setIfInBounds_toArray, List.set_cons_zero, List.set_cons_succ]
      refine AnyH.take (i := 3) (d := some 49) (v := ?_) (by kernel_rfl) rfl rfl HF (fun _ _ _ h => h) (.inl ⟨by rfl, ?_⟩) (by first | assumption | rfl) ?_
      rotate_left
      · intro w hS; try subst hS
        go_simp; try with_reducible rfl
      try simp only [Act.put, List.setIfInBounds_toArray, List.set_cons_zero, List.set_cons_succ]
      refine AnyH.take (i := 4) (d := some 50) (v := ?_) (by kernel_rfl) rfl rfl HF (fun _ _ _ h => h) (.inl ⟨by rfl, ?_⟩) (by first | assumption | rfl) ?_
      rotate_left
      · intro w hS; try subst hS
        go_simp; try with_reducible rfl
      try simp only [Act.put, List.setIfInBounds_toArray, List.set_cons_zero, List.set_cons_succ]
      refine AnyH.take (i := 5) (d := some 51) (v := ?_) (by kernel_rfl) rfl rfl HF (fun _ _ _ h => h) (.inl ⟨by rfl, ?_⟩) (by first | assumption | rfl) ?_
      rotate_left
      · intro w hS; try subst hS
        go_simp; try with_reducible rfl
      try simp only [Act.put, List.setIfInBounds_toArray, List.set_cons_zero, List.set_cons_succ]
      refine AnyH.take (i := 6) (d := some 52) (v := ?_) (by kernel_rfl) rfl rfl HF (fun _ _ _ h => h) (.inl ⟨by rfl, ?_⟩) (by first | assumption | rfl) ?_
      rotate_left
      · intro w hS; try subst hS
        go_simp; try with_reducible rfl
      try simp only [Act.put, List.setIfInBounds_toArray, List.set_cons_zero, List.set_cons_succ]
      refine AnyH.take (i := 7) (d := some 53) (v := ?_) (by kernel_rfl) rfl rfl HF (fun _ _ _ h => h) (.inl ⟨by rfl, ?_⟩) (by first | assumption | rfl) ?_
      rotate_left
      · intro w hS; try subst hS
        go_simp; try with_reducible rfl
      try simp only [Act.put, List.setIfInBounds_toArray, List.set_cons_zero, List.set_cons_succ]
      refine AnyH.take (i := 8) (d := some 54) (v := ?_) (by kernel_rfl) rfl rfl HF (fun _ _ _ h => h) (.inl ⟨by rfl, ?_⟩) (by first | assumption | rfl) ?_
      rotate_left
      · intro w hS; try subst hS
        go_simp; try with_reducible rfl
      try simp only [Act.put, List.setIfInBounds_toArray, List.set_cons_zero, List.set_cons_succ]
      refine AnyH.take (i := 9) (d := some 55) (v := ?_) (by kernel_rfl) rfl rfl HF (fun _ _ _ h => h) (.inl ⟨by rfl, ?_⟩) (by first | assumption | rfl) ?_
      rotate_left
      · intro w hS; try subst hS
        go_simp; try with_reducible rfl
      try simp only [Act.put, List.setIfInBounds_toArray, List.set_cons_zero, List.set_cons_succ]
      refine AnyH.take (i := 10) (d := some 56) (v := ?_) (by kernel_rfl) rfl rfl HF (fun _ _ _ h => h) (.inl ⟨by rfl, ?_⟩) (by first | assumption | rfl) ?_
      rotate_left
      · intro w hS; try subst hS
        go_simp; try with_reducible rfl
      try simp only [Act.put, List.setIfInBounds_toArray, List.set_cons_zero, List.set_cons_succ]
      refine AnyH.take (i := 11) (d := some 57) (v := ?_) (by kernel_rfl) rfl rfl HF (fun _ _ _ h => h) (.inl ⟨by rfl, ?_⟩) (by first | assumption | rfl) ?_
      rotate_left
      · intro w hS; try subst hS
        go_simp; try with_reducible rfl
      try simp only [Act.put, List.setIfInBounds_toArray, List.set_cons_zero, List.set_cons_succ]
      refine AnyH.take (i := 12) (d := some 58) (v := ?_) (by kernel_rfl) rfl rfl HF (fun _ _ _ h => h) (.inl ⟨by rfl, ?_⟩) (by first | assumption | rfl) ?_
      rotate_left
      · intro w hS; try subst hS
        go_simp; try with_reducible rfl
      try simp only [Act.put, List.setIfInBounds_toArray, List.set_cons_zero, List.set_cons_succ]
      refine AnyH.take (i := 13) (d := some 59) (v := ?_) (by kernel_rfl) rfl rfl HF (fun _ _ _ h => h) (.inl ⟨by rfl, ?_⟩) (by first | assumption | rfl) ?_
      rotate_left
      · intro w hS; try subst hS
        go_simp; try with_reducible rfl
      try simp only [Act.put, List.setIfInBounds_toArray, List.set_cons_zero, List.set_cons_succ]
      refine AnyH.take (i := 14) (d := some 60) (v := ?_) (by kernel_rfl) rfl rfl HF (fun _ _ _ h => h) (.inl ⟨by rfl, ?_⟩) (by first | assumption | rfl) ?_
      rotate_left
      · intro w hS; try subst hS
        go_simp; try with_reducible rfl
      try simp only [Act.put, List.setIfInBounds_toArray, List.set_cons_zero, List.set_cons_succ]
      refine AnyH.take (i := 15) (d := some 61) (v := ?_) (by kernel_rfl) rfl rfl HF (fun _ _ _ h => h) (.inl ⟨by rfl, ?_⟩) (by first | assumption | rfl) ?_
      rotate_left
      · intro w hS; try subst hS
        go_simp; try with_reducible rfl
      try simp only [Act.put, List.setIfInBounds_toArray, List.set_cons_zero, List.set_cons_succ]
      refine AnyH.take (i := 16) (d := some 62) (v := ?_) (by kernel_rfl) rfl rfl HF (fun _ _ _ h => h) (.inl ⟨by rfl, ?_⟩) (by first | assumption | rfl) ?_
      rotate_left
      · intro w hS; try subst hS
        go_simp; try with_reducible rfl
      try simp only [Act.put, List.setIfInBounds_toArray, List.set_cons_zero, List.set_cons_succ]
      refine AnyH.take (i := 17) (d := some 63) (v := ?_) (by kernel_rfl) rfl rfl HF (fun _ _ _ h => h) (.inl ⟨by rfl, ?_⟩) (by first | assumption | rfl) ?_
      rotate_left
      · intro w hS; try subst hS
        go_simp; try with_reducible rfl
      try simp only [Act.put, List.setIfInBounds_toArray, List.set_cons_zero, List.set_cons_succ]
      refine AnyH.one (i := 18) (by kernel_rfl) (by kernel_rfl) rfl HF (by rfl) (fun K hK => ?_)
      go_simp
      refine hK _ _ SB ?_
      clear hK K
      try simp only [Act.put, List.setIfInBounds_toArray, List.set_cons_zero, List.set_cons_succ]
      refine AnyH.one (i := 19) (by kernel_rfl) (by kernel_rfl) rfl HF (by rfl) (fun K hK => ?_)
      simp [execOp, resolve, invoke, builtin, hrun5, Result.andThen, Act.eval, Oper.uponIn]
      refine hK _ _ S5 ?_
      clear hK K hrun5 SB S4
      try simp only [Act.put, List.setIfInBounds_toArray, List.set_cons_zero, List.set_cons_succ]
      refine AnyH.take (i := 20) (d := some 8) (v := ?_) (by kernel_rfl) rfl rfl HF (fun _ _ _ h => h) (.inl ⟨by rfl, ?_⟩) (by first | assumption | rfl) ?_
      rotate_left
      · intro w hS; try subst hS
        go_simp; try with_reducible rfl
      try simp only [Act.put, List.setIfInBounds_toArray, List.set_cons_zero, List.set_cons_succ]
      refine AnyH.done (by kernel_rfl) ?_
      have HB5 := Lib.hid S5
      clear m0 m1 m2 S5
      go_wp2_with fail
      go_roundw
      case rel => exact ⟨i + 1, E2, _, by go_num, by omega, HS5.out, HF2.out, HX2.out, HLE2.out, HMT2.out, HCH5.out, HRC5.out, HB5.out, HZ5.out⟩
      case measure => first | (simp [intOf]; omega) | simp [intOf]
    · have hlt2 : ¬ (i : Int) < (S.length : Int) := by omega
      have e : S.take i = S := List.take_of_length_le (by omega)
      rw [e] at HMT
      have HLE2 : Hid (E1.length ≤ E.length + 80 * S.length) := Lib.hid (by have := HLE.out; omega)
      clear e
      go_wp2_with fail
      go_ret3
      exact ⟨E1, L, _, _, rfl, HST.out, HW1.out, HX.out, HLE2.out, HMT.out, HCH.out, HRC.out, HB.out.1⟩
end M
end Go.Proofs.Ytplccefjljdjnaa
