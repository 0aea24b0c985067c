/- A box's commit: where there is a conflict, nothing is made; where there is none, the changes. -/
import Derived.Test.YtlfodhejpbjfcaaSess4
import Derived.Test.YtlfodhejpbjfcaaCommitPlain
import Derived.Deep.LoopGhost
import Derived.WalkSpells
import Derived.Test.YtlfodhejpbjfcaaOwn
namespace Go.Proofs.Ytlfodhejpbjfcaa
open Go.RowKit Go.MuLone
theorem MapAt.keys {α : Type} {ev : α → Value} {w : World} {b : Nat} {l : List (ByteArray × α)} (h : MapAt ev w b l) : ∀ p ∈ l, p.1.size ≤ maxLen := by obtain ⟨es, c, -, -, -, h⟩ := h; exact h
theorem RangeAt.below' {α : Type} {ev : α → Value} {w w' : World} {b r : Nat} {l left : List (ByteArray × α)} (h : RangeAt ev w b r l left) (hb : Below w.heap.size w w') : RangeAt ev w' b r l left :=
  h.of_blocks (hb.block b h.map.lt) (hb.block r (by obtain ⟨es, clock, since, seen, c0, h1, h2, h3, h4, h5, -⟩ := h; exact (Array.getElem?_eq_some_iff.1 h5).1))
theorem RangeAt.lt {α : Type} {ev : α → Value} {w : World} {b r : Nat} {l left : List (ByteArray × α)} (h : RangeAt ev w b r l left) : r < w.heap.size := by obtain ⟨es, clock, since, seen, c0, h1, h2, h3, h4, h5, -⟩ := h; exact (Array.getElem?_eq_some_iff.1 h5).1
namespace S
attribute [local go_sem] Oper.semAt_some

/-- 'm[k]' of a map of numbers. -/
theorem look_last {w : World} {m : Nat} {last : List (ByteArray × Int)} (h : MapAt (Value.int .i64) w m last) {s : ByteArray} (hs : s.size ≤ 9223372036854775807) :
    (Instr.lookup 152 (.map (some m)) (.string s) false).run Try.prog w = .ok (.int .i64 (lastOf last s)) w := by
  rw [h.look (P := Try.prog) (t := 152) (k := 9) (e := 3) false Try.underlying9 Try.underlying152 (z := .int .i64 0) (by kernel_rfl) (by unfold maxLen; omega)]
  unfold lastOf
  cases getA s last <;> rfl

theorem ranged {W1 wr w2 : World} (hB : Below W1.heap.size W1 wr) {it : Nat} (hit : W1.heap.size ≤ it) (hg : wr.grownBy w2 (some it)) : Below W1.heap.size W1 w2 :=
  hB.grown hg hB.size (fun k e => by cases e; exact hit)
/-- The lock is given back, and nothing has been made. -/
theorem unmade {W W1 wx : World} {b m : Nat} {N : Int} {Q : Option Addr} (h : BoxC W b 0 N Q m) (hb : BC b W W1) (h1 : BoxC W1 b 1 N Q m) (hx : Below W1.heap.size W1 wx) : Below W.heap.size W (wx.setCell ⟨b, 0, none⟩ (.int .i32 0)) :=
  ((hb.trans (.of hx)).set (p := ⟨b, 0, none⟩) (.inr rfl) _).close (((BoxC.lock (W := wx) (box_below hx h1) 0)).trans h.symm)
theorem _root_.Go.Proofs.Ytlfodhejpbjfcaa.BC.fresh {m it : Nat} {A B D : World} (h : BC m A B) (k : BC it B D) (hi : A.heap.size ≤ it) : BC m A D :=
  ⟨k.os.trans h.os, k.tape.trans h.tape, k.output.trans h.output, Nat.le_trans h.size k.size, fun i hl hm => (k.block i (Nat.lt_of_lt_of_le hl h.size) (by omega)).trans (h.block i hl hm)⟩
theorem BC2.set {C D : Nat} {A B : World} (h : BC2 C D A B) {p : Addr} (hp : p.block = C) (u : Value) : BC2 C D A (B.setCell p u) :=
  ⟨h.os, h.tape, h.output, Nat.le_trans h.size (by simp [World.setCell]), fun k hk hc hd => (Below.heap_setCell _ _ _ _ (by omega)).trans (h.block k hk hc hd)⟩
theorem BoxC.put {W : World} {b m : Nat} {l N : Int} {Q : Option Addr} (h : BoxC W b l N Q m) (N' : Int) (Q' : Option Addr) : BoxC ((W.setCell ⟨b, 2, none⟩ (.int .i64 N')).setCell ⟨b, 3, none⟩ (.pointer Q')) b l N' Q' m := by
  unfold BoxC at h ⊢
  rw [heap_set0 _ (heap_set0 _ h)]; rfl
theorem keep_iter {wr w2 : World} {ev : Int × Bool → Value} {c it : Nat} {ch left : List (ByteArray × (Int × Bool))} (h : RangeAt ev wr c it ch left) (hg : wr.grownBy w2 (some it)) : KeepT 189 wr w2 := fun k cs fz e => by
  have hki : k ≠ it := fun e2 => by
    obtain ⟨es, clock, since, seen, c0, h1, h2, h3, h4, h5, -⟩ := h
    rw [e2, h5] at e; cases e
  rw [hg.block k (Array.getElem?_eq_some_iff.1 e).1 (fun e2 => hki (Option.some.inj e2))]; exact e
/-- What holds ahead of each round of the loop that makes the changes. -/
def Making (W1 : World) (c m g it : Nat) (N : Int) (T : Tr ByteArray Int) (last : List (ByteArray × Int)) (ch : List (ByteArray × (Int × Bool))) (k : Nat) (wr : World) : Prop :=
  ∃ left done q', left.length = k ∧ (done ++ left).Perm ch ∧ RangeAt evc wr c it ch left ∧ VerC wr g (N + 1) q' ∧ sd.Is wr q' (appN T done) ∧ MapAt (Value.int .i64) wr m (lastN last (N + 1) done) ∧ BC m W1 wr
theorem Making.step {W1 w2 : World} {c m g it : Nat} {N : Int} {T : Tr ByteArray Int} {last : List (ByteArray × Int)} {ch left' done : List (ByteArray × (Int × Bool))} {q' : Option Addr} {p : ByteArray × (Int × Bool)} {left : List (ByteArray × (Int × Bool))}
    (hp : (p :: left').Perm left) (hd : (done ++ left).Perm ch) (hR : RangeAt evc w2 c it ch left') (hV : VerC w2 g (N + 1) q') (hI : sd.Is w2 q' (app1 (appN T done) p)) (hM : MapAt (Value.int .i64) w2 m (putA p.1 (N + 1) (lastN last (N + 1) done))) (hB : BC m W1 w2) :
    Making W1 c m g it N T last ch left'.length w2 :=
  ⟨left', done ++ [p], q', rfl, by rw [List.append_assoc]; exact (hp.append_left done).trans hd, hR, hV, by rw [appN_snoc]; exact hI, by rw [lastN_snoc]; exact hM, hB⟩
theorem VerC.put1 {W : World} {g : Nat} {n : Int} {q : Option Addr} (h : VerC W g n q) (q' : Option Addr) : VerC (W.setCell ⟨g, 1, none⟩ (.pointer q')) g n q' := by
  unfold VerC at h ⊢
  rw [heap_set0 _ h]; rfl
/-- The round's end: the tree has been laid into the version in the making, the name's last version into the map. -/
theorem making_put {W1 w2 w4 w6 : World} {c m g it : Nat} {N : Int} {T : Tr ByteArray Int} {last : List (ByteArray × Int)} {ch left' done left : List (ByteArray × (Int × Bool))} {q' q2 : Option Addr} {s : ByteArray} {x : Int} {d : Bool}
    (hp : ((s, (x, d)) :: left').Perm left) (hd : (done ++ left).Perm ch) (hR : RangeAt evc w2 c it ch left') (hB : BC m W1 w2) (hb : Below w2.heap.size w2 w4) (hV : VerC w4 g (N + 1) q') (hI : sd.Is w4 q2 (app1 (appN T done) (s, (x, d))))
    (hM5 : MapAt (Value.int .i64) ((w4.setCell ⟨g, 1, none⟩ (.pointer q2)).drew) m (lastN last (N + 1) done)) (hg6 : ((w4.setCell ⟨g, 1, none⟩ (.pointer q2)).drew).grownBy w6 (some m)) (hm6 : MapAt (Value.int .i64) w6 m (putA s (N + 1) (lastN last (N + 1) done)))
    (hgW : W1.heap.size ≤ g) (hcg : c ≠ g) (hgm : g ≠ m) (hig : it ≠ g) (him : it ≠ m) (hcm : m ≠ c) : Making W1 c m g it N T last ch left'.length w6 := by
  have h5' : BC g w2 (w4.setCell ⟨g, 1, none⟩ (.pointer q2)) := (BC.of hb).set (p := ⟨g, 1, none⟩) (.inr rfl) _
  have h5 : BC g w2 ((w4.setCell ⟨g, 1, none⟩ (.pointer q2)).drew) := ⟨h5'.os, h5'.tape, h5'.output, h5'.size, h5'.block⟩
  have h6 := BC.grown hg6
  have h26 := h5.two h6
  have hI5 : sd.Is ((w4.setCell ⟨g, 1, none⟩ (.pointer q2)).drew) q2 (app1 (appN T done) (s, (x, d))) := (hI.keep (KeepT.setCell (nt := 189) (a := ⟨g, 1, none⟩) (v := .pointer q2) hV (by decide))).keep (KeepT.refl _ _).drew
  have hV5 : VerC ((w4.setCell ⟨g, 1, none⟩ (.pointer q2)).drew) g (N + 1) q2 := hV.put1 q2
  exact Making.step hp hd (hR.of_blocks (h26.block c hR.map.lt hcg hcm.symm) (h26.block it hR.lt hig him)) (h6.obj hgm hV5) (isKept hM5 h6 hI5) hm6
    ⟨h6.os.trans (h5.os.trans hB.os), h6.tape.trans (h5.tape.trans hB.tape), h6.output.trans (h5.output.trans hB.output), Nat.le_trans hB.size h26.size, fun i hi hm => (h26.block i (Nat.lt_of_lt_of_le hi hB.size) (by omega) hm).trans (hB.block i hi hm)⟩
/-- What a commit leaves. -/
def CommitPost (W : World) (b m : Nat) (N : Int) (T : Tr ByteArray Int) (last : List (ByteArray × Int)) (ch : List (ByteArray × (Int × Bool))) (C : Bool) (e : Ending) (w' : World) : Prop :=
  (C = true ∧ e = .returned (.tuple #[.int .i64 0, err 11]) ∧ Below W.heap.size W w') ∨
  (C = false ∧ e = .returned (.tuple #[.int .i64 (N + 1), .nilIface]) ∧ ∃ q' L, L.Perm ch ∧ BoxC w' b 0 (N + 1) q' m ∧ sd.Is w' q' (appN T L) ∧ MapAt (Value.int .i64) w' m (lastN last (N + 1) L) ∧ BC2 b m W w')

set_option maxRecDepth 100000 in
set_option maxHeartbeats 4000000 in
theorem commit_any {W : World} {b m t r c : Nat} {N n : Int} {Q q : Option Addr} {T : Tr ByteArray Int} {rd : List (ByteArray × Bool)} {ch : List (ByteArray × (Int × Bool))} {last : List (ByteArray × Int)}
    (h : BoxC W b 0 N Q m) (ht : TxnC W t b n q r c true) (hT : sd.Is W Q T) (hr : MapAt Value.bool W r rd) (hc : MapAt evc W c ch) (hm : MapAt (Value.int .i64) W m last) (hmr : m ≠ r) (hmc : m ≠ c)
    (hN : 0 ≤ N) (hN2 : N ≤ 1000000) (hn : 0 ≤ n) (hn2 : n ≤ 1000000) (hsz : T.sz + ch.length ≤ 800000) (hll : last.length + ch.length ≤ 800000) :
    Calls Try.prog 45 #[.pointer (some ⟨b, 0, none⟩), .pointer (some ⟨t, 0, none⟩)] W (CommitPost W b m N T last ch (conf last n rd || conf last n ch)) := by
  have HF : ∀ f, Fence.wide.fn f := fun _ => trivial
  have hbt : b ≠ t := fun e => by subst e; unfold BoxC at h; unfold TxnC at ht; rw [h] at ht; cases ht
  obtain ⟨c0, -, -, -, f0, -⟩ := h.cells
  obtain ⟨W1, hW1⟩ : ∃ W1, W.setCell ⟨b, 0, none⟩ (.int .i32 1) = W1 := ⟨_, rfl⟩
  have hb1 : BC b W W1 := by rw [← hW1]; exact (BC.refl _ _).set (p := ⟨b, 0, none⟩) (.inr rfl) _
  have h1 : BoxC W1 b 1 N Q m := by rw [← hW1]; exact h.lock 1
  have ht1 : TxnC W1 t b n q r c true := hb1.obj (Ne.symm hbt) ht
  have hT1 : sd.Is W1 Q T := by rw [← hW1]; exact hT.keep (KeepT.setCell (nt := 189) (a := ⟨b, 0, none⟩) (v := .int .i32 1) h (by decide))
  have hr1 : MapAt Value.bool W1 r rd := MapAt.bc hr hb1 (mapUnlike hr h).symm
  have hc1 : MapAt evc W1 c ch := MapAt.bc hc hb1 (mapUnlike hc h).symm
  have hm1 : MapAt (Value.int .i64) W1 m last := MapAt.bc hm hb1 (mapUnlike hm h).symm
  have H := Lib.hid h; have HB := Lib.hid hb1; have H1 := Lib.hid h1; have HT := Lib.hid ht1; have HTr := Lib.hid hT1; have HR := Lib.hid hr1; have HC := Lib.hid hc1; have HM := Lib.hid hm1
  have HNE := Lib.hid (And.intro hbt (And.intro hmr hmc)); have HSZ := Lib.hid (And.intro hsz hll)
  clear h ht hT hr hc hm hb1 h1 ht1 hT1 hr1 hc1 hm1 hbt hmr hmc hsz hll
  obtain ⟨C, hC⟩ : ∃ C, (conf last n rd || conf last n ch) = C := ⟨_, rfl⟩
  have HCC := Lib.hid hC
  rw [hC]
  clear hC
  go_enter_defers Try.func45, Try.ntmps45
  go_wp2_with fail
  refine (lock_free muLib ⟨b, 0, none⟩ _ c0 f0).mono ?_; rintro e w1 ⟨rfl, rfl⟩
  rw [hW1]
  clear c0 f0 hW1
  obtain ⟨-, -, -, t3, -⟩ := HT.out.cells
  obtain ⟨ck1, hrg, hR0⟩ := HR.out.range (P := Try.prog) (t := 117) Try.underlying117
  obtain ⟨WI, hWI⟩ : ∃ WI, W1.alloc (.mapIter (some r) ck1 #[] ck1) = WI := ⟨_, rfl⟩
  have hBI : Below W1.heap.size W1 WI := by rw [← hWI]; exact (Below.refl _ _).alloc (Nat.le_refl _) _
  rw [hWI] at hrg hR0
  have HR0 := Lib.hid hR0; have HBI := Lib.hid hBI
  clear hWI hR0 hBI
  go_wp2_with fail
  go_loopg [] rd.length (fun k wr => ∃ left, left.length = k ∧ RangeAt Value.bool wr r W1.heap.size rd left ∧ conf last n left = conf last n rd ∧ Below W1.heap.size W1 wr)
  case atStart => exact ⟨rd, rfl, HR0.out, rfl, HBI.out⟩
  case round =>
    obtain ⟨left, hk, hRg, hcf, hBl⟩ := hrel
    obtain ⟨wa1, rfl⟩ : ∃ wa, wa = wr := ⟨_, rfl⟩
    have HK := Lib.hid hk; have HCF1 := Lib.hid hcf; have HBl1 := Lib.hid ((hBl))
    have hne : r ≠ W1.heap.size := Nat.ne_of_lt (MapAt.lt HR.out)
    have hpk : ∀ p ∈ rd, p.1.size ≤ 9223372036854775807 := fun p hp => by have := MapAt.keys HR.out p hp; unfold maxLen at this; exact this
    rcases hRg.next (P := Try.prog) 0 hne with ⟨hl0, hnx⟩ | ⟨p, left', w2, hp, hpm, hnx, hen, hRg2, hg2, hz2⟩
    · have HL1 := Lib.hid hl0
      clear hk hcf hBl hne hl0 hRg hpk
      obtain ⟨-, -, -, -, t4, -⟩ := TxnC.cells (box_below HBl1.out HT.out)
      have HCa := Lib.hid (HC.out.below HBl1.out)
      obtain ⟨ck2, hrg2, hR0⟩ := HCa.out.range (P := Try.prog) (t := 118) Try.underlying118
      obtain ⟨WJ, hWJ⟩ : ∃ WJ, wa1.alloc (.mapIter (some c) ck2 #[] ck2) = WJ := ⟨_, rfl⟩
      have hBJ : Below wa1.heap.size wa1 WJ := by rw [← hWJ]; exact (Below.refl _ _).alloc (Nat.le_refl _) _
      rw [hWJ] at hrg2 hR0
      have HRJ := Lib.hid hR0; have HBJ := Lib.hid hBJ
      clear hWJ hR0 hBJ t3 hrg
      go_wp2_with fail
      clear hnx hrg2 t4
      go_loopg [] ch.length (fun k wr => ∃ left, left.length = k ∧ RangeAt evc wr c wa1.heap.size ch left ∧ conf last n left = conf last n ch ∧ Below wa1.heap.size wa1 wr)
      case atStart => exact ⟨ch, rfl, HRJ.out, rfl, HBJ.out⟩
      case round =>
        obtain ⟨left, hk, hRg, hcf, hBl⟩ := hrel
        obtain ⟨wa2, rfl⟩ : ∃ wa, wa = wr := ⟨_, rfl⟩
        have HK := Lib.hid hk; have HCF2 := Lib.hid hcf; have HBl2 := Lib.hid ((Below.step HBl1.out hBl))
        have hne : c ≠ wa1.heap.size := Nat.ne_of_lt (MapAt.lt HCa.out)
        have hpk : ∀ p ∈ ch, p.1.size ≤ 9223372036854775807 := fun p hp => by have := MapAt.keys HCa.out p hp; unfold maxLen at this; exact this
        rcases hRg.next (P := Try.prog) 0 hne with ⟨hl0, hnx⟩ | ⟨p, left', w2, hp, hpm, hnx, hen, hRg2, hg2, hz2⟩
        · have HL2 := Lib.hid hl0
          clear hk hcf hBl hne hl0 hRg hpk
          have HC0 : Hid (C = false) := Lib.hid (by rw [← HCC.out, ← HCF1.out, ← HCF2.out, HL1.out, HL2.out]; rfl)
          obtain ⟨-, k2, k3, k4, -⟩ := BoxC.cells (box_below HBl2.out H1.out)
          have hwN : IntKind.i64.wrap (N + 1) = N + 1 := by rw [IntKind.wrap_i64]; omega
          have hmn : ∀ w : World, (binOp .eql 152 (.map (some m)) (.map none)).run Try.prog w = .ok (.bool false) w := fun w => run_eql_map_nil w _ _ _ (some m) Try.underlying152
          have K2 : ∀ w, Below wa2.heap.size wa2 w → w.cell? ⟨b, 2, none⟩ = some (.int .i64 N) := fun w hw => (BoxC.cells (box_below hw (box_below HBl2.out H1.out))).2.1
          have K3 : ∀ w, Below wa2.heap.size wa2 w → w.cell? ⟨b, 3, none⟩ = some (.pointer Q) := fun w hw => (BoxC.cells (box_below hw (box_below HBl2.out H1.out))).2.2.1
          go_wp2_with fail
          refine wp_region_anyNP (Below wa2.heap.size wa2) (by kernel_rfl) ?_
          obtain ⟨wc, hwc⟩ : ∃ w, wa2.drew = w := ⟨_, rfl⟩
          rw [hwc]
          have B0 : Below wa2.heap.size wa2 wc := by rw [← hwc]; exact (Below.refl _ _).drew
          clear hwc
          refine AnyH.take (i := 0) (d := some 71) (v := ?_) (by kernel_rfl) rfl rfl HF (fun _ _ _ h => h) (.inl ⟨by rfl, ?_⟩) (by first | assumption | rfl) ?_
          rotate_left
          · intro w hS; try subst hS
            go_simp; try with_reducible rfl
          try simp only [Act.put, List.setIfInBounds_toArray, List.set_cons_zero, List.set_cons_succ]
          refine AnyH.take (i := 1) (d := some 72) (v := ?_) (by kernel_rfl) rfl rfl HF (fun _ _ _ h => h) (.inl ⟨by rfl, ?_⟩) (by first | assumption | rfl) ?_
          rotate_left
          · intro w hS; try subst hS
            go_simp; try with_reducible rfl
          try simp only [Act.put, List.setIfInBounds_toArray, List.set_cons_zero, List.set_cons_succ]
          refine AnyH.take (i := 2) (d := some 73) (v := ?_) (by kernel_rfl) rfl rfl HF (fun _ _ _ h => h) (.inl ⟨by rfl, ?_⟩) (by first | assumption | rfl) ?_
          rotate_left
          · intro w hS; try subst hS
            go_simp; try with_reducible rfl
          try simp only [Act.put, List.setIfInBounds_toArray, List.set_cons_zero, List.set_cons_succ]
          refine AnyH.take (i := 3) (d := some 74) (v := ?_) (by kernel_rfl) rfl rfl HF (fun _ _ _ h => h) (.inl ⟨by rfl, ?_⟩) (by first | assumption | rfl) ?_
          rotate_left
          · intro w hS; try subst hS
            go_simp; try with_reducible rfl
          try simp only [Act.put, List.setIfInBounds_toArray, List.set_cons_zero, List.set_cons_succ]
          refine AnyH.take (i := 4) (d := some 75) (v := ?_) (by kernel_rfl) rfl rfl HF (fun _ _ _ h => h) (.inl ⟨by rfl, ?_⟩) (by first | assumption | rfl) ?_
          rotate_left
          · intro w hS; try subst hS
            go_simp; try with_reducible rfl
          try simp only [Act.put, List.setIfInBounds_toArray, List.set_cons_zero, List.set_cons_succ]
          refine AnyH.take (i := 5) (d := some 76) (v := ?_) (by kernel_rfl) rfl rfl HF (fun _ _ _ h => h) (.inl ⟨by rfl, ?_⟩) (by first | assumption | rfl) ?_
          rotate_left
          · intro w hS; try subst hS
            go_simp; try with_reducible rfl
          try simp only [Act.put, List.setIfInBounds_toArray, List.set_cons_zero, List.set_cons_succ]
          refine AnyH.take (i := 6) (d := some 77) (v := ?_) (by kernel_rfl) rfl rfl HF (fun _ _ _ h => h) (.inl ⟨by rfl, ?_⟩) (by first | assumption | rfl) ?_
          rotate_left
          · intro w hS; try subst hS
            go_simp; try with_reducible rfl
          try simp only [Act.put, List.setIfInBounds_toArray, List.set_cons_zero, List.set_cons_succ]
          refine AnyH.take (i := 7) (d := some 78) (v := ?_) (by kernel_rfl) rfl rfl HF (fun _ _ _ h => h) (.inl ⟨by rfl, ?_⟩) (by first | assumption | rfl) ?_
          rotate_left
          · intro w hS; try subst hS
            go_simp; try with_reducible rfl
          try simp only [Act.put, List.setIfInBounds_toArray, List.set_cons_zero, List.set_cons_succ]
          refine AnyH.take (i := 8) (d := some 79) (v := ?_) (by kernel_rfl) rfl rfl HF (fun _ _ _ h => h) (.inl ⟨by rfl, ?_⟩) (by first | assumption | rfl) ?_
          rotate_left
          · intro w hS; try subst hS
            go_simp; try with_reducible rfl
          try simp only [Act.put, List.setIfInBounds_toArray, List.set_cons_zero, List.set_cons_succ]
          refine AnyH.take (i := 9) (d := some 80) (v := ?_) (by kernel_rfl) rfl rfl HF (fun _ _ _ h => h) (.inl ⟨by rfl, ?_⟩) (by first | assumption | rfl) ?_
          rotate_left
          · intro w hS; try subst hS
            go_simp; try with_reducible rfl
          try simp only [Act.put, List.setIfInBounds_toArray, List.set_cons_zero, List.set_cons_succ]
          refine AnyH.take (i := 10) (d := some 81) (v := ?_) (by kernel_rfl) rfl rfl HF (fun _ _ _ h => h) (.inl ⟨by rfl, ?_⟩) (by first | assumption | rfl) ?_
          rotate_left
          · intro w hS; try subst hS
            go_simp; try with_reducible rfl
          try simp only [Act.put, List.setIfInBounds_toArray, List.set_cons_zero, List.set_cons_succ]
          refine AnyH.take (i := 11) (d := some 82) (v := ?_) (by kernel_rfl) rfl rfl HF (fun _ _ _ h => h) (.inl ⟨by rfl, ?_⟩) (by first | assumption | rfl) ?_
          rotate_left
          · intro w hS; try subst hS
            go_simp; try with_reducible rfl
          try simp only [Act.put, List.setIfInBounds_toArray, List.set_cons_zero, List.set_cons_succ]
          refine AnyH.one (i := 12) (by kernel_rfl) (by kernel_rfl) rfl HF (by rfl) (fun K hK => ?_)
          go_simp
          refine hK _ _ (B0.alloc B0.size _) ?_
          clear hK K
          try simp only [Act.put, List.setIfInBounds_toArray, List.set_cons_zero, List.set_cons_succ]
          refine AnyH.tailL 13 (by kernel_rfl) ?_
          simp only [List.drop_succ_cons, List.drop_zero]
          have n0 : VerC (wc.alloc (.cells #[.int .i64 0, .pointer none] 112)) wc.heap.size 0 none := heap_new _ _
          obtain ⟨z0, z1, z2, z3⟩ := n0.cells
          obtain ⟨wv, hwv⟩ : ∃ wv, ((wc.alloc (.cells #[.int .i64 0, .pointer none] 112)).setCell ⟨wc.heap.size, 0, none⟩ (.int .i64 (N + 1))).setCell ⟨wc.heap.size, 1, none⟩ (.pointer Q) = wv := ⟨_, rfl⟩
          have HV : Hid (VerC wv wc.heap.size (N + 1) Q) := Lib.hid (by rw [← hwv]; exact n0.put (N + 1) Q)
          have hbv : Below wa2.heap.size wa2 wv := by
            rw [← hwv]
            exact ((B0.alloc B0.size _).setCell (p := ⟨wc.heap.size, 0, none⟩) B0.size _).setCell (p := ⟨wc.heap.size, 1, none⟩) B0.size _
          have HBv := Lib.hid (Below.step HBl2.out hbv)
          have hgs : W1.heap.size ≤ wc.heap.size := Nat.le_trans HBl2.out.size B0.size
          generalize wc.heap.size = g at *
          clear K2 K3 hwN n0 hbv
          gi_wp2_with fail
          refine NP.normal ?_
          obtain ⟨-, -, -, -, t4, -⟩ := TxnC.cells (box_below HBv.out HT.out)
          have HCv := Lib.hid (HC.out.below HBv.out)
          obtain ⟨ck3, hrg3, hR0⟩ := HCv.out.range (P := Try.prog) (t := 118) Try.underlying118
          obtain ⟨WK, hWK⟩ : ∃ WK, wv.alloc (.mapIter (some c) ck3 #[] ck3) = WK := ⟨_, rfl⟩
          have hBK : Below wv.heap.size wv WK := by rw [← hWK]; exact (Below.refl _ _).alloc (Nat.le_refl _) _
          rw [hWK] at hrg3 hR0
          have hgi : g < wv.heap.size := (Array.getElem?_eq_some_iff.1 HV.out).1
          have hit : W1.heap.size ≤ wv.heap.size := HBv.out.size
          have HMK : Hid (Making W1 c m g wv.heap.size N T last ch ch.length WK) := Lib.hid ⟨ch, [], Q, rfl, by simp, hR0, box_below hBK HV.out, HTr.out.below (Below.step HBv.out hBK), HM.out.below (Below.step HBv.out hBK), .of (Below.step HBv.out hBK)⟩
          clear hWK hR0 hBK z0 z1 z2 z3 k2 k3 k4 hwv hmn B0 hnx
          go_wp2_with fail
          clear hrg3 t4
          generalize wv.heap.size = it at *
          go_loopg [] ch.length (fun k wr => Making W1 c m g it N T last ch k wr)
          case atStart => exact HMK.out
          case round =>
            obtain ⟨left, done, q', hk, hd, hRg, hV, hI, hM3, hB3⟩ := hrel
            obtain ⟨wa3, rfl⟩ : ∃ wa, wa = wr := ⟨_, rfl⟩
            have HK := Lib.hid hk; have HD := Lib.hid hd; have HV3 := Lib.hid hV; have HI3 := Lib.hid hI; have HM3 := Lib.hid hM3; have HB3 := Lib.hid hB3
            have hcl := MapAt.lt HC.out; have hml := MapAt.lt HM.out
            have hcg : c ≠ g := by omega
            have hgm : g ≠ m := by omega
            have hbl := (Array.getElem?_eq_some_iff.1 H1.out).1
            have HNG := Lib.hid (And.intro hcg (And.intro hgm (And.intro (show it ≠ g by omega) (And.intro (show it ≠ m by omega) (show b ≠ g by omega)))))
            have hne : c ≠ it := by omega
            have HBM := Lib.hid (mapUnlike HM.out H1.out)
            clear hcg hgm hbl hk hd hV hI hM3 hB3
            rcases hRg.next (P := Try.prog) 0 hne with ⟨hl0, hnx⟩ | ⟨p, left', w2, hp, hpm, hnx, hen, hRg2, hg2, hz2⟩
            · have hdn : done.Perm ch := by have := HD.out; rw [hl0, List.append_nil] at this; exact this
              have HDN := Lib.hid hdn
              obtain ⟨v0, v1, -, -⟩ := HV3.out.cells
              have hb7 : BoxC wa3 b 1 N Q m := HB3.out.obj HBM.out H1.out
              have H7 := Lib.hid hb7
              obtain ⟨-, j2, j3, -, -, e2, e3, -⟩ := hb7.cells
              obtain ⟨w7, hw7⟩ : ∃ w, (wa3.setCell ⟨b, 2, none⟩ (.int .i64 (N + 1))).setCell ⟨b, 3, none⟩ (.pointer q') = w := ⟨_, rfl⟩
              have hx7 : BoxC w7 b 1 (N + 1) q' m := by rw [← hw7]; exact H7.out.put (N + 1) q'
              have hv7 : VerC w7 g (N + 1) q' := by rw [← hw7]; exact (HV3.out.other (a := ⟨b, 2, none⟩) _ HNG.out.2.2.2.2.symm).other (a := ⟨b, 3, none⟩) _ HNG.out.2.2.2.2.symm
              obtain ⟨y0, y1, -, -⟩ := hv7.cells
              obtain ⟨d0, -, -, -, f0, -⟩ := hx7.cells
              have hb2 : BC2 b m W ((w7.setCell ⟨b, 0, none⟩ (.int .i32 0))) := by rw [← hw7]; exact (((HB.out.two HB3.out).set rfl _).set rfl _).set rfl _
              have hm7 : MapAt (Value.int .i64) (w7.setCell ⟨b, 0, none⟩ (.int .i32 0)) m (lastN last (N + 1) done) := by
                rw [← hw7]
                exact HM3.out.of_block ((Below.heap_setCell _ _ _ _ HBM.out.symm).trans ((Below.heap_setCell _ _ _ _ HBM.out.symm).trans (Below.heap_setCell _ _ _ _ HBM.out.symm)))
              have hi7 : sd.Is (w7.setCell ⟨b, 0, none⟩ (.int .i32 0)) q' (appN T done) := by
                rw [← hw7]
                have k1 := KeepT.setCell (nt := 189) (a := ⟨b, 2, none⟩) (v := .int .i64 (N + 1)) H7.out (by decide)
                have x1 := heap_set0 (W := wa3) (g := b) (i := 2) (.int .i64 (N + 1)) H7.out
                have k2 := KeepT.setCell (nt := 189) (a := ⟨b, 3, none⟩) (v := .pointer q') x1 (by decide)
                have x2 := heap_set0 (W := wa3.setCell ⟨b, 2, none⟩ (.int .i64 (N + 1))) (g := b) (i := 3) (.pointer q') x1
                exact ((HI3.out.keep k1).keep k2).keep (KeepT.setCell (nt := 189) (a := ⟨b, 0, none⟩) (v := .int .i32 0) x2 (by decide))
              have HFIN := Lib.hid (And.intro (hx7.lock 0) (And.intro hi7 (And.intro hm7 hb2)))
              clear hm7 hi7 hb2 hx7 hv7 hb7 hdn hl0 hRg hne
              go_wp2_with fail
              refine leaves_cons (f := 60) (args := #[.pointer (some ⟨b, 0, none⟩)]) (by simp) (by simp [go_sem]) ?_
              refine (unlock_deferred muLib ⟨b, 0, none⟩ _ _ d0 f0).mono ?_
              rintro e u' w'' ⟨rfl, rfl, rfl⟩
              simp only [Leaves, settle, results, Try.results45]
              simp [go_sem]
              exact .inr ⟨HC0.out, rfl, q', done, HDN.out, HFIN.out.1, HFIN.out.2.1, HFIN.out.2.2.1, HFIN.out.2.2.2⟩
            · obtain ⟨s, x, d⟩ := p
              simp only [evc] at hnx hen
              have HP := Lib.hid hp
              have hss : s.size ≤ 9223372036854775807 := by have := MapAt.keys HC.out _ hpm; unfold maxLen at this; exact this
              have HR2 := Lib.hid hRg2
              have hbi : BC it wa3 w2 := BC.grown hg2
              have HB2 : Hid (BC m W1 w2) := Lib.hid (HB3.out.fresh hbi hit)
              have hI2 : sd.Is w2 q' (appN T done) := HI3.out.keep (keep_iter hRg hg2)
              have hV2 : VerC w2 g (N + 1) q' := hbi.obj HNG.out.2.2.1.symm HV3.out
              have hM2 : MapAt (Value.int .i64) w2 m (lastN last (N + 1) done) := MapAt.bc HM3.out hbi HNG.out.2.2.2.1.symm
              obtain ⟨wy, hwy⟩ : ∃ w, w2.alloc (.cells #[.int .i64 0, .bool false] 124) = w := ⟨_, rfl⟩
              have ny : wy.heap[w2.heap.size]? = some (.cells #[.int .i64 0, .bool false] 124 (0, 0)) := by rw [← hwy]; exact heap_new _ _
              have hby : Below w2.heap.size w2 wy := by rw [← hwy]; exact (Below.refl _ _).alloc (Nat.le_refl _) _
              have y0 : wy.cell? ⟨w2.heap.size, 0, none⟩ = some (.int .i64 0) := by simp [World.cell?, ny]
              have y1 : wy.cell? ⟨w2.heap.size, 1, none⟩ = some (.bool false) := by simp [World.cell?, ny]
              have y2 : wy.frozen? ⟨w2.heap.size, 0, none⟩ = false := by simp [World.frozen?, ny]
              have y3 : wy.frozen? ⟨w2.heap.size, 1, none⟩ = false := by simp [World.frozen?, ny]
              obtain ⟨w3, hw3⟩ : ∃ w, (wy.setCell ⟨w2.heap.size, 0, none⟩ (.int .i64 x)).setCell ⟨w2.heap.size, 1, none⟩ (.bool d) = w := ⟨_, rfl⟩
              have hb3 : Below w2.heap.size w2 w3 := by rw [← hw3]; exact (hby.setCell (p := ⟨w2.heap.size, 0, none⟩) (Nat.le_refl _) _).setCell (p := ⟨w2.heap.size, 1, none⟩) (Nat.le_refl _) _
              have n3 : w3.heap[w2.heap.size]? = some (.cells #[.int .i64 x, .bool d] 124 (0, 0)) := by
                rw [← hw3]; exact heap_set0 (.bool d) (heap_set0 (.int .i64 x) ny)
              have x0 : w3.cell? ⟨w2.heap.size, 0, none⟩ = some (.int .i64 x) := by simp [World.cell?, n3]
              have x1 : w3.cell? ⟨w2.heap.size, 1, none⟩ = some (.bool d) := by simp [World.cell?, n3]
              have HI := Lib.hid (hI2.below hb3); have HV := Lib.hid (show VerC w3 g (N + 1) q' from box_below hb3 hV2); have HM4 := Lib.hid (hM2.below hb3); have HB4 := Lib.hid hb3
              have hsz : (appN T done).sz ≤ 900000 := by
                have h1 := appN_sz done T; have h2 := HD.out.length_eq; have h3 := HSZ.out.1
                rw [List.length_append] at h2
                omega
              have HSZ2 := Lib.hid hsz
              obtain ⟨g0, g1, g2, g3⟩ := VerC.cells HV.out
              clear hne hRg hg2 hz2 hRg2 hp hpm hbi hI2 hV2 hM2 ny hby hb3 n3 hsz
              cases d with
              | true =>
                go_wp2_with fail
                refine (sd.Drop_any s HI.out HSZ2.out).mono ?_; rintro e w4 ⟨q2, rfl, hq2, hB4⟩
                have HQ2 := Lib.hid hq2
                have HB5 := Lib.hid (Below.step HB4.out hB4)
                have HV5 := Lib.hid (show VerC w4 g (N + 1) q' from box_below hB4 HV.out)
                obtain ⟨g0, g1, g2, g3⟩ := VerC.cells HV5.out
                have HM5 := Lib.hid (HM4.out.below hB4)
                clear hq2 hB4 x0 x1 hnx hen hwy hw3 y0 y1 y2 y3
                obtain ⟨wd, hwd⟩ : ∃ w, (w4.setCell ⟨g, 1, none⟩ (.pointer q2)).drew = w := ⟨_, rfl⟩
                have hMd : MapAt (Value.int .i64) wd m (lastN last (N + 1) done) := by
                  rw [← hwd]; exact HM5.out.of_block (Below.heap_setCell _ _ _ _ HNG.out.2.1.symm)
                have HMD := Lib.hid hMd
                have hlen : (lastN last (N + 1) done).length < maxLen := by
                  have h1 := lastN_length (N + 1) done last; have h2 := HD.out.length_eq; have h3 := HSZ.out.2
                  rw [List.length_append] at h2
                  unfold maxLen; omega
                obtain ⟨w6, hup, hm6, hg6, -⟩ := hMd.put (P := Try.prog) (t := 152) (k := 9) (e := 3) Try.underlying9 Try.underlying152 hlen (s := s) (by unfold maxLen; omega) (N + 1)
                have HFN := Lib.hid (And.intro hm6 hg6)
                have hVd : VerC wd g (N + 1) q2 := by rw [← hwd]; exact HV5.out.put1 q2
                have hBd : BoxC wd b 1 N Q m := by rw [← hwd]; exact BoxC.other (W := w4) (box_below HB5.out (HB2.out.obj HBM.out H1.out)) _ HNG.out.2.2.2.2
                have k4 : ∀ w, Below wd.heap.size wd w → w.cell? ⟨b, 4, none⟩ = some (.map (some m)) := fun w hw => (BoxC.cells (box_below hw hBd)).2.2.2.1
                have k0 : ∀ w, Below wd.heap.size wd w → w.cell? ⟨g, 0, none⟩ = some (.int .i64 (N + 1)) := fun w hw => (VerC.cells (box_below hw hVd)).1
                clear hMd hlen hm6 hg6 hVd hBd
                go_wp2_with fail
                refine wp_region_anyNP (Below wd.heap.size wd) (by kernel_rfl) ?_
                rw [hwd]
                have B0 : Below wd.heap.size wd wd := Below.refl _ _
                clear g0 g1 g2 g3
                refine AnyH.take (i := 0) (d := some 107) (v := ?_) (by kernel_rfl) rfl rfl HF (fun _ _ _ h => h) (.inl ⟨by rfl, ?_⟩) (by first | assumption | rfl) ?_
                rotate_left
                · intro w hS; try subst hS
                  go_simp; try with_reducible rfl
                try simp only [Act.put, List.setIfInBounds_toArray, List.set_cons_zero, List.set_cons_succ]
                refine AnyH.take (i := 1) (d := some 108) (v := ?_) (by kernel_rfl) rfl rfl HF (fun _ _ _ h => h) (.inl ⟨by rfl, ?_⟩) (by first | assumption | rfl) ?_
                rotate_left
                · intro w hS; try subst hS
                  go_simp; try with_reducible rfl
                try simp only [Act.put, List.setIfInBounds_toArray, List.set_cons_zero, List.set_cons_succ]
                refine AnyH.take (i := 2) (d := some 109) (v := ?_) (by kernel_rfl) rfl rfl HF (fun _ _ _ h => h) (.inl ⟨by rfl, ?_⟩) (by first | assumption | rfl) ?_
                rotate_left
                · intro w hS; try subst hS
                  go_simp; try with_reducible rfl
                try simp only [Act.put, List.setIfInBounds_toArray, List.set_cons_zero, List.set_cons_succ]
                refine AnyH.take (i := 3) (d := some 110) (v := ?_) (by kernel_rfl) rfl rfl HF (fun _ _ _ h => h) (.inl ⟨by rfl, ?_⟩) (by first | assumption | rfl) ?_
                rotate_left
                · intro w hS; try subst hS
                  go_simp; try with_reducible rfl
                try simp only [Act.put, List.setIfInBounds_toArray, List.set_cons_zero, List.set_cons_succ]
                refine AnyH.take (i := 4) (d := some 111) (v := ?_) (by kernel_rfl) rfl rfl HF (fun _ _ _ h => h) (.inl ⟨by rfl, ?_⟩) (by first | assumption | rfl) ?_
                rotate_left
                · intro w hS; try subst hS
                  go_simp; try with_reducible rfl
                try simp only [Act.put, List.setIfInBounds_toArray, List.set_cons_zero, List.set_cons_succ]
                refine AnyH.take (i := 5) (d := some 112) (v := ?_) (by kernel_rfl) rfl rfl HF (fun _ _ _ h => h) (.inl ⟨by rfl, ?_⟩) (by first | assumption | rfl) ?_
                rotate_left
                · intro w hS; try subst hS
                  go_simp; try with_reducible rfl
                try simp only [Act.put, List.setIfInBounds_toArray, List.set_cons_zero, List.set_cons_succ]
                refine AnyH.take (i := 6) (d := some 113) (v := ?_) (by kernel_rfl) rfl rfl HF (fun _ _ _ h => h) (.inl ⟨by rfl, ?_⟩) (by first | assumption | rfl) ?_
                rotate_left
                · intro w hS; try subst hS
                  go_simp; try with_reducible rfl
                try simp only [Act.put, List.setIfInBounds_toArray, List.set_cons_zero, List.set_cons_succ]
                refine AnyH.tailL 7 (by kernel_rfl) ?_
                simp only [List.drop_succ_cons, List.drop_zero]
                gi_wp2_with fail
                refine NP.normal ?_
                have HEND : Hid (Making W1 c m g it N T last ch left'.length w6) := Lib.hid (by
                  have h1 := HFN.out.1; have h2 := HFN.out.2; have h3 := HMD.out
                  rw [← hwd] at h2 h3
                  exact making_put HP.out HD.out HR2.out HB2.out HB5.out HV5.out HQ2.out h3 h2 h1 hgs HNG.out.1 HNG.out.2.1 HNG.out.2.2.1 HNG.out.2.2.2.1 HNE.out.2.2)
                clear hwd hup k4 k0 B0
                go_wp2_with fail
                go_roundg left'.length
                case measure => have h1 := HP.out.length_eq; have h2 := HK.out; simp at h1; omega
                case rel => exact HEND.out
              | false =>
                go_wp2_with fail
                refine (sd.Put_any s x HI.out HSZ2.out).mono ?_; rintro e w4 ⟨q2, rfl, hq2, hB4⟩
                have HQ2 := Lib.hid hq2
                have HB5 := Lib.hid (Below.step HB4.out hB4)
                have HV5 := Lib.hid (show VerC w4 g (N + 1) q' from box_below hB4 HV.out)
                obtain ⟨g0, g1, g2, g3⟩ := VerC.cells HV5.out
                have HM5 := Lib.hid (HM4.out.below hB4)
                clear hq2 hB4 x0 x1 hnx hen hwy hw3 y0 y1 y2 y3
                obtain ⟨wd, hwd⟩ : ∃ w, (w4.setCell ⟨g, 1, none⟩ (.pointer q2)).drew = w := ⟨_, rfl⟩
                have hMd : MapAt (Value.int .i64) wd m (lastN last (N + 1) done) := by
                  rw [← hwd]; exact HM5.out.of_block (Below.heap_setCell _ _ _ _ HNG.out.2.1.symm)
                have HMD := Lib.hid hMd
                have hlen : (lastN last (N + 1) done).length < maxLen := by
                  have h1 := lastN_length (N + 1) done last; have h2 := HD.out.length_eq; have h3 := HSZ.out.2
                  rw [List.length_append] at h2
                  unfold maxLen; omega
                obtain ⟨w6, hup, hm6, hg6, -⟩ := hMd.put (P := Try.prog) (t := 152) (k := 9) (e := 3) Try.underlying9 Try.underlying152 hlen (s := s) (by unfold maxLen; omega) (N + 1)
                have HFN := Lib.hid (And.intro hm6 hg6)
                have hVd : VerC wd g (N + 1) q2 := by rw [← hwd]; exact HV5.out.put1 q2
                have hBd : BoxC wd b 1 N Q m := by rw [← hwd]; exact BoxC.other (W := w4) (box_below HB5.out (HB2.out.obj HBM.out H1.out)) _ HNG.out.2.2.2.2
                have k4 : ∀ w, Below wd.heap.size wd w → w.cell? ⟨b, 4, none⟩ = some (.map (some m)) := fun w hw => (BoxC.cells (box_below hw hBd)).2.2.2.1
                have k0 : ∀ w, Below wd.heap.size wd w → w.cell? ⟨g, 0, none⟩ = some (.int .i64 (N + 1)) := fun w hw => (VerC.cells (box_below hw hVd)).1
                clear hMd hlen hm6 hg6 hVd hBd
                go_wp2_with fail
                refine wp_region_anyNP (Below wd.heap.size wd) (by kernel_rfl) ?_
                rw [hwd]
                have B0 : Below wd.heap.size wd wd := Below.refl _ _
                clear g0 g1 g2 g3
                refine AnyH.take (i := 0) (d := some 107) (v := ?_) (by kernel_rfl) rfl rfl HF (fun _ _ _ h => h) (.inl ⟨by rfl, ?_⟩) (by first | assumption | rfl) ?_
                rotate_left
                · intro w hS; try subst hS
                  go_simp; try with_reducible rfl
                try simp only [Act.put, List.setIfInBounds_toArray, List.set_cons_zero, List.set_cons_succ]
                refine AnyH.take (i := 1) (d := some 108) (v := ?_) (by kernel_rfl) rfl rfl HF (fun _ _ _ h => h) (.inl ⟨by rfl, ?_⟩) (by first | assumption | rfl) ?_
                rotate_left
                · intro w hS; try subst hS
                  go_simp; try with_reducible rfl
                try simp only [Act.put, List.setIfInBounds_toArray, List.set_cons_zero, List.set_cons_succ]
                refine AnyH.take (i := 2) (d := some 109) (v := ?_) (by kernel_rfl) rfl rfl HF (fun _ _ _ h => h) (.inl ⟨by rfl, ?_⟩) (by first | assumption | rfl) ?_
                rotate_left
                · intro w hS; try subst hS
                  go_simp; try with_reducible rfl
                try simp only [Act.put, List.setIfInBounds_toArray, List.set_cons_zero, List.set_cons_succ]
                refine AnyH.take (i := 3) (d := some 110) (v := ?_) (by kernel_rfl) rfl rfl HF (fun _ _ _ h => h) (.inl ⟨by rfl, ?_⟩) (by first | assumption | rfl) ?_
                rotate_left
                · intro w hS; try subst hS
                  go_simp; try with_reducible rfl
                try simp only [Act.put, List.setIfInBounds_toArray, List.set_cons_zero, List.set_cons_succ]
                refine AnyH.take (i := 4) (d := some 111) (v := ?_) (by kernel_rfl) rfl rfl HF (fun _ _ _ h => h) (.inl ⟨by rfl, ?_⟩) (by first | assumption | rfl) ?_
                rotate_left
                · intro w hS; try subst hS
                  go_simp; try with_reducible rfl
                try simp only [Act.put, List.setIfInBounds_toArray, List.set_cons_zero, List.set_cons_succ]
                refine AnyH.take (i := 5) (d := some 112) (v := ?_) (by kernel_rfl) rfl rfl HF (fun _ _ _ h => h) (.inl ⟨by rfl, ?_⟩) (by first | assumption | rfl) ?_
                rotate_left
                · intro w hS; try subst hS
                  go_simp; try with_reducible rfl
                try simp only [Act.put, List.setIfInBounds_toArray, List.set_cons_zero, List.set_cons_succ]
                refine AnyH.take (i := 6) (d := some 113) (v := ?_) (by kernel_rfl) rfl rfl HF (fun _ _ _ h => h) (.inl ⟨by rfl, ?_⟩) (by first | assumption | rfl) ?_
                rotate_left
                · intro w hS; try subst hS
                  go_simp; try with_reducible rfl
                try simp only [Act.put, List.setIfInBounds_toArray, List.set_cons_zero, List.set_cons_succ]
                refine AnyH.tailL 7 (by kernel_rfl) ?_
                simp only [List.drop_succ_cons, List.drop_zero]
                gi_wp2_with fail
                refine NP.normal ?_
                have HEND : Hid (Making W1 c m g it N T last ch left'.length w6) := Lib.hid (by
                  have h1 := HFN.out.1; have h2 := HFN.out.2; have h3 := HMD.out
                  rw [← hwd] at h2 h3
                  exact making_put HP.out HD.out HR2.out HB2.out HB5.out HV5.out HQ2.out h3 h2 h1 hgs HNG.out.1 HNG.out.2.1 HNG.out.2.2.1 HNG.out.2.2.2.1 HNE.out.2.2)
                clear hwd hup k4 k0 B0
                go_wp2_with fail
                go_roundg left'.length
                case measure => have h1 := HP.out.length_eq; have h2 := HK.out; simp at h1; omega
                case rel => exact HEND.out
        · have hps := hpk p hpm
          have HP := Lib.hid hp; have HR2 := Lib.hid hRg2
          have hb2 := ranged hBl (Nat.le_refl _) hg2
          have HB2 := Lib.hid hb2
          have hbw := (Below.step HBl1.out hb2)
          have hlk : ∀ w, Below w2.heap.size w2 w → (Instr.lookup 152 (.map (some m)) (.string p.1) false).run Try.prog w = .ok (.int .i64 (lastOf last p.1)) w := fun w hw => look_last ((HM.out.below hbw).below hw) hps
          have k4 : ∀ w, Below w2.heap.size w2 w → w.cell? ⟨b, 4, none⟩ = some (.map (some m)) := fun w hw => (BoxC.cells (box_below hw (box_below hbw H1.out))).2.2.2.1
          have k1 : ∀ w, Below w2.heap.size w2 w → w.cell? ⟨t, 1, none⟩ = some (.int .i64 n) := fun w hw => (TxnC.cells (box_below hw (box_below hbw HT.out))).2.1
          have hcc : conf last n left = (decide (n < lastOf last p.1) || conf last n left') := (conf_perm hp).symm.trans conf_cons
          have HC2 := Lib.hid hcc
          have B0 : Below w2.heap.size w2 w2.drew := (Below.refl _ _).drew
          have HBD := Lib.hid (Below.step hb2 B0); have HRD := Lib.hid (hRg2.below' B0)
          clear hk hcf hBl hne hRg hp hRg2 hg2 hz2 hb2 hcc hpk hbw hps hpm
          by_cases hgt : n < lastOf last p.1
          · have hC1 : C = true := by
              have h1 : conf last n ch = true := by rw [← HCF2.out, HC2.out, decide_eq_true hgt]; rfl
              rw [← HCC.out, h1, Bool.or_true]
            have HC1 := Lib.hid hC1; clear hC1
            have hd : decide (n < lastOf last p.1) = true := decide_eq_true hgt
            generalize lastOf last p.1 = Lk at *
            generalize p.1 = ps at *; generalize p.2 = pv at *
            go_wp2_with fail
            refine wp_region_anyNP (Below w2.heap.size w2) (by kernel_rfl) ?_
            refine AnyH.take (i := 0) (d := some 49) (v := ?_) (by kernel_rfl) rfl rfl HF (fun _ _ _ h => h) (.inl ⟨by rfl, ?_⟩) (by first | assumption | rfl) ?_
            rotate_left
            · intro w hS; try subst hS
              go_simp; try with_reducible rfl
            try simp only [Act.put, List.setIfInBounds_toArray, List.set_cons_zero, List.set_cons_succ]
            refine AnyH.take (i := 1) (d := some 50) (v := ?_) (by kernel_rfl) rfl rfl HF (fun _ _ _ h => h) (.inl ⟨by rfl, ?_⟩) (by first | assumption | rfl) ?_
            rotate_left
            · intro w hS; try subst hS
              go_simp; try with_reducible rfl
            try simp only [Act.put, List.setIfInBounds_toArray, List.set_cons_zero, List.set_cons_succ]
            refine AnyH.take (i := 2) (d := some 51) (v := ?_) (by kernel_rfl) rfl rfl HF (fun _ _ _ h => h) (.inl ⟨by rfl, ?_⟩) (by first | assumption | rfl) ?_
            rotate_left
            · intro w hS; try subst hS
              go_simp; try with_reducible rfl
            try simp only [Act.put, List.setIfInBounds_toArray, List.set_cons_zero, List.set_cons_succ]
            refine AnyH.take (i := 3) (d := some 52) (v := ?_) (by kernel_rfl) rfl rfl HF (fun _ _ _ h => h) (.inl ⟨by rfl, ?_⟩) (by first | assumption | rfl) ?_
            rotate_left
            · intro w hS; try subst hS
              go_simp; try with_reducible rfl
            try simp only [Act.put, List.setIfInBounds_toArray, List.set_cons_zero, List.set_cons_succ]
            refine AnyH.take (i := 4) (d := some 53) (v := ?_) (by kernel_rfl) rfl rfl HF (fun _ _ _ h => h) (.inl ⟨by rfl, ?_⟩) (by first | assumption | rfl) ?_
            rotate_left
            · intro w hS; try subst hS
              go_simp; try with_reducible rfl
            try simp only [Act.put, List.setIfInBounds_toArray, List.set_cons_zero, List.set_cons_succ]
            refine AnyH.take (i := 5) (d := some 54) (v := ?_) (by kernel_rfl) rfl rfl HF (fun _ _ _ h => h) (.inl ⟨by rfl, ?_⟩) (by first | assumption | rfl) ?_
            rotate_left
            · intro w hS; try subst hS
              go_simp; try with_reducible rfl
            try simp only [Act.put, List.setIfInBounds_toArray, List.set_cons_zero, List.set_cons_succ]
            refine AnyH.take (i := 6) (d := some 55) (v := ?_) (by kernel_rfl) rfl rfl HF (fun _ _ _ h => h) (.inl ⟨by rfl, ?_⟩) (by first | assumption | rfl) ?_
            rotate_left
            · intro w hS; try subst hS
              go_simp; try with_reducible rfl
            try simp only [Act.put, List.setIfInBounds_toArray, List.set_cons_zero, List.set_cons_succ]
            refine AnyH.take (i := 7) (d := some 56) (v := ?_) (by kernel_rfl) rfl rfl HF (fun _ _ _ h => h) (.inl ⟨by rfl, ?_⟩) (by first | assumption | rfl) ?_
            rotate_left
            · intro w hS; try subst hS
              go_simp; try with_reducible rfl
            try simp only [Act.put, List.setIfInBounds_toArray, List.set_cons_zero, List.set_cons_succ]
            refine AnyH.take (i := 8) (d := some 57) (v := ?_) (by kernel_rfl) rfl rfl HF (fun _ _ _ h => h) (.inl ⟨by rfl, ?_⟩) (by first | assumption | rfl) ?_
            rotate_left
            · intro w hS; try subst hS
              go_simp; try with_reducible rfl
            try simp only [Act.put, List.setIfInBounds_toArray, List.set_cons_zero, List.set_cons_succ]
            refine AnyH.take (i := 9) (d := some 58) (v := ?_) (by kernel_rfl) rfl rfl HF (fun _ _ _ h => h) (.inl ⟨by rfl, ?_⟩) (by first | assumption | rfl) ?_
            rotate_left
            · intro w hS; try subst hS
              go_simp; try with_reducible rfl
            try simp only [Act.put, List.setIfInBounds_toArray, List.set_cons_zero, List.set_cons_succ]
            refine AnyH.take (i := 10) (d := some 59) (v := ?_) (by kernel_rfl) rfl rfl HF (fun _ _ _ h => h) (.inl ⟨by rfl, ?_⟩) (by first | assumption | rfl) ?_
            rotate_left
            · intro w hS; try subst hS
              go_simp; try with_reducible rfl
            try simp only [Act.put, List.setIfInBounds_toArray, List.set_cons_zero, List.set_cons_succ]
            refine AnyH.take (i := 11) (d := some 60) (v := ?_) (by kernel_rfl) rfl rfl HF (fun _ _ _ h => h) (.inl ⟨by rfl, ?_⟩) (by first | assumption | rfl) ?_
            rotate_left
            · intro w hS; try subst hS
              go_simp; try with_reducible rfl
            try simp only [Act.put, List.setIfInBounds_toArray, List.set_cons_zero, List.set_cons_succ]
            refine AnyH.done (by kernel_rfl) ?_
            refine NP.normal ?_
            have hbx := (Below.step HBl1.out HBD.out)
            obtain ⟨d0, -, -, -, e0, -⟩ := BoxC.cells (box_below hbx H1.out)
            have HU := Lib.hid (unmade H.out HB.out H1.out hbx)
            clear hbx k1 k4 hlk B0 hnx hen
            go_wp2_with fail
            refine leaves_cons (f := 60) (args := #[.pointer (some ⟨b, 0, none⟩)]) (by simp) (by simp [go_sem]) ?_
            refine (unlock_deferred muLib ⟨b, 0, none⟩ _ _ d0 e0).mono ?_
            rintro e u' w'' ⟨rfl, rfl, rfl⟩
            simp only [Leaves, settle, results, Try.results45]
            simp [go_sem]
            exact .inl ⟨HC1.out, rfl, HU.out⟩
          · have hd : decide (n < lastOf last p.1) = false := decide_eq_false hgt
            have HC3 : Hid (conf last n left' = conf last n ch) := Lib.hid (by rw [← HCF2.out, HC2.out, hd]; rfl)
            generalize lastOf last p.1 = Lk at *
            generalize p.1 = ps at *; generalize p.2 = pv at *
            go_wp2_with fail
            refine wp_region_anyNP (Below w2.heap.size w2) (by kernel_rfl) ?_
            refine AnyH.take (i := 0) (d := some 49) (v := ?_) (by kernel_rfl) rfl rfl HF (fun _ _ _ h => h) (.inl ⟨by rfl, ?_⟩) (by first | assumption | rfl) ?_
            rotate_left
            · intro w hS; try subst hS
              go_simp; try with_reducible rfl
            try simp only [Act.put, List.setIfInBounds_toArray, List.set_cons_zero, List.set_cons_succ]
            refine AnyH.take (i := 1) (d := some 50) (v := ?_) (by kernel_rfl) rfl rfl HF (fun _ _ _ h => h) (.inl ⟨by rfl, ?_⟩) (by first | assumption | rfl) ?_
            rotate_left
            · intro w hS; try subst hS
              go_simp; try with_reducible rfl
            try simp only [Act.put, List.setIfInBounds_toArray, List.set_cons_zero, List.set_cons_succ]
            refine AnyH.take (i := 2) (d := some 51) (v := ?_) (by kernel_rfl) rfl rfl HF (fun _ _ _ h => h) (.inl ⟨by rfl, ?_⟩) (by first | assumption | rfl) ?_
            rotate_left
            · intro w hS; try subst hS
              go_simp; try with_reducible rfl
            try simp only [Act.put, List.setIfInBounds_toArray, List.set_cons_zero, List.set_cons_succ]
            refine AnyH.take (i := 3) (d := some 52) (v := ?_) (by kernel_rfl) rfl rfl HF (fun _ _ _ h => h) (.inl ⟨by rfl, ?_⟩) (by first | assumption | rfl) ?_
            rotate_left
            · intro w hS; try subst hS
              go_simp; try with_reducible rfl
            try simp only [Act.put, List.setIfInBounds_toArray, List.set_cons_zero, List.set_cons_succ]
            refine AnyH.take (i := 4) (d := some 53) (v := ?_) (by kernel_rfl) rfl rfl HF (fun _ _ _ h => h) (.inl ⟨by rfl, ?_⟩) (by first | assumption | rfl) ?_
            rotate_left
            · intro w hS; try subst hS
              go_simp; try with_reducible rfl
            try simp only [Act.put, List.setIfInBounds_toArray, List.set_cons_zero, List.set_cons_succ]
            refine AnyH.take (i := 5) (d := some 54) (v := ?_) (by kernel_rfl) rfl rfl HF (fun _ _ _ h => h) (.inl ⟨by rfl, ?_⟩) (by first | assumption | rfl) ?_
            rotate_left
            · intro w hS; try subst hS
              go_simp; try with_reducible rfl
            try simp only [Act.put, List.setIfInBounds_toArray, List.set_cons_zero, List.set_cons_succ]
            refine AnyH.take (i := 6) (d := some 55) (v := ?_) (by kernel_rfl) rfl rfl HF (fun _ _ _ h => h) (.inl ⟨by rfl, ?_⟩) (by first | assumption | rfl) ?_
            rotate_left
            · intro w hS; try subst hS
              go_simp; try with_reducible rfl
            try simp only [Act.put, List.setIfInBounds_toArray, List.set_cons_zero, List.set_cons_succ]
            refine AnyH.take (i := 7) (d := some 56) (v := ?_) (by kernel_rfl) rfl rfl HF (fun _ _ _ h => h) (.inl ⟨by rfl, ?_⟩) (by first | assumption | rfl) ?_
            rotate_left
            · intro w hS; try subst hS
              go_simp; try with_reducible rfl
            try simp only [Act.put, List.setIfInBounds_toArray, List.set_cons_zero, List.set_cons_succ]
            refine AnyH.take (i := 8) (d := some 57) (v := ?_) (by kernel_rfl) rfl rfl HF (fun _ _ _ h => h) (.inl ⟨by rfl, ?_⟩) (by first | assumption | rfl) ?_
            rotate_left
            · intro w hS; try subst hS
              go_simp; try with_reducible rfl
            try simp only [Act.put, List.setIfInBounds_toArray, List.set_cons_zero, List.set_cons_succ]
            refine AnyH.take (i := 9) (d := some 58) (v := ?_) (by kernel_rfl) rfl rfl HF (fun _ _ _ h => h) (.inl ⟨by rfl, ?_⟩) (by first | assumption | rfl) ?_
            rotate_left
            · intro w hS; try subst hS
              go_simp; try with_reducible rfl
            try simp only [Act.put, List.setIfInBounds_toArray, List.set_cons_zero, List.set_cons_succ]
            refine AnyH.take (i := 10) (d := some 59) (v := ?_) (by kernel_rfl) rfl rfl HF (fun _ _ _ h => h) (.inl ⟨by rfl, ?_⟩) (by first | assumption | rfl) ?_
            rotate_left
            · intro w hS; try subst hS
              go_simp; try with_reducible rfl
            try simp only [Act.put, List.setIfInBounds_toArray, List.set_cons_zero, List.set_cons_succ]
            refine AnyH.take (i := 11) (d := some 60) (v := ?_) (by kernel_rfl) rfl rfl HF (fun _ _ _ h => h) (.inl ⟨by rfl, ?_⟩) (by first | assumption | rfl) ?_
            rotate_left
            · intro w hS; try subst hS
              go_simp; try with_reducible rfl
            try simp only [Act.put, List.setIfInBounds_toArray, List.set_cons_zero, List.set_cons_succ]
            refine AnyH.done (by kernel_rfl) ?_
            refine NP.normal ?_
            clear k1 k4 hlk B0 hnx hen
            go_wp2_with fail
            go_roundg left'.length
            case measure => have h1 := HP.out.length_eq; have h2 := HK.out; simp at h1; omega
            case rel => exact ⟨left', rfl, HRD.out, HC3.out, HBD.out⟩
    · have hps := hpk p hpm
      have HP := Lib.hid hp; have HR2 := Lib.hid hRg2
      have hb2 := ranged hBl (Nat.le_refl _) hg2
      have HB2 := Lib.hid hb2
      have hbw := (hb2)
      have hlk : ∀ w, Below w2.heap.size w2 w → (Instr.lookup 152 (.map (some m)) (.string p.1) false).run Try.prog w = .ok (.int .i64 (lastOf last p.1)) w := fun w hw => look_last ((HM.out.below hbw).below hw) hps
      have k4 : ∀ w, Below w2.heap.size w2 w → w.cell? ⟨b, 4, none⟩ = some (.map (some m)) := fun w hw => (BoxC.cells (box_below hw (box_below hbw H1.out))).2.2.2.1
      have k1 : ∀ w, Below w2.heap.size w2 w → w.cell? ⟨t, 1, none⟩ = some (.int .i64 n) := fun w hw => (TxnC.cells (box_below hw (box_below hbw HT.out))).2.1
      have hcc : conf last n left = (decide (n < lastOf last p.1) || conf last n left') := (conf_perm hp).symm.trans conf_cons
      have HC2 := Lib.hid hcc
      have B0 : Below w2.heap.size w2 w2.drew := (Below.refl _ _).drew
      have HBD := Lib.hid (Below.step hb2 B0); have HRD := Lib.hid (hRg2.below' B0)
      clear hk hcf hBl hne hRg hp hRg2 hg2 hz2 hb2 hcc hpk hbw hps hpm
      by_cases hgt : n < lastOf last p.1
      · have hC1 : C = true := by
          have h1 : conf last n rd = true := by rw [← HCF1.out, HC2.out, decide_eq_true hgt]; rfl
          rw [← HCC.out, h1]; rfl
        have HC1 := Lib.hid hC1; clear hC1
        have hd : decide (n < lastOf last p.1) = true := decide_eq_true hgt
        generalize lastOf last p.1 = Lk at *
        generalize p.1 = ps at *; generalize p.2 = pv at *
        go_wp2_with fail
        refine wp_region_anyNP (Below w2.heap.size w2) (by kernel_rfl) ?_
        refine AnyH.take (i := 0) (d := some 27) (v := ?_) (by kernel_rfl) rfl rfl HF (fun _ _ _ h => h) (.inl ⟨by rfl, ?_⟩) (by first | assumption | rfl) ?_
        rotate_left
        · intro w hS; try subst hS
          go_simp; try with_reducible rfl
        try simp only [Act.put, List.setIfInBounds_toArray, List.set_cons_zero, List.set_cons_succ]
        refine AnyH.take (i := 1) (d := some 28) (v := ?_) (by kernel_rfl) rfl rfl HF (fun _ _ _ h => h) (.inl ⟨by rfl, ?_⟩) (by first | assumption | rfl) ?_
        rotate_left
        · intro w hS; try subst hS
          go_simp; try with_reducible rfl
        try simp only [Act.put, List.setIfInBounds_toArray, List.set_cons_zero, List.set_cons_succ]
        refine AnyH.take (i := 2) (d := some 29) (v := ?_) (by kernel_rfl) rfl rfl HF (fun _ _ _ h => h) (.inl ⟨by rfl, ?_⟩) (by first | assumption | rfl) ?_
        rotate_left
        · intro w hS; try subst hS
          go_simp; try with_reducible rfl
        try simp only [Act.put, List.setIfInBounds_toArray, List.set_cons_zero, List.set_cons_succ]
        refine AnyH.take (i := 3) (d := some 30) (v := ?_) (by kernel_rfl) rfl rfl HF (fun _ _ _ h => h) (.inl ⟨by rfl, ?_⟩) (by first | assumption | rfl) ?_
        rotate_left
        · intro w hS; try subst hS
          go_simp; try with_reducible rfl
        try simp only [Act.put, List.setIfInBounds_toArray, List.set_cons_zero, List.set_cons_succ]
        refine AnyH.take (i := 4) (d := some 31) (v := ?_) (by kernel_rfl) rfl rfl HF (fun _ _ _ h => h) (.inl ⟨by rfl, ?_⟩) (by first | assumption | rfl) ?_
        rotate_left
        · intro w hS; try subst hS
          go_simp; try with_reducible rfl
        try simp only [Act.put, List.setIfInBounds_toArray, List.set_cons_zero, List.set_cons_succ]
        refine AnyH.take (i := 5) (d := some 32) (v := ?_) (by kernel_rfl) rfl rfl HF (fun _ _ _ h => h) (.inl ⟨by rfl, ?_⟩) (by first | assumption | rfl) ?_
        rotate_left
        · intro w hS; try subst hS
          go_simp; try with_reducible rfl
        try simp only [Act.put, List.setIfInBounds_toArray, List.set_cons_zero, List.set_cons_succ]
        refine AnyH.take (i := 6) (d := some 33) (v := ?_) (by kernel_rfl) rfl rfl HF (fun _ _ _ h => h) (.inl ⟨by rfl, ?_⟩) (by first | assumption | rfl) ?_
        rotate_left
        · intro w hS; try subst hS
          go_simp; try with_reducible rfl
        try simp only [Act.put, List.setIfInBounds_toArray, List.set_cons_zero, List.set_cons_succ]
        refine AnyH.take (i := 7) (d := some 34) (v := ?_) (by kernel_rfl) rfl rfl HF (fun _ _ _ h => h) (.inl ⟨by rfl, ?_⟩) (by first | assumption | rfl) ?_
        rotate_left
        · intro w hS; try subst hS
          go_simp; try with_reducible rfl
        try simp only [Act.put, List.setIfInBounds_toArray, List.set_cons_zero, List.set_cons_succ]
        refine AnyH.take (i := 8) (d := some 35) (v := ?_) (by kernel_rfl) rfl rfl HF (fun _ _ _ h => h) (.inl ⟨by rfl, ?_⟩) (by first | assumption | rfl) ?_
        rotate_left
        · intro w hS; try subst hS
          go_simp; try with_reducible rfl
        try simp only [Act.put, List.setIfInBounds_toArray, List.set_cons_zero, List.set_cons_succ]
        refine AnyH.take (i := 9) (d := some 36) (v := ?_) (by kernel_rfl) rfl rfl HF (fun _ _ _ h => h) (.inl ⟨by rfl, ?_⟩) (by first | assumption | rfl) ?_
        rotate_left
        · intro w hS; try subst hS
          go_simp; try with_reducible rfl
        try simp only [Act.put, List.setIfInBounds_toArray, List.set_cons_zero, List.set_cons_succ]
        refine AnyH.take (i := 10) (d := some 37) (v := ?_) (by kernel_rfl) rfl rfl HF (fun _ _ _ h => h) (.inl ⟨by rfl, ?_⟩) (by first | assumption | rfl) ?_
        rotate_left
        · intro w hS; try subst hS
          go_simp; try with_reducible rfl
        try simp only [Act.put, List.setIfInBounds_toArray, List.set_cons_zero, List.set_cons_succ]
        refine AnyH.take (i := 11) (d := some 38) (v := ?_) (by kernel_rfl) rfl rfl HF (fun _ _ _ h => h) (.inl ⟨by rfl, ?_⟩) (by first | assumption | rfl) ?_
        rotate_left
        · intro w hS; try subst hS
          go_simp; try with_reducible rfl
        try simp only [Act.put, List.setIfInBounds_toArray, List.set_cons_zero, List.set_cons_succ]
        refine AnyH.done (by kernel_rfl) ?_
        refine NP.normal ?_
        have hbx := (HBD.out)
        obtain ⟨d0, -, -, -, e0, -⟩ := BoxC.cells (box_below hbx H1.out)
        have HU := Lib.hid (unmade H.out HB.out H1.out hbx)
        clear hbx k1 k4 hlk B0 hnx hen
        go_wp2_with fail
        refine leaves_cons (f := 60) (args := #[.pointer (some ⟨b, 0, none⟩)]) (by simp) (by simp [go_sem]) ?_
        refine (unlock_deferred muLib ⟨b, 0, none⟩ _ _ d0 e0).mono ?_
        rintro e u' w'' ⟨rfl, rfl, rfl⟩
        simp only [Leaves, settle, results, Try.results45]
        simp [go_sem]
        exact .inl ⟨HC1.out, rfl, HU.out⟩
      · have hd : decide (n < lastOf last p.1) = false := decide_eq_false hgt
        have HC3 : Hid (conf last n left' = conf last n rd) := Lib.hid (by rw [← HCF1.out, HC2.out, hd]; rfl)
        generalize lastOf last p.1 = Lk at *
        generalize p.1 = ps at *; generalize p.2 = pv at *
        go_wp2_with fail
        refine wp_region_anyNP (Below w2.heap.size w2) (by kernel_rfl) ?_
        refine AnyH.take (i := 0) (d := some 27) (v := ?_) (by kernel_rfl) rfl rfl HF (fun _ _ _ h => h) (.inl ⟨by rfl, ?_⟩) (by first | assumption | rfl) ?_
        rotate_left
        · intro w hS; try subst hS
          go_simp; try with_reducible rfl
        try simp only [Act.put, List.setIfInBounds_toArray, List.set_cons_zero, List.set_cons_succ]
        refine AnyH.take (i := 1) (d := some 28) (v := ?_) (by kernel_rfl) rfl rfl HF (fun _ _ _ h => h) (.inl ⟨by rfl, ?_⟩) (by first | assumption | rfl) ?_
        rotate_left
        · intro w hS; try subst hS
          go_simp; try with_reducible rfl
        try simp only [Act.put, List.setIfInBounds_toArray, List.set_cons_zero, List.set_cons_succ]
        refine AnyH.take (i := 2) (d := some 29) (v := ?_) (by kernel_rfl) rfl rfl HF (fun _ _ _ h => h) (.inl ⟨by rfl, ?_⟩) (by first | assumption | rfl) ?_
        rotate_left
        · intro w hS; try subst hS
          go_simp; try with_reducible rfl
        try simp only [Act.put, List.setIfInBounds_toArray, List.set_cons_zero, List.set_cons_succ]
        refine AnyH.take (i := 3) (d := some 30) (v := ?_) (by kernel_rfl) rfl rfl HF (fun _ _ _ h => h) (.inl ⟨by rfl, ?_⟩) (by first | assumption | rfl) ?_
        rotate_left
        · intro w hS; try subst hS
          go_simp; try with_reducible rfl
        try simp only [Act.put, List.setIfInBounds_toArray, List.set_cons_zero, List.set_cons_succ]
        refine AnyH.take (i := 4) (d := some 31) (v := ?_) (by kernel_rfl) rfl rfl HF (fun _ _ _ h => h) (.inl ⟨by rfl, ?_⟩) (by first | assumption | rfl) ?_
        rotate_left
        · intro w hS; try subst hS
          go_simp; try with_reducible rfl
        try simp only [Act.put, List.setIfInBounds_toArray, List.set_cons_zero, List.set_cons_succ]
        refine AnyH.take (i := 5) (d := some 32) (v := ?_) (by kernel_rfl) rfl rfl HF (fun _ _ _ h => h) (.inl ⟨by rfl, ?_⟩) (by first | assumption | rfl) ?_
        rotate_left
        · intro w hS; try subst hS
          go_simp; try with_reducible rfl
        try simp only [Act.put, List.setIfInBounds_toArray, List.set_cons_zero, List.set_cons_succ]
        refine AnyH.take (i := 6) (d := some 33) (v := ?_) (by kernel_rfl) rfl rfl HF (fun _ _ _ h => h) (.inl ⟨by rfl, ?_⟩) (by first | assumption | rfl) ?_
        rotate_left
        · intro w hS; try subst hS
          go_simp; try with_reducible rfl
        try simp only [Act.put, List.setIfInBounds_toArray, List.set_cons_zero, List.set_cons_succ]
        refine AnyH.take (i := 7) (d := some 34) (v := ?_) (by kernel_rfl) rfl rfl HF (fun _ _ _ h => h) (.inl ⟨by rfl, ?_⟩) (by first | assumption | rfl) ?_
        rotate_left
        · intro w hS; try subst hS
          go_simp; try with_reducible rfl
        try simp only [Act.put, List.setIfInBounds_toArray, List.set_cons_zero, List.set_cons_succ]
        refine AnyH.take (i := 8) (d := some 35) (v := ?_) (by kernel_rfl) rfl rfl HF (fun _ _ _ h => h) (.inl ⟨by rfl, ?_⟩) (by first | assumption | rfl) ?_
        rotate_left
        · intro w hS; try subst hS
          go_simp; try with_reducible rfl
        try simp only [Act.put, List.setIfInBounds_toArray, List.set_cons_zero, List.set_cons_succ]
        refine AnyH.take (i := 9) (d := some 36) (v := ?_) (by kernel_rfl) rfl rfl HF (fun _ _ _ h => h) (.inl ⟨by rfl, ?_⟩) (by first | assumption | rfl) ?_
        rotate_left
        · intro w hS; try subst hS
          go_simp; try with_reducible rfl
        try simp only [Act.put, List.setIfInBounds_toArray, List.set_cons_zero, List.set_cons_succ]
        refine AnyH.take (i := 10) (d := some 37) (v := ?_) (by kernel_rfl) rfl rfl HF (fun _ _ _ h => h) (.inl ⟨by rfl, ?_⟩) (by first | assumption | rfl) ?_
        rotate_left
        · intro w hS; try subst hS
          go_simp; try with_reducible rfl
        try simp only [Act.put, List.setIfInBounds_toArray, List.set_cons_zero, List.set_cons_succ]
        refine AnyH.take (i := 11) (d := some 38) (v := ?_) (by kernel_rfl) rfl rfl HF (fun _ _ _ h => h) (.inl ⟨by rfl, ?_⟩) (by first | assumption | rfl) ?_
        rotate_left
        · intro w hS; try subst hS
          go_simp; try with_reducible rfl
        try simp only [Act.put, List.setIfInBounds_toArray, List.set_cons_zero, List.set_cons_succ]
        refine AnyH.done (by kernel_rfl) ?_
        refine NP.normal ?_
        clear k1 k4 hlk B0 hnx hen
        go_wp2_with fail
        go_roundg left'.length
        case measure => have h1 := HP.out.length_eq; have h2 := HK.out; simp at h1; omega
        case rel => exact ⟨left', rfl, HRD.out, HC3.out, HBD.out⟩
end S
end Go.Proofs.Ytlfodhejpbjfcaa
