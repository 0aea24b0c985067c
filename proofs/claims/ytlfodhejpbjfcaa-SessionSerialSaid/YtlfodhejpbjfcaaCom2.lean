/- A box's commit: where there is a conflict, nothing is made; where there is none, the changes.
Commit where there is something to be made visible.
Slices of named texts; the box that New makes.
The box and the transactions as a whole: what each call does to one of them, the others standing.
The number of an error.
A slice of acts. No walk. -/
import Derived.Test.YtlfodhejpbjfcaaSes
import Derived.Test.YtlfodhejpbjfcaaPm
import Derived.Deep.LoopGhost
import Derived.WalkSpells
import Derived.Test.YtlfodhejpbjfcaaCom
set_option linter.unusedVariables false
set_option linter.unusedSimpArgs false
namespace Go.Proofs.Ytlfodhejpbjfcaa
open Go.RowKit Go.MuLone
theorem MapAt.keys {α : Type} {ev : α → Value} {w : World} {b : Nat} {l : List (ByteArray × α)} (h : MapAt ev w b l) : ∀ p ∈ l, p.1.size ≤ maxLen := by obtain ⟨es, c, -, -, -, h⟩ := h; exact h
theorem RangeAt.below' {α : Type} {ev : α → Value} {w w' : World} {b r : Nat} {l left : List (ByteArray × α)} (h : RangeAt ev w b r l left) (hb : Below w.heap.size w w') : RangeAt ev w' b r l left :=
  h.of_blocks (hb.block b h.map.lt) (hb.block r (by obtain ⟨es, clock, since, seen, c0, h1, h2, h3, h4, h5, -⟩ := h; exact (Array.getElem?_eq_some_iff.1 h5).1))
theorem RangeAt.lt {α : Type} {ev : α → Value} {w : World} {b r : Nat} {l left : List (ByteArray × α)} (h : RangeAt ev w b r l left) : r < w.heap.size := by obtain ⟨es, clock, since, seen, c0, h1, h2, h3, h4, h5, -⟩ := h; exact (Array.getElem?_eq_some_iff.1 h5).1
namespace S
attribute [local go_sem] Oper.semAt_some

/-- 'm[k]' of a map of numbers. -/
theorem look_last {w : World} {m : Nat} {last : List (ByteArray × Int)} (h : MapAt (Value.int .i64) w m last) {s : ByteArray} (hs : s.size ≤ 9223372036854775807) :
    (Instr.lookup 152 (.map (some m)) (.string s) false).run Try.prog w = .ok (.int .i64 (lastOf last s)) w := by
  rw [h.look (P := Try.prog) (t := 152) (k := 9) (e := 3) false Try.underlying9 Try.underlying152 (z := .int .i64 0) (by kernel_rfl) (by unfold maxLen; omega)]
  unfold lastOf
  cases getA s last <;> rfl

theorem ranged {W1 wr w2 : World} (hB : Below W1.heap.size W1 wr) {it : Nat} (hit : W1.heap.size ≤ it) (hg : wr.grownBy w2 (some it)) : Below W1.heap.size W1 w2 :=
  hB.grown hg hB.size (fun k e => by cases e; exact hit)
/-- The lock is given back, and nothing has been made. -/
theorem unmade {W W1 wx : World} {b m : Nat} {N : Int} {Q : Option Addr} (h : BoxC W b 0 N Q m) (hb : BC b W W1) (h1 : BoxC W1 b 1 N Q m) (hx : Below W1.heap.size W1 wx) : Below W.heap.size W (wx.setCell ⟨b, 0, none⟩ (.int .i32 0)) :=
  ((hb.trans (.of hx)).set (p := ⟨b, 0, none⟩) (.inr rfl) _).close (((BoxC.lock (W := wx) (box_below hx h1) 0)).trans h.symm)
theorem _root_.Go.Proofs.Ytlfodhejpbjfcaa.BC.fresh {m it : Nat} {A B D : World} (h : BC m A B) (k : BC it B D) (hi : A.heap.size ≤ it) : BC m A D :=
  ⟨k.os.trans h.os, k.tape.trans h.tape, k.output.trans h.output, Nat.le_trans h.size k.size, fun i hl hm => (k.block i (Nat.lt_of_lt_of_le hl h.size) (by omega)).trans (h.block i hl hm)⟩
theorem BC2.set {C D : Nat} {A B : World} (h : BC2 C D A B) {p : Addr} (hp : p.block = C) (u : Value) : BC2 C D A (B.setCell p u) :=
  ⟨h.os, h.tape, h.output, Nat.le_trans h.size (by simp [World.setCell]), fun k hk hc hd => (Below.heap_setCell _ _ _ _ (by omega)).trans (h.block k hk hc hd)⟩
theorem BoxC.put {W : World} {b m : Nat} {l N : Int} {Q : Option Addr} (h : BoxC W b l N Q m) (N' : Int) (Q' : Option Addr) : BoxC ((W.setCell ⟨b, 2, none⟩ (.int .i64 N')).setCell ⟨b, 3, none⟩ (.pointer Q')) b l N' Q' m := by
  unfold BoxC at h ⊢
  rw [heap_set0 _ (heap_set0 _ h)]; rfl
theorem keep_iter {wr w2 : World} {ev : Int × Bool → Value} {c it : Nat} {ch left : List (ByteArray × (Int × Bool))} (h : RangeAt ev wr c it ch left) (hg : wr.grownBy w2 (some it)) : KeepT 189 wr w2 := fun k cs fz e => by
  have hki : k ≠ it := fun e2 => by
    obtain ⟨es, clock, since, seen, c0, h1, h2, h3, h4, h5, -⟩ := h
    rw [e2, h5] at e; cases e
  rw [hg.block k (Array.getElem?_eq_some_iff.1 e).1 (fun e2 => hki (Option.some.inj e2))]; exact e
/-- What holds ahead of each round of the loop that makes the changes. -/
def Making (W1 : World) (c m g it : Nat) (N : Int) (T : Tr ByteArray Int) (last : List (ByteArray × Int)) (ch : List (ByteArray × (Int × Bool))) (k : Nat) (wr : World) : Prop :=
  ∃ left done q', left.length = k ∧ (done ++ left).Perm ch ∧ RangeAt evc wr c it ch left ∧ VerC wr g (N + 1) q' ∧ sd.Is wr q' (appN T done) ∧ MapAt (Value.int .i64) wr m (lastN last (N + 1) done) ∧ BC m W1 wr
theorem Making.step {W1 w2 : World} {c m g it : Nat} {N : Int} {T : Tr ByteArray Int} {last : List (ByteArray × Int)} {ch left' done : List (ByteArray × (Int × Bool))} {q' : Option Addr} {p : ByteArray × (Int × Bool)} {left : List (ByteArray × (Int × Bool))}
    (hp : (p :: left').Perm left) (hd : (done ++ left).Perm ch) (hR : RangeAt evc w2 c it ch left') (hV : VerC w2 g (N + 1) q') (hI : sd.Is w2 q' (app1 (appN T done) p)) (hM : MapAt (Value.int .i64) w2 m (putA p.1 (N + 1) (lastN last (N + 1) done))) (hB : BC m W1 w2) :
    Making W1 c m g it N T last ch left'.length w2 :=
  ⟨left', done ++ [p], q', rfl, by rw [List.append_assoc]; exact (hp.append_left done).trans hd, hR, hV, by rw [appN_snoc]; exact hI, by rw [lastN_snoc]; exact hM, hB⟩
theorem VerC.put1 {W : World} {g : Nat} {n : Int} {q : Option Addr} (h : VerC W g n q) (q' : Option Addr) : VerC (W.setCell ⟨g, 1, none⟩ (.pointer q')) g n q' := by
  unfold VerC at h ⊢
  rw [heap_set0 _ h]; rfl
/-- The round's end: the tree has been laid into the version in the making, the name's last version into the map. -/
theorem making_put {W1 w2 w4 w6 : World} {c m g it : Nat} {N : Int} {T : Tr ByteArray Int} {last : List (ByteArray × Int)} {ch left' done left : List (ByteArray × (Int × Bool))} {q' q2 : Option Addr} {s : ByteArray} {x : Int} {d : Bool}
    (hp : ((s, (x, d)) :: left').Perm left) (hd : (done ++ left).Perm ch) (hR : RangeAt evc w2 c it ch left') (hB : BC m W1 w2) (hb : Below w2.heap.size w2 w4) (hV : VerC w4 g (N + 1) q') (hI : sd.Is w4 q2 (app1 (appN T done) (s, (x, d))))
    (hM5 : MapAt (Value.int .i64) ((w4.setCell ⟨g, 1, none⟩ (.pointer q2)).drew) m (lastN last (N + 1) done)) (hg6 : ((w4.setCell ⟨g, 1, none⟩ (.pointer q2)).drew).grownBy w6 (some m)) (hm6 : MapAt (Value.int .i64) w6 m (putA s (N + 1) (lastN last (N + 1) done)))
    (hgW : W1.heap.size ≤ g) (hcg : c ≠ g) (hgm : g ≠ m) (hig : it ≠ g) (him : it ≠ m) (hcm : m ≠ c) : Making W1 c m g it N T last ch left'.length w6 := by
  have h5' : BC g w2 (w4.setCell ⟨g, 1, none⟩ (.pointer q2)) := (BC.of hb).set (p := ⟨g, 1, none⟩) (.inr rfl) _
  have h5 : BC g w2 ((w4.setCell ⟨g, 1, none⟩ (.pointer q2)).drew) := ⟨h5'.os, h5'.tape, h5'.output, h5'.size, h5'.block⟩
  have h6 := BC.grown hg6
  have h26 := h5.two h6
  have hI5 : sd.Is ((w4.setCell ⟨g, 1, none⟩ (.pointer q2)).drew) q2 (app1 (appN T done) (s, (x, d))) := (hI.keep (KeepT.setCell (nt := 189) (a := ⟨g, 1, none⟩) (v := .pointer q2) hV (by decide))).keep (KeepT.refl _ _).drew
  have hV5 : VerC ((w4.setCell ⟨g, 1, none⟩ (.pointer q2)).drew) g (N + 1) q2 := hV.put1 q2
  exact Making.step hp hd (hR.of_blocks (h26.block c hR.map.lt hcg hcm.symm) (h26.block it hR.lt hig him)) (h6.obj hgm hV5) (isKept hM5 h6 hI5) hm6
    ⟨h6.os.trans (h5.os.trans hB.os), h6.tape.trans (h5.tape.trans hB.tape), h6.output.trans (h5.output.trans hB.output), Nat.le_trans hB.size h26.size, fun i hi hm => (h26.block i (Nat.lt_of_lt_of_le hi hB.size) (by omega) hm).trans (hB.block i hi hm)⟩
/-- What a commit leaves. -/
def CommitPost (W : World) (b m : Nat) (N : Int) (T : Tr ByteArray Int) (last : List (ByteArray × Int)) (ch : List (ByteArray × (Int × Bool))) (C : Bool) (e : Ending) (w' : World) : Prop :=
  (C = true ∧ e = .returned (.tuple #[.int .i64 0, err 11]) ∧ Below W.heap.size W w') ∨
  (C = false ∧ e = .returned (.tuple #[.int .i64 (N + 1), .nilIface]) ∧ ∃ q' L, L.Perm ch ∧ BoxC w' b 0 (N + 1) q' m ∧ sd.Is w' q' (appN T L) ∧ MapAt (Value.int .i64) w' m (lastN last (N + 1) L) ∧ BC2 b m W w')

set_option maxRecDepth 100000 in
set_option maxHeartbeats 4000000 in
theorem commit_any {W : World} {b m t r c : Nat} {N n : Int} {Q q : Option Addr} {T : Tr ByteArray Int} {rd : List (ByteArray × Bool)} {ch : List (ByteArray × (Int × Bool))} {last : List (ByteArray × Int)}
    (h : BoxC W b 0 N Q m) (ht : TxnC W t b n q r c true) (hT : sd.Is W Q T) (hr : MapAt Value.bool W r rd) (hc : MapAt evc W c ch) (hm : MapAt (Value.int .i64) W m last) (hmr : m ≠ r) (hmc : m ≠ c)
    (hN : 0 ≤ N) (hN2 : N ≤ 1000000) (hn : 0 ≤ n) (hn2 : n ≤ 1000000) (hsz : T.sz + ch.length ≤ 800000) (hll : last.length + ch.length ≤ 800000) :
    Calls Try.prog 45 #[.pointer (some ⟨b, 0, none⟩), .pointer (some ⟨t, 0, none⟩)] W (CommitPost W b m N T last ch (conf last n rd || conf last n ch)) := by
  have HF : ∀ f, Fence.wide.fn f := fun _ => trivial
  have hbt : b ≠ t := fun e => by subst e; unfold BoxC at h; unfold TxnC at ht; rw [h] at ht; cases ht
  obtain ⟨c0, -, -, -, f0, -⟩ := h.cells
  obtain ⟨W1, hW1⟩ : ∃ W1, W.setCell ⟨b, 0, none⟩ (.int .i32 1) = W1 := ⟨_, rfl⟩
  have hb1 : BC b W W1 := by rw [← hW1]; exact (BC.refl _ _).set (p := ⟨b, 0, none⟩) (.inr rfl) _
  have h1 : BoxC W1 b 1 N Q m := by rw [← hW1]; exact h.lock 1
  have ht1 : TxnC W1 t b n q r c true := hb1.obj (Ne.symm hbt) ht
  have hT1 : sd.Is W1 Q T := by rw [← hW1]; exact hT.keep (KeepT.setCell (nt := 189) (a := ⟨b, 0, none⟩) (v := .int .i32 1) h (by decide))
  have hr1 : MapAt Value.bool W1 r rd := MapAt.bc hr hb1 (mapUnlike hr h).symm
  have hc1 : MapAt evc W1 c ch := MapAt.bc hc hb1 (mapUnlike hc h).symm
  have hm1 : MapAt (Value.int .i64) W1 m last := MapAt.bc hm hb1 (mapUnlike hm h).symm
  have H := Lib.hid h; have HB := Lib.hid hb1; have H1 := Lib.hid h1; have HT := Lib.hid ht1; have HTr := Lib.hid hT1; have HR := Lib.hid hr1; have HC := Lib.hid hc1; have HM := Lib.hid hm1
  have HNE := Lib.hid (And.intro hbt (And.intro hmr hmc)); have HSZ := Lib.hid (And.intro hsz hll)
  clear h ht hT hr hc hm hb1 h1 ht1 hT1 hr1 hc1 hm1 hbt hmr hmc hsz hll
  obtain ⟨C, hC⟩ : ∃ C, (conf last n rd || conf last n ch) = C := ⟨_, rfl⟩
  have HCC := Lib.hid hC
  rw [hC]
  clear hC
  go_enter_defers Try.func45, Try.ntmps45
  go_wp2_with fail
  refine (lock_free muLib ⟨b, 0, none⟩ _ c0 f0).mono ?_; rintro e w1 ⟨rfl, rfl⟩
  rw [hW1]
  clear c0 f0 hW1
  obtain ⟨-, -, -, t3, -⟩ := HT.out.cells
  obtain ⟨ck1, hrg, hR0⟩ := HR.out.range (P := Try.prog) (t := 117) Try.underlying117
  obtain ⟨WI, hWI⟩ : ∃ WI, W1.alloc (.mapIter (some r) ck1 #[] ck1) = WI := ⟨_, rfl⟩
  have hBI : Below W1.heap.size W1 WI := by rw [← hWI]; exact (Below.refl _ _).alloc (Nat.le_refl _) _
  rw [hWI] at hrg hR0
  have HR0 := Lib.hid hR0; have HBI := Lib.hid hBI
  clear hWI hR0 hBI
  go_wp2_with fail
  go_loopg [] rd.length (fun k wr => ∃ left, left.length = k ∧ RangeAt Value.bool wr r W1.heap.size rd left ∧ conf last n left = conf last n rd ∧ Below W1.heap.size W1 wr)
  case atStart => exact ⟨rd, rfl, HR0.out, rfl, HBI.out⟩
  case round =>
    obtain ⟨left, hk, hRg, hcf, hBl⟩ := hrel
    obtain ⟨wa1, rfl⟩ : ∃ wa, wa = wr := ⟨_, rfl⟩
    have HK := Lib.hid hk; have HCF1 := Lib.hid hcf; have HBl1 := Lib.hid ((hBl))
    have hne : r ≠ W1.heap.size := Nat.ne_of_lt (MapAt.lt HR.out)
    have hpk : ∀ p ∈ rd, p.1.size ≤ 9223372036854775807 := fun p hp => by have := MapAt.keys HR.out p hp; unfold maxLen at this; exact this
    rcases hRg.next (P := Try.prog) 0 hne with ⟨hl0, hnx⟩ | ⟨p, left', w2, hp, hpm, hnx, hen, hRg2, hg2, hz2⟩
    · have HL1 := Lib.hid hl0
      clear hk hcf hBl hne hl0 hRg hpk
      obtain ⟨-, -, -, -, t4, -⟩ := TxnC.cells (box_below HBl1.out HT.out)
      have HCa := Lib.hid (HC.out.below HBl1.out)
      obtain ⟨ck2, hrg2, hR0⟩ := HCa.out.range (P := Try.prog) (t := 118) Try.underlying118
      obtain ⟨WJ, hWJ⟩ : ∃ WJ, wa1.alloc (.mapIter (some c) ck2 #[] ck2) = WJ := ⟨_, rfl⟩
      have hBJ : Below wa1.heap.size wa1 WJ := by rw [← hWJ]; exact (Below.refl _ _).alloc (Nat.le_refl _) _
      rw [hWJ] at hrg2 hR0
      have HRJ := Lib.hid hR0; have HBJ := Lib.hid hBJ
      clear hWJ hR0 hBJ t3 hrg
      go_wp2_with fail
      clear hnx hrg2 t4
      go_loopg [] ch.length (fun k wr => ∃ left, left.length = k ∧ RangeAt evc wr c wa1.heap.size ch left ∧ conf last n left = conf last n ch ∧ Below wa1.heap.size wa1 wr)
      case atStart => exact ⟨ch, rfl, HRJ.out, rfl, HBJ.out⟩
      case round =>
        obtain ⟨left, hk, hRg, hcf, hBl⟩ := hrel
        obtain ⟨wa2, rfl⟩ : ∃ wa, wa = wr := ⟨_, rfl⟩
        have HK := Lib.hid hk; have HCF2 := Lib.hid hcf; have HBl2 := Lib.hid ((Below.step HBl1.out hBl))
        have hne : c ≠ wa1.heap.size := Nat.ne_of_lt (MapAt.lt HCa.out)
        have hpk : ∀ p ∈ ch, p.1.size ≤ 9223372036854775807 := fun p hp => by have := MapAt.keys HCa.out p hp; unfold maxLen at this; exact this
        rcases hRg.next (P := Try.prog) 0 hne with ⟨hl0, hnx⟩ | ⟨p, left', w2, hp, hpm, hnx, hen, hRg2, hg2, hz2⟩
        · have HL2 := Lib.hid hl0
          clear hk hcf hBl hne hl0 hRg hpk
          have HC0 : Hid (C = false) := Lib.hid (by rw [← HCC.out, ← HCF1.out, ← HCF2.out, HL1.out, HL2.out]; rfl)
          obtain ⟨-, k2, k3, k4, -⟩ := BoxC.cells (box_below HBl2.out H1.out)
          have hwN : IntKind.i64.wrap (N + 1) = N + 1 := by rw [IntKind.wrap_i64]; omega
          have hmn : ∀ w : World, (binOp .eql 152 (.map (some m)) (.map none)).run Try.prog w = .ok (.bool false) w := fun w => run_eql_map_nil w _ _ _ (some m) Try.underlying152
          have K2 : ∀ w, Below wa2.heap.size wa2 w → w.cell? ⟨b, 2, none⟩ = some (.int .i64 N) := fun w hw => (BoxC.cells (box_below hw (box_below HBl2.out H1.out))).2.1
          have K3 : ∀ w, Below wa2.heap.size wa2 w → w.cell? ⟨b, 3, none⟩ = some (.pointer Q) := fun w hw => (BoxC.cells (box_below hw (box_below HBl2.out H1.out))).2.2.1
          go_wp2_with fail
          refine wp_region_anyNP (Below wa2.heap.size wa2) (by kernel_rfl) ?_
          obtain ⟨wc, hwc⟩ : ∃ w, wa2.drew = w := ⟨_, rfl⟩
          rw [hwc]
          have B0 : Below wa2.heap.size wa2 wc := by rw [← hwc]; exact (Below.refl _ _).drew
          clear hwc
          refine AnyH.take (i := 0) (d := some 71) (v := ?_) (by kernel_rfl) rfl rfl HF (fun _ _ _ h => h) (.inl ⟨by rfl, ?_⟩) (by first | assumption | rfl) ?_
          rotate_left
          · intro w hS; try subst hS
            go_simp; try with_reducible rfl
          try simp only [Act.put, List.setIfInBounds_toArray, List.set_cons_zero, List.set_cons_succ]
          refine AnyH.take (i := 1) (d := some 72) (v := ?_) (by kernel_rfl) rfl rfl HF (fun _ _ _ h => h) (.inl ⟨by rfl, ?_⟩) (by first | assumption | rfl) ?_
          rotate_left
          · intro w hS; try subst hS
            go_simp; try with_reducible rfl
          try simp only [Act.put, List.setIfInBounds_toArray, List.set_cons_zero, List.set_cons_succ]
          refine AnyH.take (i := 2) (d := some 73) (v := ?_) (by kernel_rfl) rfl rfl HF (fun _ _ _ h => h) (.inl ⟨by rfl, ?_⟩) (by first | assumption | rfl) ?_
          rotate_left
          · intro w hS; try subst hS
            go_simp; try with_reducible rfl
          try simp only [Act.put, List.setIfInBounds_toArray, List.set_cons_zero, List.set_cons_succ]
          refine AnyH.take (i := 3) (d := some 74) (v := ?_) (by kernel_rfl) rfl rfl HF (fun _ _ _ h => h) (.inl ⟨by rfl, ?_⟩) (by first | assumption | rfl) ?_
          rotate_left
          · intro w hS; try subst hS
            go_simp; try with_reducible rfl
          try simp only [Act.put, List.setIfInBounds_toArray, List.set_cons_zero, List.set_cons_succ]
          refine AnyH.take (i := 4) (d := some 75) (v := ?_) (by kernel_rfl) rfl rfl HF (fun _ _ _ h => h) (.inl ⟨by rfl, ?_⟩) (by first | assumption | rfl) ?_
          rotate_left
          · intro w hS; try subst hS
            go_simp; try with_reducible rfl
          try simp only [Act.put, List.setIfInBounds_toArray, List.set_cons_zero, List.set_cons_succ]
          refine AnyH.take (i := 5) (d := some 76) (v := ?_) (by kernel_rfl) rfl rfl HF (fun _ _ _ h => h) (.inl ⟨by rfl, ?_⟩) (by first | assumption | rfl) ?_
          rotate_left
          · intro w hS; try subst hS
            go_simp; try with_reducible rfl
          try simp only [Act.put, List.setIfInBounds_toArray, List.set_cons_zero, List.set_cons_succ]
          refine AnyH.take (i := 6) (d := some 77) (v := ?_) (by kernel_rfl) rfl rfl HF (fun _ _ _ h => h) (.inl ⟨by rfl, ?_⟩) (by first | assumption | rfl) ?_
          rotate_left
          · intro w hS; try subst hS
            go_simp; try with_reducible rfl
          try simp only [Act.put, List.setIfInBounds_toArray, List.set_cons_zero, List.set_cons_succ]
          refine AnyH.take (i := 7) (d := some 78) (v := ?_) (by kernel_rfl) rfl rfl HF (fun _ _ _ h => h) (.inl ⟨by rfl, ?_⟩) (by first | assumption | rfl) ?_
          rotate_left
          · intro w hS; try subst hS
            go_simp; try with_reducible rfl
          try simp only [Act.put, List.setIfInBounds_toArray, List.set_cons_zero, List.set_cons_succ]
          refine AnyH.take (i := 8) (d := some 79) (v := ?_) (by kernel_rfl) rfl rfl HF (fun _ _ _ h => h) (.inl ⟨by rfl, ?_⟩) (by first | assumption | rfl) ?_
          rotate_left
          · intro w hS; try subst hS
            go_simp; try with_reducible rfl
          try simp only [Act.put, List.setIfInBounds_toArray, List.set_cons_zero, List.set_cons_succ]
          refine AnyH.take (i := 9) (d := some 80) (v := ?_) (by kernel_rfl) rfl rfl HF (fun _ _ _ h => h) (.inl ⟨by rfl, ?_⟩) (by first | assumption | rfl) ?_
          rotate_left
          · intro w hS; try subst hS
            go_simp; try with_reducible rfl
          try simp only [Act.put, List.setIfInBounds_toArray, List.set_cons_zero, List.set_cons_succ]
          refine AnyH.take (i := 10) (d := some 81) (v := ?_) (by kernel_rfl) rfl rfl HF (fun _ _ _ h => h) (.inl ⟨by rfl, ?_⟩) (by first | assumption | rfl) ?_
          rotate_left
          · intro w hS; try subst hS
            go_simp; try with_reducible rfl
          try simp only [Act.put, List.setIfInBounds_toArray, List.set_cons_zero, List.set_cons_succ]
          refine AnyH.take (i := 11) (d := some 82) (v := ?_) (by kernel_rfl) rfl rfl HF (fun _ _ _ h => h) (.inl ⟨by rfl, ?_⟩) (by first | assumption | rfl) ?_
          rotate_left
          · intro w hS; try subst hS
            go_simp; try with_reducible rfl
          try simp only [Act.put, List.setIfInBounds_toArray, List.set_cons_zero, List.set_cons_succ]
          refine AnyH.one (i := 12) (by kernel_rfl) (by kernel_rfl) rfl HF (by rfl) (fun K hK => ?_)
          go_simp
          refine hK _ _ (B0.alloc B0.size _) ?_
          clear hK K
          try simp only [Act.put, List.setIfInBounds_toArray, List.set_cons_zero, List.set_cons_succ]
          refine AnyH.tailL 13 (by kernel_rfl) ?_
          simp only [List.drop_succ_cons, List.drop_zero]
          have n0 : VerC (wc.alloc (.cells #[.int .i64 0, .pointer none] 112)) wc.heap.size 0 none := heap_new _ _
          obtain ⟨z0, z1, z2, z3⟩ := n0.cells
          obtain ⟨wv, hwv⟩ : ∃ wv, ((wc.alloc (.cells #[.int .i64 0, .pointer none] 112)).setCell ⟨wc.heap.size, 0, none⟩ (.int .i64 (N + 1))).setCell ⟨wc.heap.size, 1, none⟩ (.pointer Q) = wv := ⟨_, rfl⟩
          have HV : Hid (VerC wv wc.heap.size (N + 1) Q) := Lib.hid (by rw [← hwv]; exact n0.put (N + 1) Q)
          have hbv : Below wa2.heap.size wa2 wv := by
            rw [← hwv]
            exact ((B0.alloc B0.size _).setCell (p := ⟨wc.heap.size, 0, none⟩) B0.size _).setCell (p := ⟨wc.heap.size, 1, none⟩) B0.size _
          have HBv := Lib.hid (Below.step HBl2.out hbv)
          have hgs : W1.heap.size ≤ wc.heap.size := Nat.le_trans HBl2.out.size B0.size
          generalize wc.heap.size = g at *
          clear K2 K3 hwN n0 hbv
          gi_wp2_with fail
          refine NP.normal ?_
          obtain ⟨-, -, -, -, t4, -⟩ := TxnC.cells (box_below HBv.out HT.out)
          have HCv := Lib.hid (HC.out.below HBv.out)
          obtain ⟨ck3, hrg3, hR0⟩ := HCv.out.range (P := Try.prog) (t := 118) Try.underlying118
          obtain ⟨WK, hWK⟩ : ∃ WK, wv.alloc (.mapIter (some c) ck3 #[] ck3) = WK := ⟨_, rfl⟩
          have hBK : Below wv.heap.size wv WK := by rw [← hWK]; exact (Below.refl _ _).alloc (Nat.le_refl _) _
          rw [hWK] at hrg3 hR0
          have hgi : g < wv.heap.size := (Array.getElem?_eq_some_iff.1 HV.out).1
          have hit : W1.heap.size ≤ wv.heap.size := HBv.out.size
          have HMK : Hid (Making W1 c m g wv.heap.size N T last ch ch.length WK) := Lib.hid ⟨ch, [], Q, rfl, by simp, hR0, box_below hBK HV.out, HTr.out.below (Below.step HBv.out hBK), HM.out.below (Below.step HBv.out hBK), .of (Below.step HBv.out hBK)⟩
          clear hWK hR0 hBK z0 z1 z2 z3 k2 k3 k4 hwv hmn B0 hnx
          go_wp2_with fail
          clear hrg3 t4
          generalize wv.heap.size = it at *
          go_loopg [] ch.length (fun k wr => Making W1 c m g it N T last ch k wr)
          case atStart => exact HMK.out
          case round =>
            obtain ⟨left, done, q', hk, hd, hRg, hV, hI, hM3, hB3⟩ := hrel
            obtain ⟨wa3, rfl⟩ : ∃ wa, wa = wr := ⟨_, rfl⟩
            have HK := Lib.hid hk; have HD := Lib.hid hd; have HV3 := Lib.hid hV; have HI3 := Lib.hid hI; have HM3 := Lib.hid hM3; have HB3 := Lib.hid hB3
            have hcl := MapAt.lt HC.out; have hml := MapAt.lt HM.out
            have hcg : c ≠ g := by omega
            have hgm : g ≠ m := by omega
            have hbl := (Array.getElem?_eq_some_iff.1 H1.out).1
            have HNG := Lib.hid (And.intro hcg (And.intro hgm (And.intro (show it ≠ g by omega) (And.intro (show it ≠ m by omega) (show b ≠ g by omega)))))
            have hne : c ≠ it := by omega
            have HBM := Lib.hid (mapUnlike HM.out H1.out)
            clear hcg hgm hbl hk hd hV hI hM3 hB3
            rcases hRg.next (P := Try.prog) 0 hne with ⟨hl0, hnx⟩ | ⟨p, left', w2, hp, hpm, hnx, hen, hRg2, hg2, hz2⟩
            · have hdn : done.Perm ch := by have := HD.out; rw [hl0, List.append_nil] at this; exact this
              have HDN := Lib.hid hdn
              obtain ⟨v0, v1, -, -⟩ := HV3.out.cells
              have hb7 : BoxC wa3 b 1 N Q m := HB3.out.obj HBM.out H1.out
              have H7 := Lib.hid hb7
              obtain ⟨-, j2, j3, -, -, e2, e3, -⟩ := hb7.cells
              obtain ⟨w7, hw7⟩ : ∃ w, (wa3.setCell ⟨b, 2, none⟩ (.int .i64 (N + 1))).setCell ⟨b, 3, none⟩ (.pointer q') = w := ⟨_, rfl⟩
              have hx7 : BoxC w7 b 1 (N + 1) q' m := by rw [← hw7]; exact H7.out.put (N + 1) q'
              have hv7 : VerC w7 g (N + 1) q' := by rw [← hw7]; exact (HV3.out.other (a := ⟨b, 2, none⟩) _ HNG.out.2.2.2.2.symm).other (a := ⟨b, 3, none⟩) _ HNG.out.2.2.2.2.symm
              obtain ⟨y0, y1, -, -⟩ := hv7.cells
              obtain ⟨d0, -, -, -, f0, -⟩ := hx7.cells
              have hb2 : BC2 b m W ((w7.setCell ⟨b, 0, none⟩ (.int .i32 0))) := by rw [← hw7]; exact (((HB.out.two HB3.out).set rfl _).set rfl _).set rfl _
              have hm7 : MapAt (Value.int .i64) (w7.setCell ⟨b, 0, none⟩ (.int .i32 0)) m (lastN last (N + 1) done) := by
                rw [← hw7]
                exact HM3.out.of_block ((Below.heap_setCell _ _ _ _ HBM.out.symm).trans ((Below.heap_setCell _ _ _ _ HBM.out.symm).trans (Below.heap_setCell _ _ _ _ HBM.out.symm)))
              have hi7 : sd.Is (w7.setCell ⟨b, 0, none⟩ (.int .i32 0)) q' (appN T done) := by
                rw [← hw7]
                have k1 := KeepT.setCell (nt := 189) (a := ⟨b, 2, none⟩) (v := .int .i64 (N + 1)) H7.out (by decide)
                have x1 := heap_set0 (W := wa3) (g := b) (i := 2) (.int .i64 (N + 1)) H7.out
                have k2 := KeepT.setCell (nt := 189) (a := ⟨b, 3, none⟩) (v := .pointer q') x1 (by decide)
                have x2 := heap_set0 (W := wa3.setCell ⟨b, 2, none⟩ (.int .i64 (N + 1))) (g := b) (i := 3) (.pointer q') x1
                exact ((HI3.out.keep k1).keep k2).keep (KeepT.setCell (nt := 189) (a := ⟨b, 0, none⟩) (v := .int .i32 0) x2 (by decide))
              have HFIN := Lib.hid (And.intro (hx7.lock 0) (And.intro hi7 (And.intro hm7 hb2)))
              clear hm7 hi7 hb2 hx7 hv7 hb7 hdn hl0 hRg hne
              go_wp2_with fail
              refine leaves_cons (f := 60) (args := #[.pointer (some ⟨b, 0, none⟩)]) (by simp) (by simp [go_sem]) ?_
              refine (unlock_deferred muLib ⟨b, 0, none⟩ _ _ d0 f0).mono ?_
              rintro e u' w'' ⟨rfl, rfl, rfl⟩
              simp only [Leaves, settle, results, Try.results45]
              simp [go_sem]
              exact .inr ⟨HC0.out, rfl, q', done, HDN.out, HFIN.out.1, HFIN.out.2.1, HFIN.out.2.2.1, HFIN.out.2.2.2⟩
            · obtain ⟨s, x, d⟩ := p
              simp only [evc] at hnx hen
              have HP := Lib.hid hp
              have hss : s.size ≤ 9223372036854775807 := by have := MapAt.keys HC.out _ hpm; unfold maxLen at this; exact this
              have HR2 := Lib.hid hRg2
              have hbi : BC it wa3 w2 := BC.grown hg2
              have HB2 : Hid (BC m W1 w2) := Lib.hid (HB3.out.fresh hbi hit)
              have hI2 : sd.Is w2 q' (appN T done) := HI3.out.keep (keep_iter hRg hg2)
              have hV2 : VerC w2 g (N + 1) q' := hbi.obj HNG.out.2.2.1.symm HV3.out
              have hM2 : MapAt (Value.int .i64) w2 m (lastN last (N + 1) done) := MapAt.bc HM3.out hbi HNG.out.2.2.2.1.symm
              obtain ⟨wy, hwy⟩ : ∃ w, w2.alloc (.cells #[.int .i64 0, .bool false] 124) = w := ⟨_, rfl⟩
              have ny : wy.heap[w2.heap.size]? = some (.cells #[.int .i64 0, .bool false] 124 (0, 0)) := by rw [← hwy]; exact heap_new _ _
              have hby : Below w2.heap.size w2 wy := by rw [← hwy]; exact (Below.refl _ _).alloc (Nat.le_refl _) _
              have y0 : wy.cell? ⟨w2.heap.size, 0, none⟩ = some (.int .i64 0) := by simp [World.cell?, ny]
              have y1 : wy.cell? ⟨w2.heap.size, 1, none⟩ = some (.bool false) := by simp [World.cell?, ny]
              have y2 : wy.frozen? ⟨w2.heap.size, 0, none⟩ = false := by simp [World.frozen?, ny]
              have y3 : wy.frozen? ⟨w2.heap.size, 1, none⟩ = false := by simp [World.frozen?, ny]
              obtain ⟨w3, hw3⟩ : ∃ w, (wy.setCell ⟨w2.heap.size, 0, none⟩ (.int .i64 x)).setCell ⟨w2.heap.size, 1, none⟩ (.bool d) = w := ⟨_, rfl⟩
              have hb3 : Below w2.heap.size w2 w3 := by rw [← hw3]; exact (hby.setCell (p := ⟨w2.heap.size, 0, none⟩) (Nat.le_refl _) _).setCell (p := ⟨w2.heap.size, 1, none⟩) (Nat.le_refl _) _
              have n3 : w3.heap[w2.heap.size]? = some (.cells #[.int .i64 x, .bool d] 124 (0, 0)) := by
                rw [← hw3]; exact heap_set0 (.bool d) (heap_set0 (.int .i64 x) ny)
              have x0 : w3.cell? ⟨w2.heap.size, 0, none⟩ = some (.int .i64 x) := by simp [World.cell?, n3]
              have x1 : w3.cell? ⟨w2.heap.size, 1, none⟩ = some (.bool d) := by simp [World.cell?, n3]
              have HI := Lib.hid (hI2.below hb3); have HV := Lib.hid (show VerC w3 g (N + 1) q' from box_below hb3 hV2); have HM4 := Lib.hid (hM2.below hb3); have HB4 := Lib.hid hb3
              have hsz : (appN T done).sz ≤ 900000 := by
                have h1 := appN_sz done T; have h2 := HD.out.length_eq; have h3 := HSZ.out.1
                rw [List.length_append] at h2
                omega
              have HSZ2 := Lib.hid hsz
              obtain ⟨g0, g1, g2, g3⟩ := VerC.cells HV.out
              clear hne hRg hg2 hz2 hRg2 hp hpm hbi hI2 hV2 hM2 ny hby hb3 n3 hsz
              cases d with
              | true =>
                go_wp2_with fail
                refine (sd.Drop_any s HI.out HSZ2.out).mono ?_; rintro e w4 ⟨q2, rfl, hq2, hB4⟩
                have HQ2 := Lib.hid hq2
                have HB5 := Lib.hid (Below.step HB4.out hB4)
                have HV5 := Lib.hid (show VerC w4 g (N + 1) q' from box_below hB4 HV.out)
                obtain ⟨g0, g1, g2, g3⟩ := VerC.cells HV5.out
                have HM5 := Lib.hid (HM4.out.below hB4)
                clear hq2 hB4 x0 x1 hnx hen hwy hw3 y0 y1 y2 y3
                obtain ⟨wd, hwd⟩ : ∃ w, (w4.setCell ⟨g, 1, none⟩ (.pointer q2)).drew = w := ⟨_, rfl⟩
                have hMd : MapAt (Value.int .i64) wd m (lastN last (N + 1) done) := by
                  rw [← hwd]; exact HM5.out.of_block (Below.heap_setCell _ _ _ _ HNG.out.2.1.symm)
                have HMD := Lib.hid hMd
                have hlen : (lastN last (N + 1) done).length < maxLen := by
                  have h1 := lastN_length (N + 1) done last; have h2 := HD.out.length_eq; have h3 := HSZ.out.2
                  rw [List.length_append] at h2
                  unfold maxLen; omega
                obtain ⟨w6, hup, hm6, hg6, -⟩ := hMd.put (P := Try.prog) (t := 152) (k := 9) (e := 3) Try.underlying9 Try.underlying152 hlen (s := s) (by unfold maxLen; omega) (N + 1)
                have HFN := Lib.hid (And.intro hm6 hg6)
                have hVd : VerC wd g (N + 1) q2 := by rw [← hwd]; exact HV5.out.put1 q2
                have hBd : BoxC wd b 1 N Q m := by rw [← hwd]; exact BoxC.other (W := w4) (box_below HB5.out (HB2.out.obj HBM.out H1.out)) _ HNG.out.2.2.2.2
                have k4 : ∀ w, Below wd.heap.size wd w → w.cell? ⟨b, 4, none⟩ = some (.map (some m)) := fun w hw => (BoxC.cells (box_below hw hBd)).2.2.2.1
                have k0 : ∀ w, Below wd.heap.size wd w → w.cell? ⟨g, 0, none⟩ = some (.int .i64 (N + 1)) := fun w hw => (VerC.cells (box_below hw hVd)).1
                clear hMd hlen hm6 hg6 hVd hBd
                go_wp2_with fail
                refine wp_region_anyNP (Below wd.heap.size wd) (by kernel_rfl) ?_
                rw [hwd]
                have B0 : Below wd.heap.size wd wd := Below.refl _ _
                clear g0 g1 g2 g3
                refine AnyH.take (i := 0) (d := some 107) (v := ?_) (by kernel_rfl) rfl rfl HF (fun _ _ _ h => h) (.inl ⟨by rfl, ?_⟩) (by first | assumption | rfl) ?_
                rotate_left
                · intro w hS; try subst hS
                  go_simp; try with_reducible rfl
                try simp only [Act.put, List.setIfInBounds_toArray, List.set_cons_zero, List.set_cons_succ]
                refine AnyH.take (i := 1) (d := some 108) (v := ?_) (by kernel_rfl) rfl rfl HF (fun _ _ _ h => h) (.inl ⟨by rfl, ?_⟩) (by first | assumption | rfl) ?_
                rotate_left
                · intro w hS; try subst hS
                  go_simp; try with_reducible rfl
                try simp only [Act.put, List.setIfInBounds_toArray, List.set_cons_zero, List.set_cons_succ]
                refine AnyH.take (i := 2) (d := some 109) (v := ?_) (by kernel_rfl) rfl rfl HF (fun _ _ _ h => h) (.inl ⟨by rfl, ?_⟩) (by first | assumption | rfl) ?_
                rotate_left
                · intro w hS; try subst hS
                  go_simp; try with_reducible rfl
                try simp only [Act.put, List.setIfInBounds_toArray, List.set_cons_zero, List.set_cons_succ]
                refine AnyH.take (i := 3) (d := some 110) (v := ?_) (by kernel_rfl) rfl rfl HF (fun _ _ _ h => h) (.inl ⟨by rfl, ?_⟩) (by first | assumption | rfl) ?_
                rotate_left
                · intro w hS; try subst hS
                  go_simp; try with_reducible rfl
                try simp only [Act.put, List.setIfInBounds_toArray, List.set_cons_zero, List.set_cons_succ]
                refine AnyH.take (i := 4) (d := some 111) (v := ?_) (by kernel_rfl) rfl rfl HF (fun _ _ _ h => h) (.inl ⟨by rfl, ?_⟩) (by first | assumption | rfl) ?_
                rotate_left
                · intro w hS; try subst hS
                  go_simp; try with_reducible rfl
                try simp only [Act.put, List.setIfInBounds_toArray, List.set_cons_zero, List.set_cons_succ]
                refine AnyH.take (i := 5) (d := some 112) (v := ?_) (by kernel_rfl) rfl rfl HF (fun _ _ _ h => h) (.inl ⟨by rfl, ?_⟩) (by first | assumption | rfl) ?_
                rotate_left
                · intro w hS; try subst hS
                  go_simp; try with_reducible rfl
                try simp only [Act.put, List.setIfInBounds_toArray, List.set_cons_zero, List.set_cons_succ]
                refine AnyH.take (i := 6) (d := some 113) (v := ?_) (by kernel_rfl) rfl rfl HF (fun _ _ _ h => h) (.inl ⟨by rfl, ?_⟩) (by first | assumption | rfl) ?_
                rotate_left
                · intro w hS; try subst hS
                  go_simp; try with_reducible rfl
                try simp only [Act.put, List.setIfInBounds_toArray, List.set_cons_zero, List.set_cons_succ]
                refine AnyH.tailL 7 (by kernel_rfl) ?_
                simp only [List.drop_succ_cons, List.drop_zero]
                gi_wp2_with fail
                refine NP.normal ?_
                have HEND : Hid (Making W1 c m g it N T last ch left'.length w6) := Lib.hid (by
                  have h1 := HFN.out.1; have h2 := HFN.out.2; have h3 := HMD.out
                  rw [← hwd] at h2 h3
                  exact making_put HP.out HD.out HR2.out HB2.out HB5.out HV5.out HQ2.out h3 h2 h1 hgs HNG.out.1 HNG.out.2.1 HNG.out.2.2.1 HNG.out.2.2.2.1 HNE.out.2.2)
                clear hwd hup k4 k0 B0
                go_wp2_with fail
                go_roundg left'.length
                case measure => have h1 := HP.out.length_eq; have h2 := HK.out; simp at h1; omega
                case rel => exact HEND.out
              | false =>
                go_wp2_with fail
                refine (sd.Put_any s x HI.out HSZ2.out).mono ?_; rintro e w4 ⟨q2, rfl, hq2, hB4⟩
                have HQ2 := Lib.hid hq2
                have HB5 := Lib.hid (Below.step HB4.out hB4)
                have HV5 := Lib.hid (show VerC w4 g (N + 1) q' from box_below hB4 HV.out)
                obtain ⟨g0, g1, g2, g3⟩ := VerC.cells HV5.out
                have HM5 := Lib.hid (HM4.out.below hB4)
                clear hq2 hB4 x0 x1 hnx hen hwy hw3 y0 y1 y2 y3
                obtain ⟨wd, hwd⟩ : ∃ w, (w4.setCell ⟨g, 1, none⟩ (.pointer q2)).drew = w := ⟨_, rfl⟩
                have hMd : MapAt (Value.int .i64) wd m (lastN last (N + 1) done) := by
                  rw [← hwd]; exact HM5.out.of_block (Below.heap_setCell _ _ _ _ HNG.out.2.1.symm)
                have HMD := Lib.hid hMd
                have hlen : (lastN last (N + 1) done).length < maxLen := by
                  have h1 := lastN_length (N + 1) done last; have h2 := HD.out.length_eq; have h3 := HSZ.out.2
                  rw [List.length_append] at h2
                  unfold maxLen; omega
                obtain ⟨w6, hup, hm6, hg6, -⟩ := hMd.put (P := Try.prog) (t := 152) (k := 9) (e := 3) Try.underlying9 Try.underlying152 hlen (s := s) (by unfold maxLen; omega) (N + 1)
                have HFN := Lib.hid (And.intro hm6 hg6)
                have hVd : VerC wd g (N + 1) q2 := by rw [← hwd]; exact HV5.out.put1 q2
                have hBd : BoxC wd b 1 N Q m := by rw [← hwd]; exact BoxC.other (W := w4) (box_below HB5.out (HB2.out.obj HBM.out H1.out)) _ HNG.out.2.2.2.2
                have k4 : ∀ w, Below wd.heap.size wd w → w.cell? ⟨b, 4, none⟩ = some (.map (some m)) := fun w hw => (BoxC.cells (box_below hw hBd)).2.2.2.1
                have k0 : ∀ w, Below wd.heap.size wd w → w.cell? ⟨g, 0, none⟩ = some (.int .i64 (N + 1)) := fun w hw => (VerC.cells (box_below hw hVd)).1
                clear hMd hlen hm6 hg6 hVd hBd
                go_wp2_with fail
                refine wp_region_anyNP (Below wd.heap.size wd) (by kernel_rfl) ?_
                rw [hwd]
                have B0 : Below wd.heap.size wd wd := Below.refl _ _
                clear g0 g1 g2 g3
                refine AnyH.take (i := 0) (d := some 107) (v := ?_) (by kernel_rfl) rfl rfl HF (fun _ _ _ h => h) (.inl ⟨by rfl, ?_⟩) (by first | assumption | rfl) ?_
                rotate_left
                · intro w hS; try subst hS
                  go_simp; try with_reducible rfl
                try simp only [Act.put, List.setIfInBounds_toArray, List.set_cons_zero, List.set_cons_succ]
                refine AnyH.take (i := 1) (d := some 108) (v := ?_) (by kernel_rfl) rfl rfl HF (fun _ _ _ h => h) (.inl ⟨by rfl, ?_⟩) (by first | assumption | rfl) ?_
                rotate_left
                · intro w hS; try subst hS
                  go_simp; try with_reducible rfl
                try simp only [Act.put, List.setIfInBounds_toArray, List.set_cons_zero, List.set_cons_succ]
                refine AnyH.take (i := 2) (d := some 109) (v := ?_) (by kernel_rfl) rfl rfl HF (fun _ _ _ h => h) (.inl ⟨by rfl, ?_⟩) (by first | assumption | rfl) ?_
                rotate_left
                · intro w hS; try subst hS
                  go_simp; try with_reducible rfl
                try simp only [Act.put, List.setIfInBounds_toArray, List.set_cons_zero, List.set_cons_succ]
                refine AnyH.take (i := 3) (d := some 110) (v := ?_) (by kernel_rfl) rfl rfl HF (fun _ _ _ h => h) (.inl ⟨by rfl, ?_⟩) (by first | assumption | rfl) ?_
                rotate_left
                · intro w hS; try subst hS
                  go_simp; try with_reducible rfl
                try simp only [Act.put, List.setIfInBounds_toArray, List.set_cons_zero, List.set_cons_succ]
                refine AnyH.take (i := 4) (d := some 111) (v := ?_) (by kernel_rfl) rfl rfl HF (fun _ _ _ h => h) (.inl ⟨by rfl, ?_⟩) (by first | assumption | rfl) ?_
                rotate_left
                · intro w hS; try subst hS
                  go_simp; try with_reducible rfl
                try simp only [Act.put, List.setIfInBounds_toArray, List.set_cons_zero, List.set_cons_succ]
                refine AnyH.take (i := 5) (d := some 112) (v := ?_) (by kernel_rfl) rfl rfl HF (fun _ _ _ h => h) (.inl ⟨by rfl, ?_⟩) (by first | assumption | rfl) ?_
                rotate_left
                · intro w hS; try subst hS
                  go_simp; try with_reducible rfl
                try simp only [Act.put, List.setIfInBounds_toArray, List.set_cons_zero, List.set_cons_succ]
                refine AnyH.take (i := 6) (d := some 113) (v := ?_) (by kernel_rfl) rfl rfl HF (fun _ _ _ h => h) (.inl ⟨by rfl, ?_⟩) (by first | assumption | rfl) ?_
                rotate_left
                · intro w hS; try subst hS
                  go_simp; try with_reducible rfl
                try simp only [Act.put, List.setIfInBounds_toArray, List.set_cons_zero, List.set_cons_succ]
                refine AnyH.tailL 7 (by kernel_rfl) ?_
                simp only [List.drop_succ_cons, List.drop_zero]
                gi_wp2_with fail
                refine NP.normal ?_
                have HEND : Hid (Making W1 c m g it N T last ch left'.length w6) := Lib.hid (by
                  have h1 := HFN.out.1; have h2 := HFN.out.2; have h3 := HMD.out
                  rw [← hwd] at h2 h3
                  exact making_put HP.out HD.out HR2.out HB2.out HB5.out HV5.out HQ2.out h3 h2 h1 hgs HNG.out.1 HNG.out.2.1 HNG.out.2.2.1 HNG.out.2.2.2.1 HNE.out.2.2)
                clear hwd hup k4 k0 B0
                go_wp2_with fail
                go_roundg left'.length
                case measure => have h1 := HP.out.length_eq; have h2 := HK.out; simp at h1; omega
                case rel => exact HEND.out
        · have hps := hpk p hpm
          have HP := Lib.hid hp; have HR2 := Lib.hid hRg2
          have hb2 := ranged hBl (Nat.le_refl _) hg2
          have HB2 := Lib.hid hb2
          have hbw := (Below.step HBl1.out hb2)
          have hlk : ∀ w, Below w2.heap.size w2 w → (Instr.lookup 152 (.map (some m)) (.string p.1) false).run Try.prog w = .ok (.int .i64 (lastOf last p.1)) w := fun w hw => look_last ((HM.out.below hbw).below hw) hps
          have k4 : ∀ w, Below w2.heap.size w2 w → w.cell? ⟨b, 4, none⟩ = some (.map (some m)) := fun w hw => (BoxC.cells (box_below hw (box_below hbw H1.out))).2.2.2.1
          have k1 : ∀ w, Below w2.heap.size w2 w → w.cell? ⟨t, 1, none⟩ = some (.int .i64 n) := fun w hw => (TxnC.cells (box_below hw (box_below hbw HT.out))).2.1
          have hcc : conf last n left = (decide (n < lastOf last p.1) || conf last n left') := (conf_perm hp).symm.trans conf_cons
          have HC2 := Lib.hid hcc
          have B0 : Below w2.heap.size w2 w2.drew := (Below.refl _ _).drew
          have HBD := Lib.hid (Below.step hb2 B0); have HRD := Lib.hid (hRg2.below' B0)
          clear hk hcf hBl hne hRg hp hRg2 hg2 hz2 hb2 hcc hpk hbw hps hpm
          by_cases hgt : n < lastOf last p.1
          · have hC1 : C = true := by
              have h1 : conf last n ch = true := by rw [← HCF2.out, HC2.out, decide_eq_true hgt]; rfl
              rw [← HCC.out, h1, Bool.or_true]
            have HC1 := Lib.hid hC1; clear hC1
            have hd : decide (n < lastOf last p.1) = true := decide_eq_true hgt
            generalize lastOf last p.1 = Lk at *
            generalize p.1 = ps at *; generalize p.2 = pv at *
            go_wp2_with fail
            refine wp_region_anyNP (Below w2.heap.size w2) (by kernel_rfl) ?_
            refine AnyH.take (i := 0) (d := some 49) (v := ?_) (by kernel_rfl) rfl rfl HF (fun _ _ _ h => h) (.inl ⟨by rfl, ?_⟩) (by first | assumption | rfl) ?_
            rotate_left
            · intro w hS; try subst hS
              go_simp; try with_reducible rfl
            try simp only [Act.put, List.setIfInBounds_toArray, List.set_cons_zero, List.set_cons_succ]
            refine AnyH.take (i := 1) (d := some 50) (v := ?_) (by kernel_rfl) rfl rfl HF (fun _ _ _ h => h) (.inl ⟨by rfl, ?_⟩) (by first | assumption | rfl) ?_
            rotate_left
            · intro w hS; try subst hS
              go_simp; try with_reducible rfl
            try simp only [Act.put, List.setIfInBounds_toArray, List.set_cons_zero, List.set_cons_succ]
            refine AnyH.take (i := 2) (d := some 51) (v := ?_) (by kernel_rfl) rfl rfl HF (fun _ _ _ h => h) (.inl ⟨by rfl, ?_⟩) (by first | assumption | rfl) ?_
            rotate_left
            · intro w hS; try subst hS
              go_simp; try with_reducible rfl
            try simp only [Act.put, List.setIfInBounds_toArray, List.set_cons_zero, List.set_cons_succ]
            refine AnyH.take (i := 3) (d := some 52) (v := ?_) (by kernel_rfl) rfl rfl HF (fun _ _ _ h => h) (.inl ⟨by rfl, ?_⟩) (by first | assumption | rfl) ?_
            rotate_left
            · intro w hS; try subst hS
              go_simp; try with_reducible rfl
            try simp only [Act.put, List.setIfInBounds_toArray, List.set_cons_zero, List.set_cons_succ]
            refine AnyH.take (i := 4) (d := some 53) (v := ?_) (by kernel_rfl) rfl rfl HF (fun _ _ _ h => h) (.inl ⟨by rfl, ?_⟩) (by first | assumption | rfl) ?_
            rotate_left
            · intro w hS; try subst hS
              go_simp; try with_reducible rfl
            try simp only [Act.put, List.setIfInBounds_toArray, List.set_cons_zero, List.set_cons_succ]
            refine AnyH.take (i := 5) (d := some 54) (v := ?_) (by kernel_rfl) rfl rfl HF (fun _ _ _ h => h) (.inl ⟨by rfl, ?_⟩) (by first | assumption | rfl) ?_
            rotate_left
            · intro w hS; try subst hS
              go_simp; try with_reducible rfl
            try simp only [Act.put, List.setIfInBounds_toArray, List.set_cons_zero, List.set_cons_succ]
            refine AnyH.take (i := 6) (d := some 55) (v := ?_) (by kernel_rfl) rfl rfl HF (fun _ _ _ h => h) (.inl ⟨by rfl, ?_⟩) (by first | assumption | rfl) ?_
            rotate_left
            · intro w hS; try subst hS
              go_simp; try with_reducible rfl
            try simp only [Act.put, List.setIfInBounds_toArray, List.set_cons_zero, List.set_cons_succ]
            refine AnyH.take (i := 7) (d := some 56) (v := ?_) (by kernel_rfl) rfl rfl HF (fun _ _ _ h => h) (.inl ⟨by rfl, ?_⟩) (by first | assumption | rfl) ?_
            rotate_left
            · intro w hS; try subst hS
              go_simp; try with_reducible rfl
            try simp only [Act.put, List.setIfInBounds_toArray, List.set_cons_zero, List.set_cons_succ]
            refine AnyH.take (i := 8) (d := some 57) (v := ?_) (by kernel_rfl) rfl rfl HF (fun _ _ _ h => h) (.inl ⟨by rfl, ?_⟩) (by first | assumption | rfl) ?_
            rotate_left
            · intro w hS; try subst hS
              go_simp; try with_reducible rfl
            try simp only [Act.put, List.setIfInBounds_toArray, List.set_cons_zero, List.set_cons_succ]
            refine AnyH.take (i := 9) (d := some 58) (v := ?_) (by kernel_rfl) rfl rfl HF (fun _ _ _ h => h) (.inl ⟨by rfl, ?_⟩) (by first | assumption | rfl) ?_
            rotate_left
            · intro w hS; try subst hS
              go_simp; try with_reducible rfl
            try simp only [Act.put, List.setIfInBounds_toArray, List.set_cons_zero, List.set_cons_succ]
            refine AnyH.take (i := 10) (d := some 59) (v := ?_) (by kernel_rfl) rfl rfl HF (fun _ _ _ h => h) (.inl ⟨by rfl, ?_⟩) (by first | assumption | rfl) ?_
            rotate_left
            · intro w hS; try subst hS
              go_simp; try with_reducible rfl
            try simp only [Act.put, List.setIfInBounds_toArray, List.set_cons_zero, List.set_cons_succ]
            refine AnyH.take (i := 11) (d := some 60) (v := ?_) (by kernel_rfl) rfl rfl HF (fun _ _ _ h => h) (.inl ⟨by rfl, ?_⟩) (by first | assumption | rfl) ?_
            rotate_left
            · intro w hS; try subst hS
              go_simp; try with_reducible rfl
            try simp only [Act.put, List.setIfInBounds_toArray, List.set_cons_zero, List.set_cons_succ]
            refine AnyH.done (by kernel_rfl) ?_
            refine NP.normal ?_
            have hbx := (Below.step HBl1.out HBD.out)
            obtain ⟨d0, -, -, -, e0, -⟩ := BoxC.cells (box_below hbx H1.out)
            have HU := Lib.hid (unmade H.out HB.out H1.out hbx)
            clear hbx k1 k4 hlk B0 hnx hen
            go_wp2_with fail
            refine leaves_cons (f := 60) (args := #[.pointer (some ⟨b, 0, none⟩)]) (by simp) (by simp [go_sem]) ?_
            refine (unlock_deferred muLib ⟨b, 0, none⟩ _ _ d0 e0).mono ?_
            rintro e u' w'' ⟨rfl, rfl, rfl⟩
            simp only [Leaves, settle, results, Try.results45]
            simp [go_sem]
            exact .inl ⟨HC1.out, rfl, HU.out⟩
          · have hd : decide (n < lastOf last p.1) = false := decide_eq_false hgt
            have HC3 : Hid (conf last n left' = conf last n ch) := Lib.hid (by rw [← HCF2.out, HC2.out, hd]; rfl)
            generalize lastOf last p.1 = Lk at *
            generalize p.1 = ps at *; generalize p.2 = pv at *
            go_wp2_with fail
            refine wp_region_anyNP (Below w2.heap.size w2) (by kernel_rfl) ?_
            refine AnyH.take (i := 0) (d := some 49) (v := ?_) (by kernel_rfl) rfl rfl HF (fun _ _ _ h => h) (.inl ⟨by rfl, ?_⟩) (by first | assumption | rfl) ?_
            rotate_left
            · intro w hS; try subst hS
              go_simp; try with_reducible rfl
            try simp only [Act.put, List.setIfInBounds_toArray, List.set_cons_zero, List.set_cons_succ]
            refine AnyH.take (i := 1) (d := some 50) (v := ?_) (by kernel_rfl) rfl rfl HF (fun _ _ _ h => h) (.inl ⟨by rfl, ?_⟩) (by first | assumption | rfl) ?_
            rotate_left
            · intro w hS; try subst hS
              go_simp; try with_reducible rfl
            try simp only [Act.put, List.setIfInBounds_toArray, List.set_cons_zero, List.set_cons_succ]
            refine AnyH.take (i := 2) (d := some 51) (v := ?_) (by kernel_rfl) rfl rfl HF (fun _ _ _ h => h) (.inl ⟨by rfl, ?_⟩) (by first | assumption | rfl) ?_
            rotate_left
            · intro w hS; try subst hS
              go_simp; try with_reducible rfl
            try simp only [Act.put, List.setIfInBounds_toArray, List.set_cons_zero, List.set_cons_succ]
            refine AnyH.take (i := 3) (d := some 52) (v := ?_) (by kernel_rfl) rfl rfl HF (fun _ _ _ h => h) (.inl ⟨by rfl, ?_⟩) (by first | assumption | rfl) ?_
            rotate_left
            · intro w hS; try subst hS
              go_simp; try with_reducible rfl
            try simp only [Act.put, List.setIfInBounds_toArray, List.set_cons_zero, List.set_cons_succ]
            refine AnyH.take (i := 4) (d := some 53) (v := ?_) (by kernel_rfl) rfl rfl HF (fun _ _ _ h => h) (.inl ⟨by rfl, ?_⟩) (by first | assumption | rfl) ?_
            rotate_left
            · intro w hS; try subst hS
              go_simp; try with_reducible rfl
            try simp only [Act.put, List.setIfInBounds_toArray, List.set_cons_zero, List.set_cons_succ]
            refine AnyH.take (i := 5) (d := some 54) (v := ?_) (by kernel_rfl) rfl rfl HF (fun _ _ _ h => h) (.inl ⟨by rfl, ?_⟩) (by first | assumption | rfl) ?_
            rotate_left
            · intro w hS; try subst hS
              go_simp; try with_reducible rfl
            try simp only [Act.put, List.setIfInBounds_toArray, List.set_cons_zero, List.set_cons_succ]
            refine AnyH.take (i := 6) (d := some 55) (v := ?_) (by kernel_rfl) rfl rfl HF (fun _ _ _ h => h) (.inl ⟨by rfl, ?_⟩) (by first | assumption | rfl) ?_
            rotate_left
            · intro w hS; try subst hS
              go_simp; try with_reducible rfl
            try simp only [Act.put, List.setIfInBounds_toArray, List.set_cons_zero, List.set_cons_succ]
            refine AnyH.take (i := 7) (d := some 56) (v := ?_) (by kernel_rfl) rfl rfl HF (fun _ _ _ h => h) (.inl ⟨by rfl, ?_⟩) (by first | assumption | rfl) ?_
            rotate_left
            · intro w hS; try subst hS
              go_simp; try with_reducible rfl
            try simp only [Act.put, List.setIfInBounds_toArray, List.set_cons_zero, List.set_cons_succ]
            refine AnyH.take (i := 8) (d := some 57) (v := ?_) (by kernel_rfl) rfl rfl HF (fun _ _ _ h => h) (.inl ⟨by rfl, ?_⟩) (by first | assumption | rfl) ?_
            rotate_left
            · intro w hS; try subst hS
              go_simp; try with_reducible rfl
            try simp only [Act.put, List.setIfInBounds_toArray, List.set_cons_zero, List.set_cons_succ]
            refine AnyH.take (i := 9) (d := some 58) (v := ?_) (by kernel_rfl) rfl rfl HF (fun _ _ _ h => h) (.inl ⟨by rfl, ?_⟩) (by first | assumption | rfl) ?_
            rotate_left
            · intro w hS; try subst hS
              go_simp; try with_reducible rfl
            try simp only [Act.put, List.setIfInBounds_toArray, List.set_cons_zero, List.set_cons_succ]
            refine AnyH.take (i := 10) (d := some 59) (v := ?_) (by kernel_rfl) rfl rfl HF (fun _ _ _ h => h) (.inl ⟨by rfl, ?_⟩) (by first | assumption | rfl) ?_
            rotate_left
            · intro w hS; try subst hS
              go_simp; try with_reducible rfl
            try simp only [Act.put, List.setIfInBounds_toArray, List.set_cons_zero, List.set_cons_succ]
            refine AnyH.take (i := 11) (d := some 60) (v := ?_) (by kernel_rfl) rfl rfl HF (fun _ _ _ h => h) (.inl ⟨by rfl, ?_⟩) (by first | assumption | rfl) ?_
            rotate_left
            · intro w hS; try subst hS
              go_simp; try with_reducible rfl
            try simp only [Act.put, List.setIfInBounds_toArray, List.set_cons_zero, List.set_cons_succ]
            refine AnyH.done (by kernel_rfl) ?_
            refine NP.normal ?_
            clear k1 k4 hlk B0 hnx hen
            go_wp2_with fail
            go_roundg left'.length
            case measure => have h1 := HP.out.length_eq; have h2 := HK.out; simp at h1; omega
            case rel => exact ⟨left', rfl, HRD.out, HC3.out, HBD.out⟩
    · have hps := hpk p hpm
      have HP := Lib.hid hp; have HR2 := Lib.hid hRg2
      have hb2 := ranged hBl (Nat.le_refl _) hg2
      have HB2 := Lib.hid hb2
      have hbw := (hb2)
      have hlk : ∀ w, Below w2.heap.size w2 w → (Instr.lookup 152 (.map (some m)) (.string p.1) false).run Try.prog w = .ok (.int .i64 (lastOf last p.1)) w := fun w hw => look_last ((HM.out.below hbw).below hw) hps
      have k4 : ∀ w, Below w2.heap.size w2 w → w.cell? ⟨b, 4, none⟩ = some (.map (some m)) := fun w hw => (BoxC.cells (box_below hw (box_below hbw H1.out))).2.2.2.1
      have k1 : ∀ w, Below w2.heap.size w2 w → w.cell? ⟨t, 1, none⟩ = some (.int .i64 n) := fun w hw => (TxnC.cells (box_below hw (box_below hbw HT.out))).2.1
      have hcc : conf last n left = (decide (n < lastOf last p.1) || conf last n left') := (conf_perm hp).symm.trans conf_cons
      have HC2 := Lib.hid hcc
      have B0 : Below w2.heap.size w2 w2.drew := (Below.refl _ _).drew
      have HBD := Lib.hid (Below.step hb2 B0); have HRD := Lib.hid (hRg2.below' B0)
      clear hk hcf hBl hne hRg hp hRg2 hg2 hz2 hb2 hcc hpk hbw hps hpm
      by_cases hgt : n < lastOf last p.1
      · have hC1 : C = true := by
          have h1 : conf last n rd = true := by rw [← HCF1.out, HC2.out, decide_eq_true hgt]; rfl
          rw [← HCC.out, h1]; rfl
        have HC1 := Lib.hid hC1; clear hC1
        have hd : decide (n < lastOf last p.1) = true := decide_eq_true hgt
        generalize lastOf last p.1 = Lk at *
        generalize p.1 = ps at *; generalize p.2 = pv at *
        go_wp2_with fail
        refine wp_region_anyNP (Below w2.heap.size w2) (by kernel_rfl) ?_
        refine AnyH.take (i := 0) (d := some 27) (v := ?_) (by kernel_rfl) rfl rfl HF (fun _ _ _ h => h) (.inl ⟨by rfl, ?_⟩) (by first | assumption | rfl) ?_
        rotate_left
        · intro w hS; try subst hS
          go_simp; try with_reducible rfl
        try simp only [Act.put, List.setIfInBounds_toArray, List.set_cons_zero, List.set_cons_succ]
        refine AnyH.take (i := 1) (d := some 28) (v := ?_) (by kernel_rfl) rfl rfl HF (fun _ _ _ h => h) (.inl ⟨by rfl, ?_⟩) (by first | assumption | rfl) ?_
        rotate_left
        · intro w hS; try subst hS
          go_simp; try with_reducible rfl
        try simp only [Act.put, List.setIfInBounds_toArray, List.set_cons_zero, List.set_cons_succ]
        refine AnyH.take (i := 2) (d := some 29) (v := ?_) (by kernel_rfl) rfl rfl HF (fun _ _ _ h => h) (.inl ⟨by rfl, ?_⟩) (by first | assumption | rfl) ?_
        rotate_left
        · intro w hS; try subst hS
          go_simp; try with_reducible rfl
        try simp only [Act.put, List.setIfInBounds_toArray, List.set_cons_zero, List.set_cons_succ]
        refine AnyH.take (i := 3) (d := some 30) (v := ?_) (by kernel_rfl) rfl rfl HF (fun _ _ _ h => h) (.inl ⟨by rfl, ?_⟩) (by first | assumption | rfl) ?_
        rotate_left
        · intro w hS; try subst hS
          go_simp; try with_reducible rfl
        try simp only [Act.put, List.setIfInBounds_toArray, List.set_cons_zero, List.set_cons_succ]
        refine AnyH.take (i := 4) (d := some 31) (v := ?_) (by kernel_rfl) rfl rfl HF (fun _ _ _ h => h) (.inl ⟨by rfl, ?_⟩) (by first | assumption | rfl) ?_
        rotate_left
        · intro w hS; try subst hS
          go_simp; try with_reducible rfl
        try simp only [Act.put, List.setIfInBounds_toArray, List.set_cons_zero, List.set_cons_succ]
        refine AnyH.take (i := 5) (d := some 32) (v := ?_) (by kernel_rfl) rfl rfl HF (fun _ _ _ h => h) (.inl ⟨by rfl, ?_⟩) (by first | assumption | rfl) ?_
        rotate_left
        · intro w hS; try subst hS
          go_simp; try with_reducible rfl
        try simp only [Act.put, List.setIfInBounds_toArray, List.set_cons_zero, List.set_cons_succ]
        refine AnyH.take (i := 6) (d := some 33) (v := ?_) (by kernel_rfl) rfl rfl HF (fun _ _ _ h => h) (.inl ⟨by rfl, ?_⟩) (by first | assumption | rfl) ?_
        rotate_left
        · intro w hS; try subst hS
          go_simp; try with_reducible rfl
        try simp only [Act.put, List.setIfInBounds_toArray, List.set_cons_zero, List.set_cons_succ]
        refine AnyH.take (i := 7) (d := some 34) (v := ?_) (by kernel_rfl) rfl rfl HF (fun _ _ _ h => h) (.inl ⟨by rfl, ?_⟩) (by first | assumption | rfl) ?_
        rotate_left
        · intro w hS; try subst hS
          go_simp; try with_reducible rfl
        try simp only [Act.put, List.setIfInBounds_toArray, List.set_cons_zero, List.set_cons_succ]
        refine AnyH.take (i := 8) (d := some 35) (v := ?_) (by kernel_rfl) rfl rfl HF (fun _ _ _ h => h) (.inl ⟨by rfl, ?_⟩) (by first | assumption | rfl) ?_
        rotate_left
        · intro w hS; try subst hS
          go_simp; try with_reducible rfl
        try simp only [Act.put, List.setIfInBounds_toArray, List.set_cons_zero, List.set_cons_succ]
        refine AnyH.take (i := 9) (d := some 36) (v := ?_) (by kernel_rfl) rfl rfl HF (fun _ _ _ h => h) (.inl ⟨by rfl, ?_⟩) (by first | assumption | rfl) ?_
        rotate_left
        · intro w hS; try subst hS
          go_simp; try with_reducible rfl
        try simp only [Act.put, List.setIfInBounds_toArray, List.set_cons_zero, List.set_cons_succ]
        refine AnyH.take (i := 10) (d := some 37) (v := ?_) (by kernel_rfl) rfl rfl HF (fun _ _ _ h => h) (.inl ⟨by rfl, ?_⟩) (by first | assumption | rfl) ?_
        rotate_left
        · intro w hS; try subst hS
          go_simp; try with_reducible rfl
        try simp only [Act.put, List.setIfInBounds_toArray, List.set_cons_zero, List.set_cons_succ]
        refine AnyH.take (i := 11) (d := some 38) (v := ?_) (by kernel_rfl) rfl rfl HF (fun _ _ _ h => h) (.inl ⟨by rfl, ?_⟩) (by first | assumption | rfl) ?_
        rotate_left
        · intro w hS; try subst hS
          go_simp; try with_reducible rfl
        try simp only [Act.put, List.setIfInBounds_toArray, List.set_cons_zero, List.set_cons_succ]
        refine AnyH.done (by kernel_rfl) ?_
        refine NP.normal ?_
        have hbx := (HBD.out)
        obtain ⟨d0, -, -, -, e0, -⟩ := BoxC.cells (box_below hbx H1.out)
        have HU := Lib.hid (unmade H.out HB.out H1.out hbx)
        clear hbx k1 k4 hlk B0 hnx hen
        go_wp2_with fail
        refine leaves_cons (f := 60) (args := #[.pointer (some ⟨b, 0, none⟩)]) (by simp) (by simp [go_sem]) ?_
        refine (unlock_deferred muLib ⟨b, 0, none⟩ _ _ d0 e0).mono ?_
        rintro e u' w'' ⟨rfl, rfl, rfl⟩
        simp only [Leaves, settle, results, Try.results45]
        simp [go_sem]
        exact .inl ⟨HC1.out, rfl, HU.out⟩
      · have hd : decide (n < lastOf last p.1) = false := decide_eq_false hgt
        have HC3 : Hid (conf last n left' = conf last n rd) := Lib.hid (by rw [← HCF1.out, HC2.out, hd]; rfl)
        generalize lastOf last p.1 = Lk at *
        generalize p.1 = ps at *; generalize p.2 = pv at *
        go_wp2_with fail
        refine wp_region_anyNP (Below w2.heap.size w2) (by kernel_rfl) ?_
        refine AnyH.take (i := 0) (d := some 27) (v := ?_) (by kernel_rfl) rfl rfl HF (fun _ _ _ h => h) (.inl ⟨by rfl, ?_⟩) (by first | assumption | rfl) ?_
        rotate_left
        · intro w hS; try subst hS
          go_simp; try with_reducible rfl
        try simp only [Act.put, List.setIfInBounds_toArray, List.set_cons_zero, List.set_cons_succ]
        refine AnyH.take (i := 1) (d := some 28) (v := ?_) (by kernel_rfl) rfl rfl HF (fun _ _ _ h => h) (.inl ⟨by rfl, ?_⟩) (by first | assumption | rfl) ?_
        rotate_left
        · intro w hS; try subst hS
          go_simp; try with_reducible rfl
        try simp only [Act.put, List.setIfInBounds_toArray, List.set_cons_zero, List.set_cons_succ]
        refine AnyH.take (i := 2) (d := some 29) (v := ?_) (by kernel_rfl) rfl rfl HF (fun _ _ _ h => h) (.inl ⟨by rfl, ?_⟩) (by first | assumption | rfl) ?_
        rotate_left
        · intro w hS; try subst hS
          go_simp; try with_reducible rfl
        try simp only [Act.put, List.setIfInBounds_toArray, List.set_cons_zero, List.set_cons_succ]
        refine AnyH.take (i := 3) (d := some 30) (v := ?_) (by kernel_rfl) rfl rfl HF (fun _ _ _ h => h) (.inl ⟨by rfl, ?_⟩) (by first | assumption | rfl) ?_
        rotate_left
        · intro w hS; try subst hS
          go_simp; try with_reducible rfl
        try simp only [Act.put, List.setIfInBounds_toArray, List.set_cons_zero, List.set_cons_succ]
        refine AnyH.take (i := 4) (d := some 31) (v := ?_) (by kernel_rfl) rfl rfl HF (fun _ _ _ h => h) (.inl ⟨by rfl, ?_⟩) (by first | assumption | rfl) ?_
        rotate_left
        · intro w hS; try subst hS
          go_simp; try with_reducible rfl
        try simp only [Act.put, List.setIfInBounds_toArray, List.set_cons_zero, List.set_cons_succ]
        refine AnyH.take (i := 5) (d := some 32) (v := ?_) (by kernel_rfl) rfl rfl HF (fun _ _ _ h => h) (.inl ⟨by rfl, ?_⟩) (by first | assumption | rfl) ?_
        rotate_left
        · intro w hS; try subst hS
          go_simp; try with_reducible rfl
        try simp only [Act.put, List.setIfInBounds_toArray, List.set_cons_zero, List.set_cons_succ]
        refine AnyH.take (i := 6) (d := some 33) (v := ?_) (by kernel_rfl) rfl rfl HF (fun _ _ _ h => h) (.inl ⟨by rfl, ?_⟩) (by first | assumption | rfl) ?_
        rotate_left
        · intro w hS; try subst hS
          go_simp; try with_reducible rfl
        try simp only [Act.put, List.setIfInBounds_toArray, List.set_cons_zero, List.set_cons_succ]
        refine AnyH.take (i := 7) (d := some 34) (v := ?_) (by kernel_rfl) rfl rfl HF (fun _ _ _ h => h) (.inl ⟨by rfl, ?_⟩) (by first | assumption | rfl) ?_
        rotate_left
        · intro w hS; try subst hS
          go_simp; try with_reducible rfl
        try simp only [Act.put, List.setIfInBounds_toArray, List.set_cons_zero, List.set_cons_succ]
        refine AnyH.take (i := 8) (d := some 35) (v := ?_) (by kernel_rfl) rfl rfl HF (fun _ _ _ h => h) (.inl ⟨by rfl, ?_⟩) (by first | assumption | rfl) ?_
        rotate_left
        · intro w hS; try subst hS
          go_simp; try with_reducible rfl
        try simp only [Act.put, List.setIfInBounds_toArray, List.set_cons_zero, List.set_cons_succ]
        refine AnyH.take (i := 9) (d := some 36) (v := ?_) (by kernel_rfl) rfl rfl HF (fun _ _ _ h => h) (.inl ⟨by rfl, ?_⟩) (by first | assumption | rfl) ?_
        rotate_left
        · intro w hS; try subst hS
          go_simp; try with_reducible rfl
        try simp only [Act.put, List.setIfInBounds_toArray, List.set_cons_zero, List.set_cons_succ]
        refine AnyH.take (i := 10) (d := some 37) (v := ?_) (by kernel_rfl) rfl rfl HF (fun _ _ _ h => h) (.inl ⟨by rfl, ?_⟩) (by first | assumption | rfl) ?_
        rotate_left
        · intro w hS; try subst hS
          go_simp; try with_reducible rfl
        try simp only [Act.put, List.setIfInBounds_toArray, List.set_cons_zero, List.set_cons_succ]
        refine AnyH.take (i := 11) (d := some 38) (v := ?_) (by kernel_rfl) rfl rfl HF (fun _ _ _ h => h) (.inl ⟨by rfl, ?_⟩) (by first | assumption | rfl) ?_
        rotate_left
        · intro w hS; try subst hS
          go_simp; try with_reducible rfl
        try simp only [Act.put, List.setIfInBounds_toArray, List.set_cons_zero, List.set_cons_succ]
        refine AnyH.done (by kernel_rfl) ?_
        refine NP.normal ?_
        clear k1 k4 hlk B0 hnx hen
        go_wp2_with fail
        go_roundg left'.length
        case measure => have h1 := HP.out.length_eq; have h2 := HK.out; simp at h1; omega
        case rel => exact ⟨left', rfl, HRD.out, HC3.out, HBD.out⟩
end S
end Go.Proofs.Ytlfodhejpbjfcaa
namespace Go.Proofs.Ytlfodhejpbjfcaa
open Go.RowKit
/-- Nothing that lay has turned but the blocks of S. -/
structure BL (S : List Nat) (A B : World) : Prop where
  os : B.os = A.os
  tape : B.tape = A.tape
  output : B.output = A.output
  size : A.heap.size ≤ B.heap.size
  block : ∀ k, k < A.heap.size → k ∉ S → B.heap[k]? = A.heap[k]?
theorem BL.of {S : List Nat} {A B : World} (h : Below A.heap.size A B) : BL S A B := ⟨h.os, h.tape, h.output, h.size, fun k hk _ => h.block k hk⟩
theorem BL.one {C : Nat} {A B : World} (h : BC C A B) {S : List Nat} (hs : C ∈ S ∨ A.heap.size ≤ C) : BL S A B := ⟨h.os, h.tape, h.output, h.size, fun k hk hn => h.block k hk (fun e => by rcases hs with hs | hs; exact hn (e ▸ hs); omega)⟩
theorem BL.refl (S : List Nat) (A : World) : BL S A A := .of (Below.refl _ _)
theorem BL.trans {S : List Nat} {A B D : World} (h : BL S A B) (k : BL S B D) : BL S A D :=
  ⟨k.os.trans h.os, k.tape.trans h.tape, k.output.trans h.output, Nat.le_trans h.size k.size, fun i hi hc => (k.block i (Nat.lt_of_lt_of_le hi h.size) hc).trans (h.block i hi hc)⟩
theorem BL.mono {S S' : List Nat} {A B : World} (h : BL S A B) (hs : ∀ k ∈ S, k ∈ S' ∨ A.heap.size ≤ k) : BL S' A B :=
  ⟨h.os, h.tape, h.output, h.size, fun i hi hc => h.block i hi (fun e => by rcases hs i e with h1 | h1; exact hc h1; omega)⟩
theorem BL.obj {S : List Nat} {A B : World} (h : BL S A B) {k : Nat} (hc : k ∉ S) {o : Obj} (ho : A.heap[k]? = some o) : B.heap[k]? = some o := (h.block k (Array.getElem?_eq_some_iff.1 ho).1 hc).trans ho
theorem BL.below {S : List Nat} {A B : World} {n : Nat} (h : BL S A B) (hs : ∀ k ∈ S, n ≤ k) (hn : n ≤ A.heap.size) : Below n A B :=
  ⟨h.os, h.tape, h.output, h.size, fun k hk => h.block k (Nat.lt_of_lt_of_le hk hn) (fun e => by have := hs k e; omega)⟩
namespace S
theorem _root_.Go.Proofs.Ytlfodhejpbjfcaa.BL.two {C D : Nat} {A B : World} (h : BC2 C D A B) {S : List Nat} (h1 : C ∈ S) (h2 : D ∈ S) : BL S A B :=
  ⟨h.os, h.tape, h.output, h.size, fun k hk hn => h.block k hk (fun e => hn (e ▸ h1)) (fun e => hn (e ▸ h2))⟩
theorem _root_.Go.Proofs.Ytlfodhejpbjfcaa.MapAt.bl {α : Type} {ev : α → Value} {A B : World} {k : Nat} {S : List Nat} {l : List (ByteArray × α)} (h : MapAt ev A k l) (hb : BL S A B) (hk : k ∉ S) : MapAt ev B k l := h.of_block (hb.block k h.lt hk)
/-- A block that holds cells of a box or of a transaction, or none. -/
def NoNode (A : World) (k : Nat) : Prop := ∀ cs t fz, A.heap[k]? = some (.cells cs t fz) → t = 158 ∨ t = 120
theorem NoNode.map {α : Type} {ev : α → Value} {A : World} {k : Nat} {l : List (ByteArray × α)} (h : MapAt ev A k l) : NoNode A k := fun cs t fz e => (mapUnlike h e rfl).elim
theorem NoNode.box {A : World} {b m : Nat} {l n : Int} {q : Option Addr} (h : BoxC A b l n q m) : NoNode A b := fun cs t fz e => by unfold BoxC at h; rw [h] at e; cases e; exact .inl rfl
theorem NoNode.txn {A : World} {t b r c : Nat} {n : Int} {q : Option Addr} {d : Bool} (h : TxnC A t b n q r c d) : NoNode A t := fun cs t fz e => by unfold TxnC at h; rw [h] at e; cases e; exact .inr rfl
/-- A tree lies on where no block of S holds a node. -/
theorem isBl {A B : World} {S : List Nat} (hb : BL S A B) (hS : ∀ k ∈ S, NoNode A k) {q : Option Addr} {T : Tr ByteArray Int} (hT : sd.Is A q T) : sd.Is B q T :=
  hT.keep (fun g cs fz e => hb.obj (fun hg => by rcases hS g hg cs _ fz e with h | h <;> exact absurd h (by decide)) e)
/-- Cells of another type lie on. -/
theorem keepBl {A B : World} {S : List Nat} (hb : BL S A B) (hS : ∀ k ∈ S, NoNode A k) {t : TypeId} (h1 : t ≠ 158) (h2 : t ≠ 120) : KeepT t A B :=
  fun g cs fz e => hb.obj (fun hg => by rcases hS g hg cs _ fz e with h | h; exact h1 h; exact h2 h) e

/-- What Commit leaves of a box. -/
def MadePost (W : World) (t b m : Nat) (N : Int) (T : Tr ByteArray Int) (last : List (ByteArray × Int)) (ch : List (ByteArray × (Int × Bool))) (C : Bool) (e : Ending) (w' : World) : Prop :=
  (C = true ∧ e = .returned (.tuple #[.int .i64 0, err 11]) ∧ BL [t] W w') ∨
  (C = false ∧ e = .returned (.tuple #[.int .i64 (N + 1), .nilIface]) ∧ ∃ q' L, L.Perm ch ∧ BoxC w' b 0 (N + 1) q' m ∧ sd.Is w' q' (appN T L) ∧ MapAt (Value.int .i64) w' m (lastN last (N + 1) L) ∧ BL [t, b, m] W w')

attribute [local go_sem] Oper.semAt_some
set_option maxRecDepth 100000 in
set_option maxHeartbeats 1000000 in
theorem Commit_some {W : World} {b m t r c : Nat} {N n : Int} {Q q : Option Addr} {T : Tr ByteArray Int} {rd : List (ByteArray × Bool)} {ch : List (ByteArray × (Int × Bool))} {last : List (ByteArray × Int)}
    (h : BoxC W b 0 N Q m) (ht : TxnC W t b n q r c false) (hT : sd.Is W Q T) (hr : MapAt Value.bool W r rd) (hc : MapAt evc W c ch) (hm : MapAt (Value.int .i64) W m last) (hmr : m ≠ r) (hmc : m ≠ c) (hne : ch ≠ [])
    (hN : 0 ≤ N) (hN2 : N ≤ 1000000) (hn : 0 ≤ n) (hn2 : n ≤ 1000000) (hsz : T.sz + ch.length ≤ 800000) (hll : last.length + ch.length ≤ 800000) :
    Calls Try.prog 20 #[.pointer (some ⟨t, 0, none⟩)] W fun e w' => MadePost W t b m N T last ch (conf last n rd || conf last n ch) e w' ∧ TxnC w' t b n q r c true := by
  obtain ⟨c0, -, -, -, -, c5, f5⟩ := ht.cells
  obtain ⟨W1, hW1⟩ : ∃ W1, W.setCell ⟨t, 5, none⟩ (.bool true) = W1 := ⟨_, rfl⟩
  have h1 : TxnC W1 t b n q r c true := by rw [← hW1]; exact ht.finish true
  have hb : BC t W W1 := by rw [← hW1]; exact (BC.refl _ _).set (p := ⟨t, 5, none⟩) (.inr rfl) _
  have hc1 : MapAt evc W1 c ch := MapAt.bc hc hb (mapUnlike hc ht).symm
  have hbt : b ≠ t := fun e => by subst e; unfold BoxC at h; unfold TxnC at ht; rw [h] at ht; cases ht
  have hx1 : BoxC W1 b 0 N Q m := hb.obj hbt h
  have hT1 : sd.Is W1 Q T := by rw [← hW1]; exact hT.keep (KeepT.setCell (nt := 189) (a := ⟨t, 5, none⟩) (v := .bool true) ht (by decide))
  have hlp : 0 < ch.length := List.length_pos_iff.2 hne
  have hln := hc1.len (P := Try.prog) (t := 118) (k := 9) (e := 124) (ty := 3) Try.underlying118
  have hl0 : ((ch.length : Int) == 0) = false := by rw [beq_eq_false_iff_ne]; omega
  have HCM := Lib.hid (commit_any hx1 h1 hT1 (MapAt.bc hr hb (mapUnlike hr ht).symm) hc1 (MapAt.bc hm hb (mapUnlike hm ht).symm) hmr hmc hN hN2 hn hn2 hsz hll)
  obtain ⟨d0, d1, -, -, d4, -, -⟩ := h1.cells
  have H1 := Lib.hid h1; have HB := Lib.hid hb; have HTM := Lib.hid (mapUnlike hm ht); have HBT := Lib.hid hbt
  clear h ht h1 hb hc hc1 hT hr hm hmr hmc hne hbt hx1 hT1 hsz hll
  go_enter Try.func20, Try.ntmps20
  go_wp2_with fail
  refine HCM.out.mono ?_
  rintro e w' hp
  unfold CommitPost at hp
  rcases hp with ⟨hC, rfl, hB⟩ | ⟨hC, rfl, q', L, hL, hBX, hI, hM, hB⟩
  · have HP := Lib.hid (And.intro hC hB)
    clear hC hB
    go_wp2_with fail
    go_ret2
    exact ⟨.inl ⟨HP.out.1, rfl, (BL.one HB.out (.inl (by simp))).trans (.of HP.out.2)⟩, box_below HP.out.2 H1.out⟩
  · have HP := Lib.hid (And.intro hC (And.intro hL (And.intro hBX (And.intro hI (And.intro hM hB)))))
    clear hC hL hBX hI hM hB
    go_wp2_with fail
    go_ret2
    obtain ⟨hC, hL, hBX, hI, hM, hB⟩ := HP.out
    have hl : BL [b, m] W1 w' := BL.two hB (by simp) (by simp)
    refine ⟨.inr ⟨hC, rfl, q', L, hL, hBX, hI, hM, (BL.one HB.out (.inl (by simp))).trans (hl.mono (fun k hk => .inl (by simp only [List.mem_cons] at hk ⊢; exact .inr hk)))⟩, hl.obj ?_ H1.out⟩
    intro hk
    simp only [List.mem_cons, List.not_mem_nil, or_false] at hk
    rcases hk with e | e
    · exact HBT.out e.symm
    · exact HTM.out e
end S
end Go.Proofs.Ytlfodhejpbjfcaa
namespace Go.Proofs.Ytlfodhejpbjfcaa
open Go.RowKit
/-- A slice of named texts, wherever it lies. -/
def RowNm (W : World) (v : Value) (L : List (ByteArray × Int)) : Prop :=
  ∃ a cap, v = .slice a L.length cap ∧ L.length ≤ cap ∧ cap ≤ maxLen ∧ (∀ p ∈ L, p.1.size ≤ maxLen) ∧ ∀ (i : Nat) (h : i < L.length), ∃ b, a = some b ∧ W.cell? (b.add (i * 2)) = some (.string L[i].1) ∧ W.cell? ⟨(b.add (i * 2)).block, (b.add (i * 2)).off + 1, none⟩ = some (.int .i64 L[i].2)
theorem cell_on {A C : World} {a : Addr} {v : Value} (h : A.cell? a = some v) (hb : Below A.heap.size A C) : C.cell? a = some v := by
  have h2 := h
  unfold World.cell? at h ⊢
  cases hh : A.heap[a.block]? with
  | none => rw [hh] at h; cases h
  | some o =>
    rw [hb.block a.block (Array.getElem?_eq_some_iff.1 hh).1]
    exact h
theorem RowNm.below {A C : World} {v : Value} {L : List (ByteArray × Int)} (h : RowNm A v L) (hb : Below A.heap.size A C) : RowNm C v L := by
  obtain ⟨a, cap, rfl, h1, h2, h3, h⟩ := h
  exact ⟨a, cap, rfl, h1, h2, h3, fun i hi => (h i hi).imp fun b hh => ⟨hh.1, cell_on hh.2.1 hb, cell_on hh.2.2 hb⟩⟩
namespace S
attribute [local go_sem] Oper.semAt_some
/-- What New makes of the list, from a tree on: the error's code and the tree. -/
def newF : List (ByteArray × Int) → Tr ByteArray Int → Int × Tr ByteArray Int
  | [], T => (0, T)
  | p :: l, T => if okName p.1 then (match findF sd.lt p.1 T with | .nil => newF l (putF sd.lt p.1 p.2 T) | .node .. => (6, T)) else (13, T)
/-- What New answers. -/
def NewPost (W : World) (R : Int × Tr ByteArray Int) (e : Ending) (w' : World) : Prop :=
  (R.1 = 0 ∧ ∃ b m q, e = .returned (.tuple #[.pointer (some ⟨b, 0, none⟩), .nilIface]) ∧ W.heap.size ≤ b ∧ W.heap.size ≤ m ∧ BoxC w' b 0 0 q m ∧ sd.Is w' q R.2 ∧ MapAt (Value.int .i64) w' m [] ∧ Below W.heap.size W w') ∨
  (R.1 ≠ 0 ∧ e = .returned (.tuple #[.pointer none, err R.1]) ∧ Below W.heap.size W w')
/-- Ahead of each round. -/
def Newing (W : World) (g m : Nat) (L : List (ByteArray × Int)) (i : Nat) (wr : World) : Prop :=
  ∃ q T, BoxC wr g 0 0 q m ∧ sd.Is wr q T ∧ MapAt (Value.int .i64) wr m [] ∧ newF (L.drop i) T = newF L .nil ∧ T.sz ≤ i ∧ Below W.heap.size W wr
theorem BoxC.put1 {W : World} {b m : Nat} {l N : Int} {Q : Option Addr} (h : BoxC W b l N Q m) (Q' : Option Addr) : BoxC (W.setCell ⟨b, 3, none⟩ (.pointer Q')) b l N Q' m := by
  unfold BoxC at h ⊢
  rw [heap_set0 _ h]; rfl
def gvx : Tr ByteArray Int → Int
  | .nil => 0
  | .node _ _ v _ => v
def gvb : Tr ByteArray Int → Bool
  | .nil => false
  | .node .. => true
theorem getV_eq (F : Tr ByteArray Int) : sd.getV F = .tuple #[.int .i64 (gvx F), .bool (gvb F)] := by cases F <;> rfl
set_option maxRecDepth 100000 in
set_option maxHeartbeats 4000000 in
theorem New_any {W : World} {v : Value} {L : List (ByteArray × Int)} (hL : RowNm W v L) (hl : L.length ≤ 1000) :
    Calls Try.prog 33 #[v] W (NewPost W (newF L .nil)) := by
  have HF : ∀ f, Fence.wide.fn f := fun _ => trivial
  have hmm := @run_makeMap Try.prog
  have H := Lib.hid hL
  obtain ⟨a, cap, rfl, hc1, hc2, -, -⟩ := hL
  unfold maxLen at hc2
  obtain ⟨R, hR⟩ : ∃ R, newF L .nil = R := ⟨_, rfl⟩
  have HR := Lib.hid hR
  rw [hR]
  obtain ⟨W1, hW1⟩ : ∃ W1, (W.alloc (.map #[] 0)).alloc (.cells #[.int .i32 0, .int .u32 0, .int .i64 0, .pointer none, .map (some W.heap.size)] 158) = W1 := ⟨_, rfl⟩
  have HST : Hid (Newing W (W.heap.size + 1) W.heap.size L 0 W1) := Lib.hid (by
    rw [← hW1]
    have hm := MapAt.made (Value.int .i64) W
    refine ⟨none, .nil, ?_, rfl, hm.below ((Below.refl _ _).alloc (Nat.le_refl _) _), rfl, by simp [Tr.sz], ((Below.refl _ W).alloc (Nat.le_refl _) _).alloc (by simp) _⟩
    have := heap_new (W.alloc (.map #[] 0)) (.cells #[.int .i32 0, .int .u32 0, .int .i64 0, .pointer none, .map (some W.heap.size)] 158)
    rw [World.size_alloc] at this
    exact this)
  have HG := Lib.hid (And.intro (Nat.le_refl W.heap.size) (Nat.le_succ W.heap.size))
  clear hR
  go_enter Try.func33, Try.ntmps33
  go_wp2_with fail
  clear hmm hW1
  obtain ⟨g, hg⟩ : ∃ g, W.heap.size + 1 = g := ⟨_, rfl⟩
  rw [hg] at HST ⊢
  have hWg : W.heap.size ≤ g := by omega
  have HWG := Lib.hid hWg
  clear hg hWg HG
  go_loopw [14] (fun c wr => ∃ i : Nat, i ≤ L.length ∧ c = .int .i64 i ∧ Newing W g W.heap.size L i wr) (fun c _ => L.length - (intOf c).toNat)
  case atStart => exact ⟨0, Nat.zero_le _, rfl, HST.out⟩
  case round =>
    obtain ⟨i, hi, rfl, hN⟩ := hrel
    obtain ⟨q, T, hB, hI, hM, hN, hz, hb⟩ := hN
    by_cases hlt : i < L.length
    · have hi3 : (i : Int) < (L.length : Int) := by omega
      have hi4 : (0 : Int) ≤ (i : Int) := by omega
      obtain ⟨a', cap', he, -, -, hss, hc⟩ := H.out
      simp only [Value.slice.injEq] at he
      obtain ⟨rfl, -, rfl⟩ := he
      obtain ⟨b', rfl, m0, m1⟩ := hc i hlt
      have m0 := cell_on m0 hb; have m1 := cell_on m1 hb
      have hps : L[i].1.size ≤ 9223372036854775807 := by have := hss _ (List.getElem_mem hlt); unfold maxLen at this; exact this
      have hdr : L.drop i = L[i] :: L.drop (i + 1) := List.drop_eq_getElem_cons hlt
      rw [hdr] at hN
      have HN := Lib.hid hN
      generalize L[i] = p at *
      obtain ⟨s, x⟩ := p
      dsimp only at m0 m1 hps
      obtain ⟨wy, hwy⟩ : ∃ w, wr.alloc (.cells #[.string ⟨#[]⟩, .int .i64 0] 49) = w := ⟨_, rfl⟩
      have ny : wy.heap[wr.heap.size]? = some (.cells #[.string ⟨#[]⟩, .int .i64 0] 49 (0, 0)) := by rw [← hwy]; exact heap_new _ _
      have hby : Below wr.heap.size wr wy := by rw [← hwy]; exact (Below.refl _ _).alloc (Nat.le_refl _) _
      have y0 : wy.cell? ⟨wr.heap.size, 0, none⟩ = some (.string ⟨#[]⟩) := by simp [World.cell?, ny]
      have y1 : wy.cell? ⟨wr.heap.size, 1, none⟩ = some (.int .i64 0) := by simp [World.cell?, ny]
      have y2 : wy.frozen? ⟨wr.heap.size, 0, none⟩ = false := by simp [World.frozen?, ny]
      have y3 : wy.frozen? ⟨wr.heap.size, 1, none⟩ = false := by simp [World.frozen?, ny]
      obtain ⟨w1, hw1⟩ : ∃ w, (wy.setCell ⟨wr.heap.size, 0, none⟩ (.string s)).setCell ⟨wr.heap.size, 1, none⟩ (.int .i64 x) = w := ⟨_, rfl⟩
      have hb1 : Below wr.heap.size wr w1 := by rw [← hw1]; exact (hby.setCell (p := ⟨wr.heap.size, 0, none⟩) (Nat.le_refl _) _).setCell (p := ⟨wr.heap.size, 1, none⟩) (Nat.le_refl _) _
      have n1 : w1.heap[wr.heap.size]? = some (.cells #[.string s, .int .i64 x] 49 (0, 0)) := by
        rw [← hw1]; exact heap_set0 (.int .i64 x) (heap_set0 (.string s) ny)
      have x0 : w1.cell? ⟨wr.heap.size, 0, none⟩ = some (.string s) := by simp [World.cell?, n1]
      have H1 := Lib.hid n1
      have HB1 := Lib.hid (show BoxC w1 g 0 0 q W.heap.size from box_below hb1 hB); have HI1 := Lib.hid (hI.below hb1); have HM1 := Lib.hid (hM.below hb1); have HBW := Lib.hid (hb.trans (hb1.mono hb.size)); have HZ := Lib.hid hz
      have HV1 := Lib.hid (valid_any w1 s hps)
      clear hB hI hM hN hz hb hb1 hss hc ny hby n1 hdr hps
      by_cases hk : 1 ≤ s.size ∧ s.size ≤ 32
      · have hd : decide (1 ≤ s.size ∧ s.size ≤ 32) = true := decide_eq_true hk
        have hg1 : ∀ w, Below w1.heap.size w1 w → w.cell? ⟨g, 3, none⟩ = some (.pointer q) := fun w hw => (BoxC.cells (box_below hw HB1.out)).2.2.1
        have hs1 : ∀ w, Below w1.heap.size w1 w → w.cell? ⟨wr.heap.size, 0, none⟩ = some (.string s) := fun w hw => by have := box_below hw H1.out; simp [World.cell?, this]
        have hs2 : ∀ w, Below w1.heap.size w1 w → w.cell? ⟨wr.heap.size, 1, none⟩ = some (.int .i64 x) := fun w hw => by have := box_below hw H1.out; simp [World.cell?, this]
        have HN2 : Hid ((match findF sd.lt s T with | .nil => newF (L.drop (i + 1)) (putF sd.lt s x T) | .node .. => (6, T)) = newF L .nil) := Lib.hid (by rw [← HN.out]; simp only [newF]; rw [if_pos (show okName s from hk)])
        go_wp2_with fail
        refine HV1.out.mono ?_; rintro e w2 ⟨rfl, h2⟩
        rw [h2]; clear h2 w2
        rw [hd]
        clear hd hk m0 m1 y0 y1 y2 y3 hwy hw1 x0
        go_wp2_with fail
        refine wp_region_anyH (Below w1.heap.size w1) (by kernel_rfl) ?_
        obtain ⟨F, hF⟩ : ∃ F, findF sd.lt s T = F := ⟨_, rfl⟩
        have HFF := Lib.hid hF
        have B0 : Below w1.heap.size w1 w1.drew := (Below.refl _ _).drew
        refine AnyH.take (i := 0) (d := some 24) (v := ?_) (by kernel_rfl) rfl rfl HF (fun _ _ _ h => h) (.inl ⟨by rfl, ?_⟩) (by first | assumption | rfl) ?_
        rotate_left
        · intro w hS; try subst hS
          go_simp; try with_reducible rfl
        try simp only [Act.put, List.setIfInBounds_toArray, List.set_cons_zero, List.set_cons_succ]
        refine AnyH.take (i := 1) (d := some 25) (v := ?_) (by kernel_rfl) rfl rfl HF (fun _ _ _ h => h) (.inl ⟨by rfl, ?_⟩) (by first | assumption | rfl) ?_
        rotate_left
        · intro w hS; try subst hS
          go_simp; try with_reducible rfl
        try simp only [Act.put, List.setIfInBounds_toArray, List.set_cons_zero, List.set_cons_succ]
        refine AnyH.take (i := 2) (d := some 26) (v := ?_) (by kernel_rfl) rfl rfl HF (fun _ _ _ h => h) (.inl ⟨by rfl, ?_⟩) (by first | assumption | rfl) ?_
        rotate_left
        · intro w hS; try subst hS
          go_simp; try with_reducible rfl
        try simp only [Act.put, List.setIfInBounds_toArray, List.set_cons_zero, List.set_cons_succ]
        refine AnyH.take (i := 3) (d := some 27) (v := ?_) (by kernel_rfl) rfl rfl HF (fun _ _ _ h => h) (.inl ⟨by rfl, ?_⟩) (by first | assumption | rfl) ?_
        rotate_left
        · intro w hS; try subst hS
          go_simp; try with_reducible rfl
        try simp only [Act.put, List.setIfInBounds_toArray, List.set_cons_zero, List.set_cons_succ]
        refine AnyH.take (i := 4) (d := some 28) (v := ?_) (by kernel_rfl) rfl rfl HF (fun _ _ _ h => h) (.inl ⟨by rfl, ?_⟩) (by first | assumption | rfl) ?_
        rotate_left
        · intro w hS; try subst hS
          go_simp; try with_reducible rfl
        try simp only [Act.put, List.setIfInBounds_toArray, List.set_cons_zero, List.set_cons_succ]
        refine AnyH.take (i := 5) (d := some 29) (v := ?_) (by kernel_rfl) rfl rfl HF (fun _ _ _ h => h) (.inl ⟨by rfl, ?_⟩) (by first | assumption | rfl) ?_
        rotate_left
        · intro w hS; try subst hS
          go_simp; try with_reducible rfl
        try simp only [Act.put, List.setIfInBounds_toArray, List.set_cons_zero, List.set_cons_succ]
        refine AnyH.take (i := 6) (d := some 30) (v := ?_) (by kernel_rfl) rfl rfl HF (fun _ _ _ h => h) (.inl ⟨by rfl, ?_⟩) (by first | assumption | rfl) ?_
        rotate_left
        · intro w hS; try subst hS
          go_simp; try with_reducible rfl
        try simp only [Act.put, List.setIfInBounds_toArray, List.set_cons_zero, List.set_cons_succ]
        refine AnyH.one (i := 7) (by kernel_rfl) (by kernel_rfl) rfl HF (by rfl) (fun K hK => ?_)
        go_simp
        first | ((with_reducible refine And.intro ?hdep ?_); (case hdep => first | rfl | (intro h; cases h))) | skip
        refine callsIn_wide.2 ((sd.Get_any s (HI1.out.below B0)).mono ?_)
        rintro e w3 ⟨rfl, b3⟩
        have B3 := Below.step B0 b3
        clear b3
        rw [hF, getV_eq]
        clear hF
        refine hK _ _ B3 ?_
        clear hK K
        try simp only [Act.put, List.setIfInBounds_toArray, List.set_cons_zero, List.set_cons_succ]
        refine AnyH.take (i := 8) (d := some 23) (v := ?_) (by kernel_rfl) rfl rfl HF (fun _ _ _ h => h) (.inl ⟨by rfl, ?_⟩) (by first | assumption | rfl) ?_
        rotate_left
        · intro w hS; try subst hS
          go_simp; try with_reducible rfl
        try simp only [Act.put, List.setIfInBounds_toArray, List.set_cons_zero, List.set_cons_succ]
        refine AnyH.take (i := 9) (d := some 32) (v := ?_) (by kernel_rfl) rfl rfl HF (fun _ _ _ h => h) (.inl ⟨by rfl, ?_⟩) (by first | assumption | rfl) ?_
        rotate_left
        · intro w hS; try subst hS
          go_simp; try with_reducible rfl
        try simp only [Act.put, List.setIfInBounds_toArray, List.set_cons_zero, List.set_cons_succ]
        refine AnyH.take (i := 10) (d := some 33) (v := ?_) (by kernel_rfl) rfl rfl HF (fun _ _ _ h => h) (.inl ⟨by rfl, ?_⟩) (by first | assumption | rfl) ?_
        rotate_left
        · intro w hS; try subst hS
          go_simp; try with_reducible rfl
        try simp only [Act.put, List.setIfInBounds_toArray, List.set_cons_zero, List.set_cons_succ]
        refine AnyH.take (i := 11) (d := some 7) (v := ?_) (by kernel_rfl) rfl rfl HF (fun _ _ _ h => h) (.inl ⟨by rfl, ?_⟩) (by first | assumption | rfl) ?_
        rotate_left
        · intro w hS; try subst hS
          go_simp; try with_reducible rfl
        try simp only [Act.put, List.setIfInBounds_toArray, List.set_cons_zero, List.set_cons_succ]
        refine AnyH.take (i := 12) (d := some 8) (v := ?_) (by kernel_rfl) rfl rfl HF (fun _ _ _ h => h) (.inl ⟨by rfl, ?_⟩) (by first | assumption | rfl) ?_
        rotate_left
        · intro w hS; try subst hS
          go_simp; try with_reducible rfl
        try simp only [Act.put, List.setIfInBounds_toArray, List.set_cons_zero, List.set_cons_succ]
        refine AnyH.done (by kernel_rfl) ?_
        cases F with
        | node fl fk fv fr =>
          have HE : Hid (R = (6, T)) := Lib.hid (by rw [← HR.out, ← HN2.out, HFF.out])
          have HB3 := Lib.hid (HBW.out.trans (B3.mono HBW.out.size))
          clear hg1 hs1 hs2 B0 B3
          simp only [gvx, gvb]
          go_wp2_with fail
          go_ret2
          exact .inr ⟨by rw [HE.out]; show (6 : Int) ≠ 0; decide, by rw [HE.out]; rfl, HB3.out⟩
        | nil =>
          have HE : Hid (newF (L.drop (i + 1)) (putF sd.lt s x T) = newF L .nil) := Lib.hid (by rw [← HN2.out, HFF.out])
          obtain ⟨w4, hw4⟩ : ∃ w, w3.drew = w := ⟨_, rfl⟩
          have B4 : Below w1.heap.size w1 w4 := by rw [← hw4]; exact B3.drew
          have HI4 := Lib.hid (HI1.out.below B4)
          simp only [gvx, gvb]
          go_wp2_with fail
          refine wp_region_anyH (Below w1.heap.size w1) (by kernel_rfl) ?_
          rw [hw4]
          clear B0 B3 hw4
          refine AnyH.take (i := 0) (d := some 36) (v := ?_) (by kernel_rfl) rfl rfl HF (fun _ _ _ h => h) (.inl ⟨by rfl, ?_⟩) (by first | assumption | rfl) ?_
          rotate_left
          · intro w hS; try subst hS
            go_simp; try with_reducible rfl
          try simp only [Act.put, List.setIfInBounds_toArray, List.set_cons_zero, List.set_cons_succ]
          refine AnyH.take (i := 1) (d := some 37) (v := ?_) (by kernel_rfl) rfl rfl HF (fun _ _ _ h => h) (.inl ⟨by rfl, ?_⟩) (by first | assumption | rfl) ?_
          rotate_left
          · intro w hS; try subst hS
            go_simp; try with_reducible rfl
          try simp only [Act.put, List.setIfInBounds_toArray, List.set_cons_zero, List.set_cons_succ]
          refine AnyH.take (i := 2) (d := some 38) (v := ?_) (by kernel_rfl) rfl rfl HF (fun _ _ _ h => h) (.inl ⟨by rfl, ?_⟩) (by first | assumption | rfl) ?_
          rotate_left
          · intro w hS; try subst hS
            go_simp; try with_reducible rfl
          try simp only [Act.put, List.setIfInBounds_toArray, List.set_cons_zero, List.set_cons_succ]
          refine AnyH.take (i := 3) (d := some 39) (v := ?_) (by kernel_rfl) rfl rfl HF (fun _ _ _ h => h) (.inl ⟨by rfl, ?_⟩) (by first | assumption | rfl) ?_
          rotate_left
          · intro w hS; try subst hS
            go_simp; try with_reducible rfl
          try simp only [Act.put, List.setIfInBounds_toArray, List.set_cons_zero, List.set_cons_succ]
          refine AnyH.take (i := 4) (d := some 40) (v := ?_) (by kernel_rfl) rfl rfl HF (fun _ _ _ h => h) (.inl ⟨by rfl, ?_⟩) (by first | assumption | rfl) ?_
          rotate_left
          · intro w hS; try subst hS
            go_simp; try with_reducible rfl
          try simp only [Act.put, List.setIfInBounds_toArray, List.set_cons_zero, List.set_cons_succ]
          refine AnyH.take (i := 5) (d := some 41) (v := ?_) (by kernel_rfl) rfl rfl HF (fun _ _ _ h => h) (.inl ⟨by rfl, ?_⟩) (by first | assumption | rfl) ?_
          rotate_left
          · intro w hS; try subst hS
            go_simp; try with_reducible rfl
          try simp only [Act.put, List.setIfInBounds_toArray, List.set_cons_zero, List.set_cons_succ]
          refine AnyH.take (i := 6) (d := some 42) (v := ?_) (by kernel_rfl) rfl rfl HF (fun _ _ _ h => h) (.inl ⟨by rfl, ?_⟩) (by first | assumption | rfl) ?_
          rotate_left
          · intro w hS; try subst hS
            go_simp; try with_reducible rfl
          try simp only [Act.put, List.setIfInBounds_toArray, List.set_cons_zero, List.set_cons_succ]
          refine AnyH.take (i := 7) (d := some 43) (v := ?_) (by kernel_rfl) rfl rfl HF (fun _ _ _ h => h) (.inl ⟨by rfl, ?_⟩) (by first | assumption | rfl) ?_
          rotate_left
          · intro w hS; try subst hS
            go_simp; try with_reducible rfl
          try simp only [Act.put, List.setIfInBounds_toArray, List.set_cons_zero, List.set_cons_succ]
          refine AnyH.take (i := 8) (d := some 44) (v := ?_) (by kernel_rfl) rfl rfl HF (fun _ _ _ h => h) (.inl ⟨by rfl, ?_⟩) (by first | assumption | rfl) ?_
          rotate_left
          · intro w hS; try subst hS
            go_simp; try with_reducible rfl
          try simp only [Act.put, List.setIfInBounds_toArray, List.set_cons_zero, List.set_cons_succ]
          refine AnyH.take (i := 9) (d := some 45) (v := ?_) (by kernel_rfl) rfl rfl HF (fun _ _ _ h => h) (.inl ⟨by rfl, ?_⟩) (by first | assumption | rfl) ?_
          rotate_left
          · intro w hS; try subst hS
            go_simp; try with_reducible rfl
          try simp only [Act.put, List.setIfInBounds_toArray, List.set_cons_zero, List.set_cons_succ]
          refine AnyH.one (i := 10) (by kernel_rfl) (by kernel_rfl) rfl HF (by rfl) (fun K hK => ?_)
          go_simp
          first | ((with_reducible refine And.intro ?hdep ?_); (case hdep => first | rfl | (intro h; cases h))) | skip
          refine callsIn_wide.2 ((sd.Put_any s x HI4.out (by have := HZ.out; omega)).mono ?_)
          rintro e w5 ⟨q2, rfl, hq2, b5⟩
          have B5 := Below.step B4 b5
          have HQ2 := Lib.hid hq2
          clear b5 hq2
          refine hK _ _ B5 ?_
          clear hK K
          try simp only [Act.put, List.setIfInBounds_toArray, List.set_cons_zero, List.set_cons_succ]
          refine AnyH.take (i := 11) (d := some 47) (v := ?_) (by kernel_rfl) rfl rfl HF (fun _ _ _ h => h) (.inl ⟨by rfl, ?_⟩) (by first | assumption | rfl) ?_
          rotate_left
          · intro w hS; try subst hS
            go_simp; try with_reducible rfl
          try simp only [Act.put, List.setIfInBounds_toArray, List.set_cons_zero, List.set_cons_succ]
          refine AnyH.take (i := 12) (d := some 48) (v := ?_) (by kernel_rfl) rfl rfl HF (fun _ _ _ h => h) (.inl ⟨by rfl, ?_⟩) (by first | assumption | rfl) ?_
          rotate_left
          · intro w hS; try subst hS
            go_simp; try with_reducible rfl
          try simp only [Act.put, List.setIfInBounds_toArray, List.set_cons_zero, List.set_cons_succ]
          refine AnyH.take (i := 13) (d := some 49) (v := ?_) (by kernel_rfl) rfl rfl HF (fun _ _ _ h => h) (.inl ⟨by rfl, ?_⟩) (by first | assumption | rfl) ?_
          rotate_left
          · intro w hS; try subst hS
            go_simp; try with_reducible rfl
          try simp only [Act.put, List.setIfInBounds_toArray, List.set_cons_zero, List.set_cons_succ]
          refine AnyH.tailL 14 (by kernel_rfl) ?_
          simp only [List.drop_succ_cons, List.drop_zero]
          have hB5 : BoxC w5 g 0 0 q W.heap.size := box_below B5 HB1.out
          obtain ⟨-, -, k3, -, -, -, e3, -⟩ := BoxC.cells hB5
          have HB5 := Lib.hid hB5; have HM5 := Lib.hid (HM1.out.below B5)
          have HBW5 := Lib.hid (HBW.out.trans (B5.mono HBW.out.size))
          clear hB5 hg1 hs1 hs2
          gi_wp2_with fail
          go_wp2_with fail
          go_roundw
          case rel => exact ⟨i + 1, by omega, by go_num, q2, _, BoxC.put1 HB5.out q2, HQ2.out.keep (KeepT.setCell (nt := 189) (a := ⟨g, 3, none⟩) (v := .pointer q2) HB5.out (by decide)), MapAt.of_block HM5.out (Below.heap_setCell _ _ _ _ (mapUnlike HM5.out HB5.out).symm), HE.out, by have h1 := putF_sz sd.lt s x T; have h2 := HZ.out; push_cast; omega, HBW5.out.setCell (p := ⟨g, 3, none⟩) HWG.out _⟩
          case measure => simp [intOf]; omega
      · have hd : decide (1 ≤ s.size ∧ s.size ≤ 32) = false := decide_eq_false hk
        have HE : Hid (R = (13, T)) := Lib.hid (by rw [← HR.out, ← HN.out]; simp only [newF]; rw [if_neg (show ¬ okName s from hk)])
        go_wp2_with fail
        refine HV1.out.mono ?_; rintro e w2 ⟨rfl, h2⟩
        rw [h2]; clear h2 w2
        rw [hd]
        clear hd hk
        go_wp2_with fail
        go_ret2
        exact .inr ⟨by rw [HE.out]; show (13 : Int) ≠ 0; decide, by rw [HE.out]; rfl, HBW.out⟩
    · obtain rfl : i = L.length := by omega
      have HE : Hid (R = (0, T)) := Lib.hid (by rw [← HR.out, ← hN, List.drop_length]; rfl)
      have HP := Lib.hid (And.intro hB (And.intro hI (And.intro hM hb)))
      clear hB hI hM hb hN hz
      go_wp2_with fail
      go_ret2
      refine .inl ⟨by rw [HE.out], g, W.heap.size, q, rfl, HWG.out, Nat.le_refl _, HP.out.1, by rw [HE.out]; exact HP.out.2.1, HP.out.2.2.1, HP.out.2.2.2⟩
end S
end Go.Proofs.Ytlfodhejpbjfcaa
namespace Go.Proofs.Ytlfodhejpbjfcaa
open Go.RowKit
namespace S
structure Tx where
  t : Nat
  r : Nat
  c : Nat
  n : Int
  q : Option Addr
  T : Tr ByteArray Int
  d : Bool
  rd : List (ByteArray × Bool)
  ch : List (ByteArray × (Int × Bool))
structure Bx where
  b : Nat
  m : Nat
  N : Int
  q : Option Addr
  T : Tr ByteArray Int
  last : List (ByteArray × Int)
def TxAt (W : World) (b : Nat) (x : Tx) : Prop := TxnC W x.t b x.n x.q x.r x.c x.d ∧ sd.Is W x.q x.T ∧ MapAt Value.bool W x.r x.rd ∧ MapAt evc W x.c x.ch ∧ x.r ≠ x.c
def BxAt (W : World) (X : Bx) : Prop := BoxC W X.b 0 X.N X.q X.m ∧ sd.Is W X.q X.T ∧ MapAt (Value.int .i64) W X.m X.last
/-- Two transactions whose blocks are not the same ones. -/
def Tx.apart (x y : Tx) : Prop := x.t ≠ y.t ∧ x.r ≠ y.r ∧ x.r ≠ y.c ∧ x.c ≠ y.r ∧ x.c ≠ y.c
def Bx.apart (X : Bx) (x : Tx) : Prop := X.m ≠ x.r ∧ X.m ≠ x.c
theorem Tx.apart.symm {x y : Tx} (h : x.apart y) : y.apart x := ⟨h.1.symm, h.2.1.symm, h.2.2.2.1.symm, h.2.2.1.symm, h.2.2.2.2.symm⟩
/-- Blocks that hold no node are all that has turned. -/
def Turn (S : List Nat) (W w' : World) : Prop := BL S W w' ∧ ∀ k ∈ S, NoNode W k
theorem TxAt.turn {W w' : World} {b : Nat} {y : Tx} {S : List Nat} (h : TxAt W b y) (hb : Turn S W w') (hS : ∀ k ∈ S, k ≠ y.t ∧ k ≠ y.r ∧ k ≠ y.c) : TxAt w' b y := by
  obtain ⟨h1, h2, h3, h4, h5⟩ := h
  exact ⟨hb.1.obj (fun e => (hS _ e).1 rfl) h1, isBl hb.1 hb.2 h2, MapAt.bl h3 hb.1 (fun e => (hS _ e).2.1 rfl), MapAt.bl h4 hb.1 (fun e => (hS _ e).2.2 rfl), h5⟩
theorem BxAt.turn {W w' : World} {X : Bx} {S : List Nat} (h : BxAt W X) (hb : Turn S W w') (hS : ∀ k ∈ S, k ≠ X.b ∧ k ≠ X.m) : BxAt w' X := by
  obtain ⟨h1, h2, h3⟩ := h
  exact ⟨hb.1.obj (fun e => (hS _ e).1 rfl) h1, isBl hb.1 hb.2 h2, MapAt.bl h3 hb.1 (fun e => (hS _ e).2 rfl)⟩
theorem TxAt.below {W w' : World} {b : Nat} {y : Tx} (h : TxAt W b y) (hb : Below W.heap.size W w') : TxAt w' b y := h.turn (S := []) ⟨.of hb, by simp⟩ (by simp)
theorem BxAt.below {W w' : World} {X : Bx} (h : BxAt W X) (hb : Below W.heap.size W w') : BxAt w' X := h.turn (S := []) ⟨.of hb, by simp⟩ (by simp)
theorem TxAt.ne {W : World} {b b' : Nat} {x y : Tx} (h : TxAt W b x) (k : TxAt W b' y) : x.t ≠ y.r ∧ x.t ≠ y.c ∧ x.r ≠ y.t ∧ x.c ≠ y.t := by
  obtain ⟨h1, h2, h3, h4, h5⟩ := h
  obtain ⟨k1, k2, k3, k4, k5⟩ := k
  exact ⟨mapUnlike k3 h1, mapUnlike k4 h1, (mapUnlike h3 k1).symm, (mapUnlike h4 k1).symm⟩
theorem BxAt.ne {W : World} {b' : Nat} {X : Bx} {y : Tx} (h : BxAt W X) (k : TxAt W b' y) : X.b ≠ y.t ∧ X.b ≠ y.r ∧ X.b ≠ y.c ∧ X.m ≠ y.t ∧ X.b ≠ X.m := by
  obtain ⟨h1, h2, h3⟩ := h
  obtain ⟨k1, k2, k3, k4, k5⟩ := k
  refine ⟨fun e => ?_, mapUnlike k3 h1, mapUnlike k4 h1, (mapUnlike h3 k1).symm, mapUnlike h3 h1⟩
  unfold BoxC at h1; unfold TxnC at k1
  rw [e, k1] at h1; cases h1
theorem TxAt.noNode {W : World} {b : Nat} {x : Tx} (h : TxAt W b x) : NoNode W x.t ∧ NoNode W x.r ∧ NoNode W x.c := ⟨.txn h.1, .map h.2.2.1, .map h.2.2.2.1⟩
theorem BxAt.noNode {W : World} {X : Bx} (h : BxAt W X) : NoNode W X.b ∧ NoNode W X.m := ⟨.box h.1, .map h.2.2⟩
/-- What a call on a transaction leaves standing. -/
theorem Turn.others {W w' : World} {X : Bx} {x y : Tx} (hx : TxAt W X.b x) (hX : BxAt W X) {S : List Nat} (ht : Turn S W w') (hs : ∀ k ∈ S, k = x.t ∨ k = x.r ∨ k = x.c ∨ k = X.b ∨ k = X.m) (hy : TxAt W X.b y) (h1 : x.apart y) (h2 : X.apart y) : TxAt w' X.b y := by
  refine hy.turn ht fun k hk => ?_
  have n1 := hx.ne hy; have n2 := hX.ne hy
  obtain ⟨a1, a2, a3, a4, a5⟩ := h1
  obtain ⟨n3, n4, n5, n6⟩ := n1
  obtain ⟨m1, m2, m3, m4, m5⟩ := n2
  obtain ⟨z1, z2⟩ := h2
  rcases hs k hk with rfl | rfl | rfl | rfl | rfl
  · exact ⟨a1, n3, n4⟩
  · exact ⟨n5, a2, a3⟩
  · exact ⟨n6, a4, a5⟩
  · exact ⟨m1, m2, m3⟩
  · exact ⟨m4, z1, z2⟩
/-- Where the box is not touched it stands. -/
theorem Turn.box {W w' : World} {X : Bx} {x : Tx} (hx : TxAt W X.b x) (hX : BxAt W X) (ha : X.apart x) {S : List Nat} (ht : Turn S W w') (hs : ∀ k ∈ S, k = x.t ∨ k = x.r ∨ k = x.c) : BxAt w' X := by
  refine hX.turn ht fun k hk => ?_
  obtain ⟨m1, m2, m3, m4, m5⟩ := hX.ne hx
  rcases hs k hk with rfl | rfl | rfl
  · exact ⟨m1.symm, m4.symm⟩
  · exact ⟨m2.symm, ha.1.symm⟩
  · exact ⟨m3.symm, ha.2.symm⟩
/-- What stands behind a call on x. -/
def Left (W w' : World) (X X' : Bx) (x x' : Tx) : Prop := TxAt w' X.b x' ∧ BxAt w' X' ∧ (∀ y, TxAt W X.b y → x.apart y → X.apart y → TxAt w' X.b y) ∧ BL [x.t, x.r, x.c, X.b, X.m] W w'

theorem tx_begin {W : World} {X : Bx} (h : BxAt W X) :
    Calls Try.prog 16 #[.pointer (some ⟨X.b, 0, none⟩)] W fun e w' => ∃ t r c, e = .returned (.pointer (some ⟨t, 0, none⟩)) ∧ W.heap.size ≤ t ∧ W.heap.size ≤ r ∧ W.heap.size ≤ c ∧ TxAt w' X.b ⟨t, r, c, X.N, X.q, X.T, false, [], []⟩ ∧ BxAt w' X ∧ (∀ y, TxAt W X.b y → TxAt w' X.b y) ∧ Below W.heap.size W w' := by
  refine (Begin_any h.1).mono ?_
  rintro e w' ⟨t, r, c, rfl, h1, h2, h3, h4, h5, h6, h7, h8⟩
  exact ⟨t, r, c, rfl, h1, h2, h3, ⟨h5, h.2.1.below h8, h6, h7, h4⟩, h.below h8, fun y hy => hy.below h8, h8⟩
theorem tx_get {W : World} {X : Bx} {x : Tx} (hX : BxAt W X) (hx : TxAt W X.b x) (ha : X.apart x) (s : ByteArray) (hs : s.size ≤ 9223372036854775807) (hl : x.rd.length < 1000000) :
    Calls Try.prog 17 #[.pointer (some ⟨x.t, 0, none⟩), .string s] W fun e w' => e = .returned (.tuple #[.int .i64 (getR x.d x.ch x.T s).1, errV (getR x.d x.ch x.T s).2]) ∧ Left W w' X X x { x with rd := readG x.d x.rd x.ch s } := by
  obtain ⟨h1, h2, h3, h4, h5⟩ := hx
  refine (Get_any h1 h2 h3 h4 s hs hl).mono ?_
  rintro e w' ⟨rfl, hb, hm⟩
  have hx : TxAt W X.b x := ⟨h1, h2, h3, h4, h5⟩
  have ht : Turn [x.r] W w' := ⟨.one hb (.inl (by simp)), by simp [hx.noNode]⟩
  refine ⟨rfl, ⟨hb.obj (mapUnlike h3 h1) h1, isKept h3 hb h2, hm, MapAt.bc h4 hb h5.symm, h5⟩, Turn.box hx hX ha ht (by simp), fun y hy a b => Turn.others hx hX ht (by simp) hy a b, ht.1.mono (by simp)⟩
theorem tx_put {W : World} {X : Bx} {x : Tx} (hX : BxAt W X) (hx : TxAt W X.b x) (ha : X.apart x) (s : ByteArray) (z : Int) (hs : s.size ≤ 9223372036854775807) (hl : x.ch.length < 1000000) :
    Calls Try.prog 24 #[.pointer (some ⟨x.t, 0, none⟩), .string s, .int .i64 z] W fun e w' => e = .returned (errV (chk x.d s)) ∧ Left W w' X X x { x with ch := putN x.d x.ch s z } := by
  obtain ⟨h1, h2, h3, h4, h5⟩ := hx
  refine (Put_any h1 h4 s z hs hl).mono ?_
  rintro e w' ⟨rfl, hb, hm⟩
  have hx : TxAt W X.b x := ⟨h1, h2, h3, h4, h5⟩
  have ht : Turn [x.c] W w' := ⟨.one hb (.inl (by simp)), by simp [hx.noNode]⟩
  refine ⟨rfl, ⟨hb.obj (mapUnlike h4 h1) h1, isKept h4 hb h2, MapAt.bc h3 hb h5, hm, h5⟩, Turn.box hx hX ha ht (by simp), fun y hy a b => Turn.others hx hX ht (by simp) hy a b, ht.1.mono (by simp)⟩
theorem tx_drop {W : World} {X : Bx} {x : Tx} (hX : BxAt W X) (hx : TxAt W X.b x) (ha : X.apart x) (s : ByteArray) (hs : s.size ≤ 9223372036854775807) (hl : x.rd.length < 1000000) (hl2 : x.ch.length < 1000000) :
    Calls Try.prog 25 #[.pointer (some ⟨x.t, 0, none⟩), .string s] W fun e w' => e = .returned (errV (dropE x.d x.ch x.T s)) ∧ Left W w' X X x { x with rd := readG x.d x.rd x.ch s, ch := dropN x.d x.ch x.T s } := by
  obtain ⟨h1, h2, h3, h4, h5⟩ := hx
  refine (Drop_any h1 h2 h3 h4 h5 s hs hl hl2).mono ?_
  rintro e w' ⟨rfl, hb, hm, hm2⟩
  have hx : TxAt W X.b x := ⟨h1, h2, h3, h4, h5⟩
  have ht : Turn [x.r, x.c] W w' := ⟨BL.two hb (by simp) (by simp), by simp [hx.noNode]⟩
  refine ⟨rfl, ⟨ht.1.obj (by have := mapUnlike h3 h1; have := mapUnlike h4 h1; simp; exact ⟨‹_›, ‹_›⟩) h1, isBl ht.1 ht.2 h2, hm, hm2, h5⟩, Turn.box hx hX ha ht (by simp), fun y hy a b => Turn.others hx hX ht (by simp) hy a b, ht.1.mono (by simp)⟩

/-- What Commit makes of the box, the number and the code that it answers. -/
def CommitR (X : Bx) (x : Tx) (X' : Bx) (n c : Int) : Prop :=
  (x.d = true ∧ X' = X ∧ n = 0 ∧ c = 7) ∨ (x.d = false ∧ x.ch = [] ∧ X' = X ∧ n = x.n ∧ c = 0) ∨
  (x.d = false ∧ x.ch ≠ [] ∧ (conf X.last x.n x.rd || conf X.last x.n x.ch) = true ∧ X' = X ∧ n = 0 ∧ c = 11) ∨
  (x.d = false ∧ x.ch ≠ [] ∧ (conf X.last x.n x.rd || conf X.last x.n x.ch) = false ∧ n = X.N + 1 ∧ c = 0 ∧ ∃ q' L, L.Perm x.ch ∧ X' = ⟨X.b, X.m, X.N + 1, q', appN X.T L, lastN X.last (X.N + 1) L⟩)
theorem tx_commit {W : World} {X : Bx} {x : Tx} (hX : BxAt W X) (hx : TxAt W X.b x) (ha : X.apart x)
    (hN : 0 ≤ X.N) (hN2 : X.N ≤ 1000000) (hn : 0 ≤ x.n) (hn2 : x.n ≤ 1000000) (hsz : X.T.sz + x.ch.length ≤ 800000) (hll : X.last.length + x.ch.length ≤ 800000) :
    Calls Try.prog 20 #[.pointer (some ⟨x.t, 0, none⟩)] W fun e w' => ∃ n c X', e = .returned (.tuple #[.int .i64 n, errV c]) ∧ CommitR X x X' n c ∧ X'.b = X.b ∧ X'.m = X.m ∧ Left W w' X X' x { x with d := true } := by
  obtain ⟨h1, h2, h3, h4, h5⟩ := hx
  obtain ⟨t, r, c, n, q, T, d, rd, ch⟩ := x
  dsimp only at *
  have hx : TxAt W X.b ⟨t, r, c, n, q, T, d, rd, ch⟩ := ⟨h1, h2, h3, h4, h5⟩
  cases d with
  | true =>
    refine (Commit_done h1).mono ?_
    rintro e w' ⟨rfl, rfl⟩
    exact ⟨0, 7, X, rfl, .inl ⟨rfl, rfl, rfl, rfl⟩, rfl, rfl, hx, hX, fun y hy _ _ => hy, .refl _ _⟩
  | false =>
    by_cases hc : ch = []
    · subst hc
      refine (Commit_empty h1 h4).mono ?_
      rintro e w' ⟨rfl, hb, h1'⟩
      have ht : Turn [t] W w' := ⟨.one hb (.inl (by simp)), by simp [NoNode.txn h1]⟩
      refine ⟨n, 0, X, rfl, .inr (.inl ⟨rfl, rfl, rfl, rfl, rfl⟩), rfl, rfl, ⟨h1', isBl ht.1 ht.2 h2, MapAt.bc h3 hb (mapUnlike h3 h1).symm, MapAt.bc h4 hb (mapUnlike h4 h1).symm, h5⟩, Turn.box hx hX ha ht (by simp), fun y hy a b => Turn.others hx hX ht (by simp) hy a b, ht.1.mono (by simp)⟩
    · obtain ⟨g1, g2, g3⟩ := hX
      have hX : BxAt W X := ⟨g1, g2, g3⟩
      refine (Commit_some g1 h1 g2 h3 h4 g3 ha.1 ha.2 hc hN hN2 hn hn2 hsz hll).mono ?_
      rintro e w' ⟨hp, h1'⟩
      unfold MadePost at hp
      rcases hp with ⟨hC, rfl, hb⟩ | ⟨hC, rfl, q', L, hL, k1, k2, k3, hb⟩
      · have ht : Turn [t] W w' := ⟨hb, by simp [NoNode.txn h1]⟩
        refine ⟨0, 11, X, rfl, .inr (.inr (.inl ⟨rfl, hc, hC, rfl, rfl, rfl⟩)), rfl, rfl, ⟨h1', isBl ht.1 ht.2 h2, MapAt.bl h3 hb (by simpa using (mapUnlike h3 h1).symm), MapAt.bl h4 hb (by simpa using (mapUnlike h4 h1).symm), h5⟩, Turn.box hx hX ha ht (by simp), fun y hy a b => Turn.others hx hX ht (by simp) hy a b, ht.1.mono (by simp)⟩
      · have ht : Turn [t, X.b, X.m] W w' := ⟨hb, by simp [NoNode.txn h1, hX.noNode]⟩
        have n1 := hX.ne hx
        refine ⟨X.N + 1, 0, ⟨X.b, X.m, X.N + 1, q', appN X.T L, lastN X.last (X.N + 1) L⟩, rfl, .inr (.inr (.inr ⟨rfl, hc, hC, rfl, rfl, q', L, hL, rfl⟩)), rfl, rfl, ⟨h1', isBl ht.1 ht.2 h2, MapAt.bl h3 hb ?_, MapAt.bl h4 hb ?_, h5⟩, ⟨k1, k2, k3⟩, fun y hy a b => Turn.others hx hX ht (by simp) hy a b, ht.1.mono (by simp)⟩
        · have e1 := (mapUnlike h3 h1).symm; have e2 := n1.2.1; have e3 := ha.1
          simp only [List.mem_cons, List.not_mem_nil, or_false, not_or]; exact ⟨e1, e2.symm, e3.symm⟩
        · have e1 := (mapUnlike h4 h1).symm; have e2 := n1.2.2.1; have e3 := ha.2
          simp only [List.mem_cons, List.not_mem_nil, or_false, not_or]; exact ⟨e1, e2.symm, e3.symm⟩
end S
end Go.Proofs.Ytlfodhejpbjfcaa
namespace Go.Proofs.Ytlfodhejpbjfcaa
open Go.RowKit
namespace S
attribute [local go_sem] Oper.semAt_some

set_option maxRecDepth 100000 in
theorem num_nil (W : World) : Calls Try.prog 23 #[.nilIface] W fun e w' => e = .returned (.int .i64 0) ∧ w' = W := by
  go_enter Try.func23, Try.ntmps23
  go_wp2_with fail
  go_ret
  exact ⟨rfl, rfl⟩
set_option maxRecDepth 100000 in
theorem num_err (W : World) (c : Int) : Calls Try.prog 23 #[err c] W fun e w' => e = .returned (.int .i64 c) ∧ w' = W := by
  have hta : ∀ w : World, (Instr.typeAssert (.iface 60 (.int .i64 c)) 51 60 true).run Try.prog w = .ok (.tuple #[.int .i64 c, .bool true]) w := fun _ => by kernel_rfl
  unfold err
  go_enter Try.func23, Try.ntmps23
  go_wp2_with fail
  go_ret
  exact ⟨rfl, rfl⟩
theorem num_any (W : World) (c : Int) : Calls Try.prog 23 #[errV c] W fun e w' => e = .returned (.int .i64 c) ∧ w' = W := by
  unfold errV
  by_cases h : c = 0
  · rw [if_pos h, h]; exact num_nil W
  · rw [if_neg h]; exact num_err W c
set_option maxRecDepth 100000 in
theorem is_err (W : World) (c k : Int) (hk : k ≠ 0) : Calls Try.prog 22 #[err c, .int .i64 k] W fun e w' => e = .returned (.bool (decide (c = k))) ∧ w' = W := by
  have hkb : (k != 0) = true := by simpa using hk
  by_cases h : c = k
  · subst h
    go_enter Try.func22, Try.ntmps22
    go_wp2_with fail
    refine (num_err W c).mono ?_; rintro e w1 ⟨rfl, rfl⟩
    go_wp2_with fail
    go_ret
    exact ⟨by simp, rfl⟩
  · have hb : (c == k) = false := by simpa using h
    go_enter Try.func22, Try.ntmps22
    go_wp2_with fail
    refine (num_err W c).mono ?_; rintro e w1 ⟨rfl, rfl⟩
    go_wp2_with fail
    go_ret
    exact ⟨by simp [h], rfl⟩
end S
end Go.Proofs.Ytlfodhejpbjfcaa
namespace Go.Proofs.Ytlfodhejpbjfcaa
open Go.RowKit
abbrev ActL := Nat × Nat × ByteArray × Int
/-- A slice of acts, wherever it lies. -/
def RowAct (W : World) (v : Value) (L : List ActL) : Prop :=
  ∃ a cap, v = .slice a L.length cap ∧ L.length ≤ cap ∧ cap ≤ maxLen ∧ (∀ x ∈ L, x.1 < 256 ∧ x.2.1 < 256 ∧ x.2.2.1.size ≤ maxLen) ∧ ∀ (i : Nat) (h : i < L.length), ∃ b, a = some b ∧
    W.cell? (b.add (i * 4)) = some (.int .u8 (L[i].1 : Int)) ∧ W.cell? ⟨(b.add (i * 4)).block, (b.add (i * 4)).off + 1, none⟩ = some (.int .u8 (L[i].2.1 : Int)) ∧
    W.cell? ⟨(b.add (i * 4)).block, (b.add (i * 4)).off + 2, none⟩ = some (.string L[i].2.2.1) ∧ W.cell? ⟨(b.add (i * 4)).block, (b.add (i * 4)).off + 3, none⟩ = some (.int .i64 L[i].2.2.2)
theorem RowAct.below {A C : World} {v : Value} {L : List ActL} (h : RowAct A v L) (hb : Below A.heap.size A C) : RowAct C v L := by
  obtain ⟨a, cap, rfl, h1, h2, h3, h⟩ := h
  exact ⟨a, cap, rfl, h1, h2, h3, fun i hi => (h i hi).imp fun b hh => ⟨hh.1, cell_on hh.2.1 hb, cell_on hh.2.2.1 hb, cell_on hh.2.2.2.1 hb, cell_on hh.2.2.2.2 hb⟩⟩
end Go.Proofs.Ytlfodhejpbjfcaa
