/- Slices of named texts; the box that New makes. -/
import Derived.Test.YtlfodhejpbjfcaaSess5
namespace Go.Proofs.Ytlfodhejpbjfcaa
open Go.RowKit
/-- A slice of named texts, wherever it lies. -/
def RowNm (W : World) (v : Value) (L : List (ByteArray × Int)) : Prop :=
  ∃ a cap, v = .slice a L.length cap ∧ L.length ≤ cap ∧ cap ≤ maxLen ∧ (∀ p ∈ L, p.1.size ≤ maxLen) ∧ ∀ (i : Nat) (h : i < L.length), ∃ b, a = some b ∧ W.cell? (b.add (i * 2)) = some (.string L[i].1) ∧ W.cell? ⟨(b.add (i * 2)).block, (b.add (i * 2)).off + 1, none⟩ = some (.int .i64 L[i].2)
theorem cell_on {A C : World} {a : Addr} {v : Value} (h : A.cell? a = some v) (hb : Below A.heap.size A C) : C.cell? a = some v := by
  have h2 := h
  unfold World.cell? at h ⊢
  cases hh : A.heap[a.block]? with
  | none => rw [hh] at h; cases h
  | some o =>
    rw [hb.block a.block (Array.getElem?_eq_some_iff.1 hh).1]
    exact h
theorem RowNm.below {A C : World} {v : Value} {L : List (ByteArray × Int)} (h : RowNm A v L) (hb : Below A.heap.size A C) : RowNm C v L := by
  obtain ⟨a, cap, rfl, h1, h2, h3, h⟩ := h
  exact ⟨a, cap, rfl, h1, h2, h3, fun i hi => (h i hi).imp fun b hh => ⟨hh.1, cell_on hh.2.1 hb, cell_on hh.2.2 hb⟩⟩
namespace S
attribute [local go_sem] Oper.semAt_some
/-- What New makes of the list, from a tree on: the error's code and the tree. -/
def newF : List (ByteArray × Int) → Tr ByteArray Int → Int × Tr ByteArray Int
  | [], T => (0, T)
  | p :: l, T => if okName p.1 then (match findF sd.lt p.1 T with | .nil => newF l (putF sd.lt p.1 p.2 T) | .node .. => (6, T)) else (13, T)
/-- What New answers. -/
def NewPost (W : World) (R : Int × Tr ByteArray Int) (e : Ending) (w' : World) : Prop :=
  (R.1 = 0 ∧ ∃ b m q, e = .returned (.tuple #[.pointer (some ⟨b, 0, none⟩), .nilIface]) ∧ W.heap.size ≤ b ∧ W.heap.size ≤ m ∧ BoxC w' b 0 0 q m ∧ sd.Is w' q R.2 ∧ MapAt (Value.int .i64) w' m [] ∧ Below W.heap.size W w') ∨
  (R.1 ≠ 0 ∧ e = .returned (.tuple #[.pointer none, err R.1]) ∧ Below W.heap.size W w')
/-- Ahead of each round. -/
def Newing (W : World) (g m : Nat) (L : List (ByteArray × Int)) (i : Nat) (wr : World) : Prop :=
  ∃ q T, BoxC wr g 0 0 q m ∧ sd.Is wr q T ∧ MapAt (Value.int .i64) wr m [] ∧ newF (L.drop i) T = newF L .nil ∧ T.sz ≤ i ∧ Below W.heap.size W wr
theorem BoxC.put1 {W : World} {b m : Nat} {l N : Int} {Q : Option Addr} (h : BoxC W b l N Q m) (Q' : Option Addr) : BoxC (W.setCell ⟨b, 3, none⟩ (.pointer Q')) b l N Q' m := by
  unfold BoxC at h ⊢
  rw [heap_set0 _ h]; rfl
def gvx : Tr ByteArray Int → Int
  | .nil => 0
  | .node _ _ v _ => v
def gvb : Tr ByteArray Int → Bool
  | .nil => false
  | .node .. => true
theorem getV_eq (F : Tr ByteArray Int) : sd.getV F = .tuple #[.int .i64 (gvx F), .bool (gvb F)] := by cases F <;> rfl
set_option maxRecDepth 100000 in
set_option maxHeartbeats 4000000 in
theorem New_any {W : World} {v : Value} {L : List (ByteArray × Int)} (hL : RowNm W v L) (hl : L.length ≤ 1000) :
    Calls Try.prog 33 #[v] W (NewPost W (newF L .nil)) := by
  have HF : ∀ f, Fence.wide.fn f := fun _ => trivial
  have hmm := @run_makeMap Try.prog
  have H := Lib.hid hL
  obtain ⟨a, cap, rfl, hc1, hc2, -, -⟩ := hL
  unfold maxLen at hc2
  obtain ⟨R, hR⟩ : ∃ R, newF L .nil = R := ⟨_, rfl⟩
  have HR := Lib.hid hR
  rw [hR]
  obtain ⟨W1, hW1⟩ : ∃ W1, (W.alloc (.map #[] 0)).alloc (.cells #[.int .i32 0, .int .u32 0, .int .i64 0, .pointer none, .map (some W.heap.size)] 158) = W1 := ⟨_, rfl⟩
  have HST : Hid (Newing W (W.heap.size + 1) W.heap.size L 0 W1) := Lib.hid (by
    rw [← hW1]
    have hm := MapAt.made (Value.int .i64) W
    refine ⟨none, .nil, ?_, rfl, hm.below ((Below.refl _ _).alloc (Nat.le_refl _) _), rfl, by simp [Tr.sz], ((Below.refl _ W).alloc (Nat.le_refl _) _).alloc (by simp) _⟩
    have := heap_new (W.alloc (.map #[] 0)) (.cells #[.int .i32 0, .int .u32 0, .int .i64 0, .pointer none, .map (some W.heap.size)] 158)
    rw [World.size_alloc] at this
    exact this)
  have HG := Lib.hid (And.intro (Nat.le_refl W.heap.size) (Nat.le_succ W.heap.size))
  clear hR
  go_enter Try.func33, Try.ntmps33
  go_wp2_with fail
  clear hmm hW1
  obtain ⟨g, hg⟩ : ∃ g, W.heap.size + 1 = g := ⟨_, rfl⟩
  rw [hg] at HST ⊢
  have hWg : W.heap.size ≤ g := by omega
  have HWG := Lib.hid hWg
  clear hg hWg HG
  go_loopw [14] (fun c wr => ∃ i : Nat, i ≤ L.length ∧ c = .int .i64 i ∧ Newing W g W.heap.size L i wr) (fun c _ => L.length - (intOf c).toNat)
  case atStart => exact ⟨0, Nat.zero_le _, rfl, HST.out⟩
  case round =>
    obtain ⟨i, hi, rfl, hN⟩ := hrel
    obtain ⟨q, T, hB, hI, hM, hN, hz, hb⟩ := hN
    by_cases hlt : i < L.length
    · have hi3 : (i : Int) < (L.length : Int) := by omega
      have hi4 : (0 : Int) ≤ (i : Int) := by omega
      obtain ⟨a', cap', he, -, -, hss, hc⟩ := H.out
      simp only [Value.slice.injEq] at he
      obtain ⟨rfl, -, rfl⟩ := he
      obtain ⟨b', rfl, m0, m1⟩ := hc i hlt
      have m0 := cell_on m0 hb; have m1 := cell_on m1 hb
      have hps : L[i].1.size ≤ 9223372036854775807 := by have := hss _ (List.getElem_mem hlt); unfold maxLen at this; exact this
      have hdr : L.drop i = L[i] :: L.drop (i + 1) := List.drop_eq_getElem_cons hlt
      rw [hdr] at hN
      have HN := Lib.hid hN
      generalize L[i] = p at *
      obtain ⟨s, x⟩ := p
      dsimp only at m0 m1 hps
      obtain ⟨wy, hwy⟩ : ∃ w, wr.alloc (.cells #[.string ⟨#[]⟩, .int .i64 0] 49) = w := ⟨_, rfl⟩
      have ny : wy.heap[wr.heap.size]? = some (.cells #[.string ⟨#[]⟩, .int .i64 0] 49 (0, 0)) := by rw [← hwy]; exact heap_new _ _
      have hby : Below wr.heap.size wr wy := by rw [← hwy]; exact (Below.refl _ _).alloc (Nat.le_refl _) _
      have y0 : wy.cell? ⟨wr.heap.size, 0, none⟩ = some (.string ⟨#[]⟩) := by simp [World.cell?, ny]
      have y1 : wy.cell? ⟨wr.heap.size, 1, none⟩ = some (.int .i64 0) := by simp [World.cell?, ny]
      have y2 : wy.frozen? ⟨wr.heap.size, 0, none⟩ = false := by simp [World.frozen?, ny]
      have y3 : wy.frozen? ⟨wr.heap.size, 1, none⟩ = false := by simp [World.frozen?, ny]
      obtain ⟨w1, hw1⟩ : ∃ w, (wy.setCell ⟨wr.heap.size, 0, none⟩ (.string s)).setCell ⟨wr.heap.size, 1, none⟩ (.int .i64 x) = w := ⟨_, rfl⟩
      have hb1 : Below wr.heap.size wr w1 := by rw [← hw1]; exact (hby.setCell (p := ⟨wr.heap.size, 0, none⟩) (Nat.le_refl _) _).setCell (p := ⟨wr.heap.size, 1, none⟩) (Nat.le_refl _) _
      have n1 : w1.heap[wr.heap.size]? = some (.cells #[.string s, .int .i64 x] 49 (0, 0)) := by
        rw [← hw1]; exact heap_set0 (.int .i64 x) (heap_set0 (.string s) ny)
      have x0 : w1.cell? ⟨wr.heap.size, 0, none⟩ = some (.string s) := by simp [World.cell?, n1]
      have H1 := Lib.hid n1
      have HB1 := Lib.hid (show BoxC w1 g 0 0 q W.heap.size from box_below hb1 hB); have HI1 := Lib.hid (hI.below hb1); have HM1 := Lib.hid (hM.below hb1); have HBW := Lib.hid (hb.trans (hb1.mono hb.size)); have HZ := Lib.hid hz
      have HV1 := Lib.hid (valid_any w1 s hps)
      clear hB hI hM hN hz hb hb1 hss hc ny hby n1 hdr hps
      by_cases hk : 1 ≤ s.size ∧ s.size ≤ 32
      · have hd : decide (1 ≤ s.size ∧ s.size ≤ 32) = true := decide_eq_true hk
        have hg1 : ∀ w, Below w1.heap.size w1 w → w.cell? ⟨g, 3, none⟩ = some (.pointer q) := fun w hw => (BoxC.cells (box_below hw HB1.out)).2.2.1
        have hs1 : ∀ w, Below w1.heap.size w1 w → w.cell? ⟨wr.heap.size, 0, none⟩ = some (.string s) := fun w hw => by have := box_below hw H1.out; simp [World.cell?, this]
        have hs2 : ∀ w, Below w1.heap.size w1 w → w.cell? ⟨wr.heap.size, 1, none⟩ = some (.int .i64 x) := fun w hw => by have := box_below hw H1.out; simp [World.cell?, this]
        have HN2 : Hid ((match findF sd.lt s T with | .nil => newF (L.drop (i + 1)) (putF sd.lt s x T) | .node .. => (6, T)) = newF L .nil) := Lib.hid (by rw [← HN.out]; simp only [newF]; rw [if_pos (show okName s from hk)])
        go_wp2_with fail
        refine HV1.out.mono ?_; rintro e w2 ⟨rfl, h2⟩
        rw [h2]; clear h2 w2
        rw [hd]
        clear hd hk m0 m1 y0 y1 y2 y3 hwy hw1 x0
        go_wp2_with fail
        refine wp_region_anyH (Below w1.heap.size w1) (by kernel_rfl) ?_
        obtain ⟨F, hF⟩ : ∃ F, findF sd.lt s T = F := ⟨_, rfl⟩
        have HFF := Lib.hid hF
        have B0 : Below w1.heap.size w1 w1.drew := (Below.refl _ _).drew
        refine AnyH.take (i := 0) (d := some 24) (v := ?_) (by kernel_rfl) rfl rfl HF (fun _ _ _ h => h) (.inl ⟨by rfl, ?_⟩) (by first | assumption | rfl) ?_
        rotate_left
        · intro w hS; try subst hS
          go_simp; try with_reducible rfl
        try simp only [Act.put, List.setIfInBounds_toArray, List.set_cons_zero, List.set_cons_succ]
        refine AnyH.take (i := 1) (d := some 25) (v := ?_) (by kernel_rfl) rfl rfl HF (fun _ _ _ h => h) (.inl ⟨by rfl, ?_⟩) (by first | assumption | rfl) ?_
        rotate_left
        · intro w hS; try subst hS
          go_simp; try with_reducible rfl
        try simp only [Act.put, List.setIfInBounds_toArray, List.set_cons_zero, List.set_cons_succ]
        refine AnyH.take (i := 2) (d := some 26) (v := ?_) (by kernel_rfl) rfl rfl HF (fun _ _ _ h => h) (.inl ⟨by rfl, ?_⟩) (by first | assumption | rfl) ?_
        rotate_left
        · intro w hS; try subst hS
          go_simp; try with_reducible rfl
        try simp only [Act.put, List.setIfInBounds_toArray, List.set_cons_zero, List.set_cons_succ]
        refine AnyH.take (i := 3) (d := some 27) (v := ?_) (by kernel_rfl) rfl rfl HF (fun _ _ _ h => h) (.inl ⟨by rfl, ?_⟩) (by first | assumption | rfl) ?_
        rotate_left
        · intro w hS; try subst hS
          go_simp; try with_reducible rfl
        try simp only [Act.put, List.setIfInBounds_toArray, List.set_cons_zero, List.set_cons_succ]
        refine AnyH.take (i := 4) (d := some 28) (v := ?_) (by kernel_rfl) rfl rfl HF (fun _ _ _ h => h) (.inl ⟨by rfl, ?_⟩) (by first | assumption | rfl) ?_
        rotate_left
        · intro w hS; try subst hS
          go_simp; try with_reducible rfl
        try simp only [Act.put, List.setIfInBounds_toArray, List.set_cons_zero, List.set_cons_succ]
        refine AnyH.take (i := 5) (d := some 29) (v := ?_) (by kernel_rfl) rfl rfl HF (fun _ _ _ h => h) (.inl ⟨by rfl, ?_⟩) (by first | assumption | rfl) ?_
        rotate_left
        · intro w hS; try subst hS
          go_simp; try with_reducible rfl
        try simp only [Act.put, List.setIfInBounds_toArray, List.set_cons_zero, List.set_cons_succ]
        refine AnyH.take (i := 6) (d := some 30) (v := ?_) (by kernel_rfl) rfl rfl HF (fun _ _ _ h => h) (.inl ⟨by rfl, ?_⟩) (by first | assumption | rfl) ?_
        rotate_left
        · intro w hS; try subst hS
          go_simp; try with_reducible rfl
        try simp only [Act.put, List.setIfInBounds_toArray, List.set_cons_zero, List.set_cons_succ]
        refine AnyH.one (i := 7) (by kernel_rfl) (by kernel_rfl) rfl HF (by rfl) (fun K hK => ?_)
        go_simp
        first | ((with_reducible refine And.intro ?hdep ?_); (case hdep => first | rfl | (intro h; cases h))) | skip
        refine callsIn_wide.2 ((sd.Get_any s (HI1.out.below B0)).mono ?_)
        rintro e w3 ⟨rfl, b3⟩
        have B3 := Below.step B0 b3
        clear b3
        rw [hF, getV_eq]
        clear hF
        refine hK _ _ B3 ?_
        clear hK K
        try simp only [Act.put, List.setIfInBounds_toArray, List.set_cons_zero, List.set_cons_succ]
        refine AnyH.take (i := 8) (d := some 23) (v := ?_) (by kernel_rfl) rfl rfl HF (fun _ _ _ h => h) (.inl ⟨by rfl, ?_⟩) (by first | assumption | rfl) ?_
        rotate_left
        · intro w hS; try subst hS
          go_simp; try with_reducible rfl
        try simp only [Act.put, List.setIfInBounds_toArray, List.set_cons_zero, List.set_cons_succ]
        refine AnyH.take (i := 9) (d := some 32) (v := ?_) (by kernel_rfl) rfl rfl HF (fun _ _ _ h => h) (.inl ⟨by rfl, ?_⟩) (by first | assumption | rfl) ?_
        rotate_left
        · intro w hS; try subst hS
          go_simp; try with_reducible rfl
        try simp only [Act.put, List.setIfInBounds_toArray, List.set_cons_zero, List.set_cons_succ]
        refine AnyH.take (i := 10) (d := some 33) (v := ?_) (by kernel_rfl) rfl rfl HF (fun _ _ _ h => h) (.inl ⟨by rfl, ?_⟩) (by first | assumption | rfl) ?_
        rotate_left
        · intro w hS; try subst hS
          go_simp; try with_reducible rfl
        try simp only [Act.put, List.setIfInBounds_toArray, List.set_cons_zero, List.set_cons_succ]
        refine AnyH.take (i := 11) (d := some 7) (v := ?_) (by kernel_rfl) rfl rfl HF (fun _ _ _ h => h) (.inl ⟨by rfl, ?_⟩) (by first | assumption | rfl) ?_
        rotate_left
        · intro w hS; try subst hS
          go_simp; try with_reducible rfl
        try simp only [Act.put, List.setIfInBounds_toArray, List.set_cons_zero, List.set_cons_succ]
        refine AnyH.take (i := 12) (d := some 8) (v := ?_) (by kernel_rfl) rfl rfl HF (fun _ _ _ h => h) (.inl ⟨by rfl, ?_⟩) (by first | assumption | rfl) ?_
        rotate_left
        · intro w hS; try subst hS
          go_simp; try with_reducible rfl
        try simp only [Act.put, List.setIfInBounds_toArray, List.set_cons_zero, List.set_cons_succ]
        refine AnyH.done (by kernel_rfl) ?_
        cases F with
        | node fl fk fv fr =>
          have HE : Hid (R = (6, T)) := Lib.hid (by rw [← HR.out, ← HN2.out, HFF.out])
          have HB3 := Lib.hid (HBW.out.trans (B3.mono HBW.out.size))
          clear hg1 hs1 hs2 B0 B3
          simp only [gvx, gvb]
          go_wp2_with fail
          go_ret2
          exact .inr ⟨by rw [HE.out]; show (6 : Int) ≠ 0; decide, by rw [HE.out]; rfl, HB3.out⟩
        | nil =>
          have HE : Hid (newF (L.drop (i + 1)) (putF sd.lt s x T) = newF L .nil) := Lib.hid (by rw [← HN2.out, HFF.out])
          obtain ⟨w4, hw4⟩ : ∃ w, w3.drew = w := ⟨_, rfl⟩
          have B4 : Below w1.heap.size w1 w4 := by rw [← hw4]; exact B3.drew
          have HI4 := Lib.hid (HI1.out.below B4)
          simp only [gvx, gvb]
          go_wp2_with fail
          refine wp_region_anyH (Below w1.heap.size w1) (by kernel_rfl) ?_
          rw [hw4]
          clear B0 B3 hw4
          refine AnyH.take (i := 0) (d := some 36) (v := ?_) (by kernel_rfl) rfl rfl HF (fun _ _ _ h => h) (.inl ⟨by rfl, ?_⟩) (by first | assumption | rfl) ?_
          rotate_left
          · intro w hS; try subst hS
            go_simp; try with_reducible rfl
          try simp only [Act.put, List.setIfInBounds_toArray, List.set_cons_zero, List.set_cons_succ]
          refine AnyH.take (i := 1) (d := some 37) (v := ?_) (by kernel_rfl) rfl rfl HF (fun _ _ _ h => h) (.inl ⟨by rfl, ?_⟩) (by first | assumption | rfl) ?_
          rotate_left
          · intro w hS; try subst hS
            go_simp; try with_reducible rfl
          try simp only [Act.put, List.setIfInBounds_toArray, List.set_cons_zero, List.set_cons_succ]
          refine AnyH.take (i := 2) (d := some 38) (v := ?_) (by kernel_rfl) rfl rfl HF (fun _ _ _ h => h) (.inl ⟨by rfl, ?_⟩) (by first | assumption | rfl) ?_
          rotate_left
          · intro w hS; try subst hS
            go_simp; try with_reducible rfl
          try simp only [Act.put, List.setIfInBounds_toArray, List.set_cons_zero, List.set_cons_succ]
          refine AnyH.take (i := 3) (d := some 39) (v := ?_) (by kernel_rfl) rfl rfl HF (fun _ _ _ h => h) (.inl ⟨by rfl, ?_⟩) (by first | assumption | rfl) ?_
          rotate_left
          · intro w hS; try subst hS
            go_simp; try with_reducible rfl
          try simp only [Act.put, List.setIfInBounds_toArray, List.set_cons_zero, List.set_cons_succ]
          refine AnyH.take (i := 4) (d := some 40) (v := ?_) (by kernel_rfl) rfl rfl HF (fun _ _ _ h => h) (.inl ⟨by rfl, ?_⟩) (by first | assumption | rfl) ?_
          rotate_left
          · intro w hS; try subst hS
            go_simp; try with_reducible rfl
          try simp only [Act.put, List.setIfInBounds_toArray, List.set_cons_zero, List.set_cons_succ]
          refine AnyH.take (i := 5) (d := some 41) (v := ?_) (by kernel_rfl) rfl rfl HF (fun _ _ _ h => h) (.inl ⟨by rfl, ?_⟩) (by first | assumption | rfl) ?_
          rotate_left
          · intro w hS; try subst hS
            go_simp; try with_reducible rfl
          try simp only [Act.put, List.setIfInBounds_toArray, List.set_cons_zero, List.set_cons_succ]
          refine AnyH.take (i := 6) (d := some 42) (v := ?_) (by kernel_rfl) rfl rfl HF (fun _ _ _ h => h) (.inl ⟨by rfl, ?_⟩) (by first | assumption | rfl) ?_
          rotate_left
          · intro w hS; try subst hS
            go_simp; try with_reducible rfl
          try simp only [Act.put, List.setIfInBounds_toArray, List.set_cons_zero, List.set_cons_succ]
          refine AnyH.take (i := 7) (d := some 43) (v := ?_) (by kernel_rfl) rfl rfl HF (fun _ _ _ h => h) (.inl ⟨by rfl, ?_⟩) (by first | assumption | rfl) ?_
          rotate_left
          · intro w hS; try subst hS
            go_simp; try with_reducible rfl
          try simp only [Act.put, List.setIfInBounds_toArray, List.set_cons_zero, List.set_cons_succ]
          refine AnyH.take (i := 8) (d := some 44) (v := ?_) (by kernel_rfl) rfl rfl HF (fun _ _ _ h => h) (.inl ⟨by rfl, ?_⟩) (by first | assumption | rfl) ?_
          rotate_left
          · intro w hS; try subst hS
            go_simp; try with_reducible rfl
          try simp only [Act.put, List.setIfInBounds_toArray, List.set_cons_zero, List.set_cons_succ]
          refine AnyH.take (i := 9) (d := some 45) (v := ?_) (by kernel_rfl) rfl rfl HF (fun _ _ _ h => h) (.inl ⟨by rfl, ?_⟩) (by first | assumption | rfl) ?_
          rotate_left
          · intro w hS; try subst hS
            go_simp; try with_reducible rfl
          try simp only [Act.put, List.setIfInBounds_toArray, List.set_cons_zero, List.set_cons_succ]
          refine AnyH.one (i := 10) (by kernel_rfl) (by kernel_rfl) rfl HF (by rfl) (fun K hK => ?_)
          go_simp
          first | ((with_reducible refine And.intro ?hdep ?_); (case hdep => first | rfl | (intro h; cases h))) | skip
          refine callsIn_wide.2 ((sd.Put_any s x HI4.out (by have := HZ.out; omega)).mono ?_)
          rintro e w5 ⟨q2, rfl, hq2, b5⟩
          have B5 := Below.step B4 b5
          have HQ2 := Lib.hid hq2
          clear b5 hq2
          refine hK _ _ B5 ?_
          clear hK K
          try simp only [Act.put, List.setIfInBounds_toArray, List.set_cons_zero, List.set_cons_succ]
          refine AnyH.take (i := 11) (d := some 47) (v := ?_) (by kernel_rfl) rfl rfl HF (fun _ _ _ h => h) (.inl ⟨by rfl, ?_⟩) (by first | assumption | rfl) ?_
          rotate_left
          · intro w hS; try subst hS
            go_simp; try with_reducible rfl
          try simp only [Act.put, List.setIfInBounds_toArray, List.set_cons_zero, List.set_cons_succ]
          refine AnyH.take (i := 12) (d := some 48) (v := ?_) (by kernel_rfl) rfl rfl HF (fun _ _ _ h => h) (.inl ⟨by rfl, ?_⟩) (by first | assumption | rfl) ?_
          rotate_left
          · intro w hS; try subst hS
            go_simp; try with_reducible rfl
          try simp only [Act.put, List.setIfInBounds_toArray, List.set_cons_zero, List.set_cons_succ]
          refine AnyH.take (i := 13) (d := some 49) (v := ?_) (by kernel_rfl) rfl rfl HF (fun _ _ _ h => h) (.inl ⟨by rfl, ?_⟩) (by first | assumption | rfl) ?_
          rotate_left
          · intro w hS; try subst hS
            go_simp; try with_reducible rfl
          try simp only [Act.put, List.setIfInBounds_toArray, List.set_cons_zero, List.set_cons_succ]
          refine AnyH.tailL 14 (by kernel_rfl) ?_
          simp only [List.drop_succ_cons, List.drop_zero]
          have hB5 : BoxC w5 g 0 0 q W.heap.size := box_below B5 HB1.out
          obtain ⟨-, -, k3, -, -, -, e3, -⟩ := BoxC.cells hB5
          have HB5 := Lib.hid hB5; have HM5 := Lib.hid (HM1.out.below B5)
          have HBW5 := Lib.hid (HBW.out.trans (B5.mono HBW.out.size))
          clear hB5 hg1 hs1 hs2
          gi_wp2_with fail
          go_wp2_with fail
          go_roundw
          case rel => exact ⟨i + 1, by omega, by go_num, q2, _, BoxC.put1 HB5.out q2, HQ2.out.keep (KeepT.setCell (nt := 189) (a := ⟨g, 3, none⟩) (v := .pointer q2) HB5.out (by decide)), MapAt.of_block HM5.out (Below.heap_setCell _ _ _ _ (mapUnlike HM5.out HB5.out).symm), HE.out, by have h1 := putF_sz sd.lt s x T; have h2 := HZ.out; push_cast; omega, HBW5.out.setCell (p := ⟨g, 3, none⟩) HWG.out _⟩
          case measure => simp [intOf]; omega
      · have hd : decide (1 ≤ s.size ∧ s.size ≤ 32) = false := decide_eq_false hk
        have HE : Hid (R = (13, T)) := Lib.hid (by rw [← HR.out, ← HN.out]; simp only [newF]; rw [if_neg (show ¬ okName s from hk)])
        go_wp2_with fail
        refine HV1.out.mono ?_; rintro e w2 ⟨rfl, h2⟩
        rw [h2]; clear h2 w2
        rw [hd]
        clear hd hk
        go_wp2_with fail
        go_ret2
        exact .inr ⟨by rw [HE.out]; show (13 : Int) ≠ 0; decide, by rw [HE.out]; rfl, HBW.out⟩
    · obtain rfl : i = L.length := by omega
      have HE : Hid (R = (0, T)) := Lib.hid (by rw [← HR.out, ← hN, List.drop_length]; rfl)
      have HP := Lib.hid (And.intro hB (And.intro hI (And.intro hM hb)))
      clear hB hI hM hb hN hz
      go_wp2_with fail
      go_ret2
      refine .inl ⟨by rw [HE.out], g, W.heap.size, q, rfl, HWG.out, Nat.le_refl _, HP.out.1, by rw [HE.out]; exact HP.out.2.1, HP.out.2.2.1, HP.out.2.2.2⟩
end S
end Go.Proofs.Ytlfodhejpbjfcaa
