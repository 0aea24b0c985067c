/- Is: the iterator over a map's entries gives the reference's list. -/
import Derived.Test.YtdgclambplipnaaKeysQii
import Derived.Test.YtdgclambplipnaaKeysAll
namespace Go.Proofs.Ytdgclambplipnaa
open Go.RowKit Go.Shelf
namespace ii
attribute [local go_sem] Oper.semAt_some

def kfx : Int → ByteArray := fun n : Int => wordB (bits .xor .u64 (IntKind.u64.wrap n) 9223372036854775808)
theorem key_all (k : Int) (W : World) : Calls Try.prog 17 #[Value.int .i64 k] W fun e w' => e = .returned (.string (kfx k)) ∧ Below W.heap.size W w' := int_all k W
theorem kfx_ok (k : Int) (h : ok k) : kfx k = kf k := congrArg wordB (bits_top k h.1 h.2)

/-- What lies from block B on: the three parameters, the result. -/
def BX (W : World) (B : Nat) (p : Option Addr) (v : Value) (r : Bool) (T : Tr Int Int) : Prop :=
  W.heap[B]? = some (.cells #[.pointer p] 26 (0, 0)) ∧ W.heap[B + 1]? = some (.cells #[v] 37 (0, 0)) ∧ W.heap[B + 1 + 1]? = some (.cells #[.func (.func 17) #[] #[]] 40 (0, 0)) ∧ W.heap[B + 1 + 1 + 1]? = some (.cells #[.bool r] 4 (0, 0)) ∧ Is W p T ∧ Prs 0 W v (rep kf T.toList)
theorem BX.below {A C : World} {B : Nat} {p : Option Addr} {v : Value} {r : Bool} {T : Tr Int Int} (h : BX A B p v r T) (hb : Below A.heap.size A C) : BX C B p v r T :=
  ⟨box_below hb h.1, box_below hb h.2.1, box_below hb h.2.2.1, box_below hb h.2.2.2.1, h.2.2.2.2.1.below hb, h.2.2.2.2.2.below hb⟩
theorem BX.own {A C : World} {B D : Nat} {row : Option Nat} {p : Option Addr} {v : Value} {r : Bool} {T : Tr Int Int} (h : BX A B p v r T) (hg : A.grownBy C row) (hr : CalmRow D A row) : BX C B p v r T :=
  ⟨own_cells hg hr h.1, own_cells hg hr h.2.1, own_cells hg hr h.2.2.1, own_cells hg hr h.2.2.2.1, h.2.2.2.2.1.keep (fun _ _ _ hk => own_cells hg hr hk), own_SlA hg hr h.2.2.2.2.2⟩
theorem BX.setCell {A : World} {B : Nat} {a : Addr} {u : Value} {cs : Array Value} {fz : Nat × Nat} {p : Option Addr} {v : Value} {r : Bool} {T : Tr Int Int} (h : BX A B p v r T) (ha : A.heap[a.block]? = some (.cells cs 3 fz)) : BX (A.setCell a u) B p v r T := by
  have hk : ∀ (b : Nat) (cs' : Array Value) (t : TypeId) (fz' : Nat × Nat), t ≠ 3 → A.heap[b]? = some (.cells cs' t fz') → (A.setCell a u).heap[b]? = some (.cells cs' t fz') := fun b cs' t fz' ht hb => by
    rw [Below.heap_setCell]
    · exact hb
    · intro e; rw [e, ha] at hb; simp at hb; exact ht hb.2.1.symm
  exact ⟨hk _ _ _ _ (by decide) h.1, hk _ _ _ _ (by decide) h.2.1, hk _ _ _ _ (by decide) h.2.2.1, hk _ _ _ _ (by decide) h.2.2.2.1, h.2.2.2.2.1.keep (KeepT.setCell ha (by decide)), h.2.2.2.2.2.setCell _ ha (by decide)⟩

set_option maxRecDepth 100000 in
set_option maxHeartbeats 4000000 in
theorem is_any {W : World} {p : Option Addr} {v : Value} {T : Tr Int Int} (hT : Is W p T) (hV : Prs 0 W v (rep kf T.toList)) (hol : OkL ok T.toList) (hn : T.toList.length ≤ 1000000) :
    Calls Try.prog 18 #[.agg #[.pointer p], v, .func (.func 17) #[] #[]] W fun e w' => e = .returned (.bool true) ∧ Below W.heap.size W w' := by
  have HF : ∀ f, Fence.wide.fn f := fun _ => trivial
  obtain ⟨W0, hW0⟩ : ∃ W0, (((W.alloc (.cells #[.pointer p] 26)).alloc (.cells #[v] 37)).alloc (.cells #[.func (.func 17) #[] #[]] 40)).alloc (.cells #[.bool false] 4) = W0 := ⟨_, rfl⟩
  have hB0 : Below W.heap.size W W0 := by rw [← hW0]; exact ((((Below.refl _ W).alloc (Nat.le_refl _) _).alloc (by simp) _).alloc (by simp <;> omega) _).alloc (by simp <;> omega) _
  have hX0 : BX W0 W.heap.size p v false T := by
    refine ⟨?_, ?_, ?_, ?_, hT.below hB0, hV.below hB0⟩
    · rw [← hW0]; exact (((Below.heap_alloc _ _ _ (by simp <;> omega)).trans (Below.heap_alloc _ _ _ (by simp <;> omega))).trans (Below.heap_alloc _ _ _ (by simp))).trans (heap_new W _)
    · rw [← hW0]; refine ((Below.heap_alloc _ _ _ (by simp <;> omega)).trans (Below.heap_alloc _ _ _ (by simp))).trans ?_
      have := heap_new (W.alloc (.cells #[.pointer p] 26)) (.cells #[v] 37); rwa [World.size_alloc] at this
    · rw [← hW0]; refine (Below.heap_alloc _ _ _ (by simp)).trans ?_
      have := heap_new ((W.alloc (.cells #[.pointer p] 26)).alloc (.cells #[v] 37)) (.cells #[.func (.func 17) #[] #[]] 40); rwa [World.size_alloc, World.size_alloc] at this
    · rw [← hW0]
      have := heap_new (((W.alloc (.cells #[.pointer p] 26)).alloc (.cells #[v] 37)).alloc (.cells #[.func (.func 17) #[] #[]] 40)) (.cells #[.bool false] 4); rwa [World.size_alloc, World.size_alloc, World.size_alloc] at this
  obtain ⟨a0, c0, hv⟩ := hV.len
  have hrl : (rep kf T.toList).length = T.toList.length := by simp [rep]
  rw [hrl] at hv
  refine (callsIn_wide (n := 9)).1 ?_
  refine callsIn_of_wp_marks Try.func18 rfl trivial ?_ rfl
  simp only [Try.ntmps18, List.size_toArray, List.length_cons, List.length_nil, Nat.reduceAdd, Nat.reduceSub, Array.replicate_succ, Array.replicate_zero, List.push_toArray, List.append_toArray, List.nil_append, List.cons_append]
  subst hv
  have HX0 := Lib.hid hX0; have HB0 := Lib.hid hB0
  have HV := Lib.hid hV; have HOL := Lib.hid hol; have HN := Lib.hid hn
  clear hT hV hol hn hX0 hB0
  gi_wp2_with fail
  clear hW0
  have hw : ∀ w, Below W0.heap.size W0 w → BX w W.heap.size p (.slice a0 T.toList.length c0) false T := fun w hb => HX0.out.below hb
  have hc1 : ∀ w, Below W0.heap.size W0 w → w.cell? ⟨W.heap.size, 0, none⟩ = some (.pointer p) := fun w hb => box_cell (hw w hb).1
  have hc2 : ∀ w, Below W0.heap.size W0 w → w.cell? ⟨W.heap.size + 1, 0, none⟩ = some (.slice a0 T.toList.length c0) := fun w hb => box_cell (hw w hb).2.1
  refine wpIn_region_anyNP (Below W0.heap.size W0) (by kernel_rfl) ?_
  have B0 : Below W0.heap.size W0 W0.drew := (Below.refl _ _).drew
  refine AnyH.take (i := 0) (d := some 10) (v := ?_) (by kernel_rfl) rfl rfl HF (fun _ _ _ h => h) (.inl ⟨by rfl, ?_⟩) (by first | assumption | rfl) ?_
  rotate_left
  · intro w hS; try subst hS
    go_simp; try with_reducible rfl
  try simp only [Act.put, List.setIfInBounds_toArray, List.set_cons_zero, List.set_cons_succ]
  refine AnyH.take (i := 2) (d := some 12) (v := ?_) (by kernel_rfl) rfl rfl HF (fun _ _ _ h => h) (.inl ⟨by rfl, ?_⟩) (by first | assumption | rfl) ?_
  rotate_left
  · intro w hS; try subst hS
    go_simp; try with_reducible rfl
  try simp only [Act.put, List.setIfInBounds_toArray, List.set_cons_zero, List.set_cons_succ]
  refine AnyH.take (i := 3) (d := some 13) (v := ?_) (by kernel_rfl) rfl rfl HF (fun _ _ _ h => h) (.inl ⟨by rfl, ?_⟩) (by first | assumption | rfl) ?_
  rotate_left
  · intro w hS; try subst hS
    go_simp; try with_reducible rfl
  try simp only [Act.put, List.setIfInBounds_toArray, List.set_cons_zero, List.set_cons_succ]
  refine AnyH.one (i := 1) (by kernel_rfl) (by kernel_rfl) rfl HF (by rfl) (fun K hK => ?_)
  go_simp
  first | ((with_reducible refine And.intro ?hdep ?_); (case hdep => first | rfl | (intro h; cases h))) | skip
  refine callsIn_wide.2 ((Len_any (hw _ B0).2.2.2.2.1).mono ?_)
  rintro e w2 ⟨rfl, b2⟩
  have B2 : Below W0.heap.size W0 w2 := Below.step B0 b2
  clear b2
  rw [Tr.sz_eq]
  refine hK _ _ B2 ?_
  clear hK K
  try simp only [Act.put, List.setIfInBounds_toArray, List.set_cons_zero, List.set_cons_succ]
  refine AnyH.take (i := 4) (d := some 14) (v := ?_) (by kernel_rfl) rfl rfl HF (fun _ _ _ h => h) (.inl ⟨by rfl, ?_⟩) (by first | assumption | rfl) ?_
  rotate_left
  · intro w hS; try subst hS
    go_simp; try with_reducible rfl
  try simp only [Act.put, List.setIfInBounds_toArray, List.set_cons_zero, List.set_cons_succ]
  refine AnyH.done (by kernel_rfl) ?_
  refine NP.normal ?_
  have HX2 := Lib.hid (hw _ B2); have HB2 := Lib.hid (Below.step HB0.out B2)
  have hm2 : ∀ o, (w2.alloc o).cell? ⟨W.heap.size, 0, none⟩ = some (.pointer p) := fun o => box_cell (box_below ((Below.refl _ w2).alloc (Nat.le_refl _) o) HX2.out.1)
  clear hw hc1 hc2 B2 B0
  gi_wp2_with fail
  clear HX0 HB0
  refine callsIn_wide.2 (all_any.mono ?_)
  rintro e w4 ⟨rfl, rfl⟩
  gi_wp2_with fail
  obtain ⟨W1, hW1⟩ : ∃ W1, ((w2.alloc (.cells #[.int .i64 0] 3)).alloc (.cells #[.pointer p] 26)) = W1 := ⟨_, rfl⟩
  have hbA : Below w2.heap.size w2 W1 := by rw [← hW1]; exact ((Below.refl _ w2).alloc (Nat.le_refl _) _).alloc (by simp) _
  have hB : W1.heap[w2.heap.size + 1]? = some (.cells #[.pointer p] 26 (0, 0)) := by
    rw [← hW1]; have := heap_new (w2.alloc (.cells #[.int .i64 0] 3)) (.cells #[.pointer p] 26); rwa [World.size_alloc] at this
  have hD : W1.heap[w2.heap.size]? = some (.cells #[.int .i64 0] 3 (0, 0)) := by
    rw [← hW1]; exact (Below.heap_alloc _ _ _ (by simp)).trans (heap_new w2 _)
  have hX1 := HX2.out.below hbA
  have hB1 : Below W.heap.size W W1 := Below.step HB2.out hbA
  have hsz : W.heap.size ≤ w2.heap.size := HB2.out.size
  have hs4 : W.heap.size + 1 + 1 + 1 < w2.heap.size := (Array.getElem?_eq_some_iff.1 HX2.out.2.2.2.1).1
  rw [hW1]
  have hT1 := hX1.2.2.2.2.1
  clear HX2 HB2 hm2 hbA HV
  refine wpIn_rangeFunc_ownF rfl (by omega) (gf := 69) (lb := #[.pointer (some ⟨w2.heap.size + 1, 0, none⟩)]) rfl trivial (enters_of Try.func69 (by kernel_rfl) rfl)
    (all_stops 8 (w2.heap.size + 1) p T W1 hB hT1) KeepT.trans (fun W l o o' _ hl ho _ => keep_putObj hl ho) (Below.refl _ _) (fun _ => rfl)
    (fun pre Y => (Y.heap[w2.heap.size]? = some (.cells #[.int .i64 pre.length] 3 (0, 0)) ∧ BX Y W.heap.size p (.slice a0 T.toList.length c0) false T) ∧ Below W.heap.size W Y) (fun _ pre _ => ¬ pre <+: T.toList)
    (fun s A C row hs hg hr => ⟨⟨own_cells hg hr hs.1.1, hs.1.2.own hg hr⟩, own_below hg hr (Nat.le_refl _) hB1.size hs.2⟩) (fun _ _ _ _ _ h _ _ => h)
    ⟨⟨hD, hX1⟩, hB1⟩
    (fun x => { tmps := #[.agg #[.pointer p], .slice a0 T.toList.length c0, .func (.func 17) #[] #[], .pointer (some ⟨W.heap.size, 0, none⟩), .pointer (some ⟨W.heap.size + 1, 0, none⟩), .pointer (some ⟨W.heap.size + 1 + 1, 0, none⟩), .pointer (some ⟨W.heap.size + 1 + 1 + 1, 0, none⟩), .pointer (some ⟨w2.heap.size, 0, none⟩), Value.int .i64 x.1, Value.int .i64 x.2, .agg #[.pointer p], .int .i64 T.toList.length, .slice a0 T.toList.length c0, .int .i64 T.toList.length, .bool false, .agg #[.pointer p], .func (.func 69) #[] #[.pointer (some ⟨w2.heap.size + 1, 0, none⟩)], Value.int .i64 x.1, Value.int .i64 x.2, undef, undef, undef, undef, undef, undef, undef, undef, undef, undef, undef, undef, undef, undef, undef, undef, undef, undef, undef, undef, undef, undef, undef, undef, undef, undef, undef, undef, undef, undef], defers := [] }) ?assign ?body ?done ?stop
  case assign =>
    intro l x W K hK
    gi_wp2_with fail
    exact hK
  case body =>
    rintro l pre x Y ⟨⟨hi, hX⟩, hb⟩ hlen
    have HF : ∀ f, (Fence.wide.inRound l).fn f := fun _ => trivial
    have hil : pre.length < (rep kf T.toList).length := by rw [hrl]; exact hlen
    obtain ⟨g, cap, hv, -, -, hE⟩ := hX.2.2.2.2.2.at hil
    obtain ⟨z, hz⟩ : ∃ z, T.toList[pre.length]? = some z := ⟨_, List.getElem?_eq_getElem hlen⟩
    have hzz : (rep kf T.toList)[pre.length] = (kf z.1, z.2) := by
      have := (List.getElem?_eq_some_iff.1 hz).2
      simp only [rep, List.getElem_map, this]
    have hE0 : ∀ w, Below Y.heap.size Y w → w.cell? ⟨g, pre.length * 2, none⟩ = some (.string (kf z.1)) := fun w hw => by rw [(hE w hw _ hil).1, hzz]
    have hE1 : ∀ w, Below Y.heap.size Y w → w.cell? ⟨g, pre.length * 2 + 1, none⟩ = some (.int .i64 z.2) := fun w hw => by rw [(hE w hw _ hil).2, hzz]
    simp only [Value.slice.injEq] at hv
    obtain ⟨rfl, -, rfl⟩ := hv
    have hno : x ≠ z → ¬ (pre ++ [x]) <+: T.toList := fun hne ⟨t, ht⟩ => by
      rw [← ht] at hz; simp at hz; exact hne hz
    have hokz : ok z.1 := HOL.out z (List.mem_of_getElem? hz)
    have hkz := kfx_ok z.1 hokz
    have HX := Lib.hid hX; have HI := Lib.hid hi; have HBB := Lib.hid hb
    have hc1 : ∀ w, Below Y.heap.size Y w → w.cell? ⟨w2.heap.size, 0, none⟩ = some (.int .i64 pre.length) := fun w hw => box_cell (box_below hw HI.out)
    have hc2 : ∀ w, Below Y.heap.size Y w → w.cell? ⟨W.heap.size + 1, 0, none⟩ = some (.slice (some ⟨g, 0, none⟩) T.toList.length c0) := fun w hw => box_cell (HX.out.below hw).2.1
    have hc3 : ∀ w, Below Y.heap.size Y w → w.cell? ⟨W.heap.size + 1 + 1, 0, none⟩ = some (.func (.func 17) #[] #[]) := fun w hw => box_cell (HX.out.below hw).2.2.1
    have hcI := True.intro
    have hx1 : (pre.length : Int) < (T.toList.length : Int) := by omega
    have hx2 : ¬ ((T.toList.length : Int) ≤ (pre.length : Int)) := by omega
    have hx5 : ¬ (T.toList.length ≤ pre.length) := by omega
    have hx6 : decide ((T.toList.length : Int) ≤ (pre.length : Int)) = false := decide_eq_false hx2
    have hx3 : (0 : Int) ≤ (pre.length : Int) := by omega
    have hx4 : (pre.length : Int) < 1000000 := by have := HN.out; omega
    clear hX hi hb hE hzz hil hW1 hB hD hX1 hB1 hT1
    have h3 : (((kf z.1).toList == (kfx x.1).toList) = true ∧ (z.2 != x.2) = false) ∨ (((kf z.1).toList == (kfx x.1).toList) = true ∧ (z.2 != x.2) = true) ∨ ((kf z.1).toList == (kfx x.1).toList) = false := by
      cases ((kf z.1).toList == (kfx x.1).toList) <;> cases (z.2 != x.2) <;> simp
    rcases h3 with ⟨hk, hv⟩ | ⟨hk, hv⟩ | hk
    · clear hno
      gi_wp2_with fail
      refine wpIn_region_anyNP (Below Y.heap.size Y) (by kernel_rfl) ?_
      have B1 : Below Y.heap.size Y Y.drew := (Below.refl _ _).drew
      refine AnyH.take (i := 0) (d := some 19) (v := ?_) (by kernel_rfl) rfl rfl HF (fun _ _ _ h => h) (.inl ⟨by rfl, ?_⟩) (by first | assumption | rfl) ?_
      rotate_left
      · intro w hS; try subst hS
        go_simp; try with_reducible rfl
      try simp only [Act.put, List.setIfInBounds_toArray, List.set_cons_zero, List.set_cons_succ]
      refine AnyH.take (i := 1) (d := some 20) (v := ?_) (by kernel_rfl) rfl rfl HF (fun _ _ _ h => h) (.inl ⟨by rfl, ?_⟩) (by first | assumption | rfl) ?_
      rotate_left
      · intro w hS; try subst hS
        go_simp; try with_reducible rfl
      try simp only [Act.put, List.setIfInBounds_toArray, List.set_cons_zero, List.set_cons_succ]
      refine AnyH.take (i := 2) (d := some 21) (v := ?_) (by kernel_rfl) rfl rfl HF (fun _ _ _ h => h) (.inl ⟨by rfl, ?_⟩) (by first | assumption | rfl) ?_
      rotate_left
      · intro w hS; try subst hS
        go_simp; try with_reducible rfl
      try simp only [Act.put, List.setIfInBounds_toArray, List.set_cons_zero, List.set_cons_succ]
      refine AnyH.take (i := 3) (d := some 22) (v := ?_) (by kernel_rfl) rfl rfl HF (fun _ _ _ h => h) (.inl ⟨by rfl, ?_⟩) (by first | assumption | rfl) ?_
      rotate_left
      · intro w hS; try subst hS
        go_simp; try with_reducible rfl
      try simp only [Act.put, List.setIfInBounds_toArray, List.set_cons_zero, List.set_cons_succ]
      refine AnyH.take (i := 4) (d := some 23) (v := ?_) (by kernel_rfl) rfl rfl HF (fun _ _ _ h => h) (.inl ⟨by rfl, ?_⟩) (by first | assumption | rfl) ?_
      rotate_left
      · intro w hS; try subst hS
        go_simp; try with_reducible rfl
      try simp only [Act.put, List.setIfInBounds_toArray, List.set_cons_zero, List.set_cons_succ]
      refine AnyH.take (i := 5) (d := some 24) (v := ?_) (by kernel_rfl) rfl rfl HF (fun _ _ _ h => h) (.inl ⟨by rfl, ?_⟩) (by first | assumption | rfl) ?_
      rotate_left
      · intro w hS; try subst hS
        go_simp; try with_reducible rfl
      try simp only [Act.put, List.setIfInBounds_toArray, List.set_cons_zero, List.set_cons_succ]
      refine AnyH.take (i := 6) (d := some 25) (v := ?_) (by kernel_rfl) rfl rfl HF (fun _ _ _ h => h) (.inl ⟨by rfl, ?_⟩) (by first | assumption | rfl) ?_
      rotate_left
      · intro w hS; try subst hS
        go_simp; try with_reducible rfl
      try simp only [Act.put, List.setIfInBounds_toArray, List.set_cons_zero, List.set_cons_succ]
      refine AnyH.take (i := 7) (d := some 26) (v := ?_) (by kernel_rfl) rfl rfl HF (fun _ _ _ h => h) (.inl ⟨by rfl, ?_⟩) (by first | assumption | rfl) ?_
      rotate_left
      · intro w hS; try subst hS
        go_simp; try with_reducible rfl
      try simp only [Act.put, List.setIfInBounds_toArray, List.set_cons_zero, List.set_cons_succ]
      refine AnyH.take (i := 8) (d := some 27) (v := ?_) (by kernel_rfl) rfl rfl HF (fun _ _ _ h => h) (.inl ⟨by rfl, ?_⟩) (by first | assumption | rfl) ?_
      rotate_left
      · intro w hS; try subst hS
        go_simp; try with_reducible rfl
      try simp only [Act.put, List.setIfInBounds_toArray, List.set_cons_zero, List.set_cons_succ]
      refine AnyH.take (i := 9) (d := some 28) (v := ?_) (by kernel_rfl) rfl rfl HF (fun _ _ _ h => h) (.inl ⟨by rfl, ?_⟩) (by first | assumption | rfl) ?_
      rotate_left
      · intro w hS; try subst hS
        go_simp; try with_reducible rfl
      try simp only [Act.put, List.setIfInBounds_toArray, List.set_cons_zero, List.set_cons_succ]
      refine AnyH.take (i := 10) (d := some 29) (v := ?_) (by kernel_rfl) rfl rfl HF (fun _ _ _ h => h) (.inl ⟨by rfl, ?_⟩) (by first | assumption | rfl) ?_
      rotate_left
      · intro w hS; try subst hS
        go_simp; try with_reducible rfl
      try simp only [Act.put, List.setIfInBounds_toArray, List.set_cons_zero, List.set_cons_succ]
      refine AnyH.take (i := 11) (d := some 30) (v := ?_) (by kernel_rfl) rfl rfl HF (fun _ _ _ h => h) (.inl ⟨by rfl, ?_⟩) (by first | assumption | rfl) ?_
      rotate_left
      · intro w hS; try subst hS
        go_simp; try with_reducible rfl
      try simp only [Act.put, List.setIfInBounds_toArray, List.set_cons_zero, List.set_cons_succ]
      refine AnyH.one (i := 12) (by kernel_rfl) (by kernel_rfl) rfl HF (by rfl) (fun K hK => ?_)
      go_simp
      first | ((with_reducible refine And.intro ?hdep ?_); (case hdep => first | rfl | (intro h; cases h))) | skip
      refine CallsIn.inRound l (callsIn_wide.2 ((key_all x.1 _).mono ?_))
      rintro e y2 ⟨rfl, b2⟩
      have B2 : Below Y.heap.size Y y2 := Below.step B1 b2
      clear b2
      refine hK _ _ B2 ?_
      clear hK K
      try simp only [Act.put, List.setIfInBounds_toArray, List.set_cons_zero, List.set_cons_succ]
      refine AnyH.take (i := 13) (d := some 32) (v := ?_) (by kernel_rfl) rfl rfl HF (fun _ _ _ h => h) (.inl ⟨by rfl, ?_⟩) (by first | assumption | rfl) ?_
      rotate_left
      · intro w hS; try subst hS
        go_simp; try with_reducible rfl
      try simp only [Act.put, List.setIfInBounds_toArray, List.set_cons_zero, List.set_cons_succ]
      refine AnyH.take (i := 14) (d := some 33) (v := ?_) (by kernel_rfl) rfl rfl HF (fun _ _ _ h => h) (.inl ⟨by rfl, ?_⟩) (by first | assumption | rfl) ?_
      rotate_left
      · intro w hS; try subst hS
        go_simp; try with_reducible rfl
      try simp only [Act.put, List.setIfInBounds_toArray, List.set_cons_zero, List.set_cons_succ]
      refine AnyH.take (i := 15) (d := some 34) (v := ?_) (by kernel_rfl) rfl rfl HF (fun _ _ _ h => h) (.inl ⟨by rfl, ?_⟩) (by first | assumption | rfl) ?_
      rotate_left
      · intro w hS; try subst hS
        go_simp; try with_reducible rfl
      try simp only [Act.put, List.setIfInBounds_toArray, List.set_cons_zero, List.set_cons_succ]
      refine AnyH.take (i := 16) (d := some 35) (v := ?_) (by kernel_rfl) rfl rfl HF (fun _ _ _ h => h) (.inl ⟨by rfl, ?_⟩) (by first | assumption | rfl) ?_
      rotate_left
      · intro w hS; try subst hS
        go_simp; try with_reducible rfl
      try simp only [Act.put, List.setIfInBounds_toArray, List.set_cons_zero, List.set_cons_succ]
      refine AnyH.take (i := 17) (d := some 36) (v := ?_) (by kernel_rfl) rfl rfl HF (fun _ _ _ h => h) (.inl ⟨by rfl, ?_⟩) (by first | assumption | rfl) ?_
      rotate_left
      · intro w hS; try subst hS
        go_simp; try with_reducible rfl
      try simp only [Act.put, List.setIfInBounds_toArray, List.set_cons_zero, List.set_cons_succ]
      refine AnyH.take (i := 18) (d := some 37) (v := ?_) (by kernel_rfl) rfl rfl HF (fun _ _ _ h => h) (.inl ⟨by rfl, ?_⟩) (by first | assumption | rfl) ?_
      rotate_left
      · intro w hS; try subst hS
        go_simp; try with_reducible rfl
      try simp only [Act.put, List.setIfInBounds_toArray, List.set_cons_zero, List.set_cons_succ]
      refine AnyH.take (i := 19) (d := some 38) (v := ?_) (by kernel_rfl) rfl rfl HF (fun _ _ _ h => h) (.inl ⟨by rfl, ?_⟩) (by first | assumption | rfl) ?_
      rotate_left
      · intro w hS; try subst hS
        go_simp; try with_reducible rfl
      try simp only [Act.put, List.setIfInBounds_toArray, List.set_cons_zero, List.set_cons_succ]
      refine AnyH.take (i := 20) (d := some 39) (v := ?_) (by kernel_rfl) rfl rfl HF (fun _ _ _ h => h) (.inl ⟨by rfl, ?_⟩) (by first | assumption | rfl) ?_
      rotate_left
      · intro w hS; try subst hS
        go_simp; try with_reducible rfl
      try simp only [Act.put, List.setIfInBounds_toArray, List.set_cons_zero, List.set_cons_succ]
      refine AnyH.take (i := 21) (d := some 40) (v := ?_) (by kernel_rfl) rfl rfl HF (fun _ _ _ h => h) (.inl ⟨by rfl, ?_⟩) (by first | assumption | rfl) ?_
      rotate_left
      · intro w hS; try subst hS
        go_simp; try with_reducible rfl
      try simp only [Act.put, List.setIfInBounds_toArray, List.set_cons_zero, List.set_cons_succ]
      refine AnyH.take (i := 22) (d := some 41) (v := ?_) (by kernel_rfl) rfl rfl HF (fun _ _ _ h => h) (.inl ⟨by rfl, ?_⟩) (by first | assumption | rfl) ?_
      rotate_left
      · intro w hS; try subst hS
        go_simp; try with_reducible rfl
      try simp only [Act.put, List.setIfInBounds_toArray, List.set_cons_zero, List.set_cons_succ]
      refine AnyH.take (i := 23) (d := some 42) (v := ?_) (by kernel_rfl) rfl rfl HF (fun _ _ _ h => h) (.inl ⟨by rfl, ?_⟩) (by first | assumption | rfl) ?_
      rotate_left
      · intro w hS; try subst hS
        go_simp; try with_reducible rfl
      try simp only [Act.put, List.setIfInBounds_toArray, List.set_cons_zero, List.set_cons_succ]
      refine AnyH.done (by kernel_rfl) ?_
      refine NP.normal ?_
      have HX2 := Lib.hid ((HX.out.below B2)); have HI2 := Lib.hid (box_below B2 HI.out); have HB2 := Lib.hid B2
      clear hc1 hc2 hc3 hcI hE0 hE1 B1 B2 hx1 hx2 hx5 hx6 hlen hz
      have HKZ := Lib.hid hkz; clear hkz
      have HK := Lib.hid hk; clear hk
      have hf := box_frozen HI2.out
      have hfc := box_cell HI2.out
      gi_wp2_with fail
      refine ⟨keepsOthers_setCell (keepsOthers_below HB2.out) _ _, (KeepT.below HB2.out).trans (KeepT.setCell (a := ⟨w2.heap.size, 0, none⟩) HI2.out (by decide)), ⟨⟨?_, HX2.out.setCell (a := ⟨w2.heap.size, 0, none⟩) HI2.out⟩, ?_⟩⟩
      · rw [box_set _ HI2.out]
        simp only [List.length_append, List.length_cons, List.length_nil, Nat.zero_add]
        first | rfl | go_num
      · exact (HBB.out.trans (HB2.out.mono HBB.out.size)).setCell (p := ⟨w2.heap.size, 0, none⟩) hsz _
    · skip
      gi_wp2_with fail
      refine wpIn_region_anyNP (Below Y.heap.size Y) (by kernel_rfl) ?_
      have B1 : Below Y.heap.size Y Y.drew := (Below.refl _ _).drew
      refine AnyH.take (i := 0) (d := some 19) (v := ?_) (by kernel_rfl) rfl rfl HF (fun _ _ _ h => h) (.inl ⟨by rfl, ?_⟩) (by first | assumption | rfl) ?_
      rotate_left
      · intro w hS; try subst hS
        go_simp; try with_reducible rfl
      try simp only [Act.put, List.setIfInBounds_toArray, List.set_cons_zero, List.set_cons_succ]
      refine AnyH.take (i := 1) (d := some 20) (v := ?_) (by kernel_rfl) rfl rfl HF (fun _ _ _ h => h) (.inl ⟨by rfl, ?_⟩) (by first | assumption | rfl) ?_
      rotate_left
      · intro w hS; try subst hS
        go_simp; try with_reducible rfl
      try simp only [Act.put, List.setIfInBounds_toArray, List.set_cons_zero, List.set_cons_succ]
      refine AnyH.take (i := 2) (d := some 21) (v := ?_) (by kernel_rfl) rfl rfl HF (fun _ _ _ h => h) (.inl ⟨by rfl, ?_⟩) (by first | assumption | rfl) ?_
      rotate_left
      · intro w hS; try subst hS
        go_simp; try with_reducible rfl
      try simp only [Act.put, List.setIfInBounds_toArray, List.set_cons_zero, List.set_cons_succ]
      refine AnyH.take (i := 3) (d := some 22) (v := ?_) (by kernel_rfl) rfl rfl HF (fun _ _ _ h => h) (.inl ⟨by rfl, ?_⟩) (by first | assumption | rfl) ?_
      rotate_left
      · intro w hS; try subst hS
        go_simp; try with_reducible rfl
      try simp only [Act.put, List.setIfInBounds_toArray, List.set_cons_zero, List.set_cons_succ]
      refine AnyH.take (i := 4) (d := some 23) (v := ?_) (by kernel_rfl) rfl rfl HF (fun _ _ _ h => h) (.inl ⟨by rfl, ?_⟩) (by first | assumption | rfl) ?_
      rotate_left
      · intro w hS; try subst hS
        go_simp; try with_reducible rfl
      try simp only [Act.put, List.setIfInBounds_toArray, List.set_cons_zero, List.set_cons_succ]
      refine AnyH.take (i := 5) (d := some 24) (v := ?_) (by kernel_rfl) rfl rfl HF (fun _ _ _ h => h) (.inl ⟨by rfl, ?_⟩) (by first | assumption | rfl) ?_
      rotate_left
      · intro w hS; try subst hS
        go_simp; try with_reducible rfl
      try simp only [Act.put, List.setIfInBounds_toArray, List.set_cons_zero, List.set_cons_succ]
      refine AnyH.take (i := 6) (d := some 25) (v := ?_) (by kernel_rfl) rfl rfl HF (fun _ _ _ h => h) (.inl ⟨by rfl, ?_⟩) (by first | assumption | rfl) ?_
      rotate_left
      · intro w hS; try subst hS
        go_simp; try with_reducible rfl
      try simp only [Act.put, List.setIfInBounds_toArray, List.set_cons_zero, List.set_cons_succ]
      refine AnyH.take (i := 7) (d := some 26) (v := ?_) (by kernel_rfl) rfl rfl HF (fun _ _ _ h => h) (.inl ⟨by rfl, ?_⟩) (by first | assumption | rfl) ?_
      rotate_left
      · intro w hS; try subst hS
        go_simp; try with_reducible rfl
      try simp only [Act.put, List.setIfInBounds_toArray, List.set_cons_zero, List.set_cons_succ]
      refine AnyH.take (i := 8) (d := some 27) (v := ?_) (by kernel_rfl) rfl rfl HF (fun _ _ _ h => h) (.inl ⟨by rfl, ?_⟩) (by first | assumption | rfl) ?_
      rotate_left
      · intro w hS; try subst hS
        go_simp; try with_reducible rfl
      try simp only [Act.put, List.setIfInBounds_toArray, List.set_cons_zero, List.set_cons_succ]
      refine AnyH.take (i := 9) (d := some 28) (v := ?_) (by kernel_rfl) rfl rfl HF (fun _ _ _ h => h) (.inl ⟨by rfl, ?_⟩) (by first | assumption | rfl) ?_
      rotate_left
      · intro w hS; try subst hS
        go_simp; try with_reducible rfl
      try simp only [Act.put, List.setIfInBounds_toArray, List.set_cons_zero, List.set_cons_succ]
      refine AnyH.take (i := 10) (d := some 29) (v := ?_) (by kernel_rfl) rfl rfl HF (fun _ _ _ h => h) (.inl ⟨by rfl, ?_⟩) (by first | assumption | rfl) ?_
      rotate_left
      · intro w hS; try subst hS
        go_simp; try with_reducible rfl
      try simp only [Act.put, List.setIfInBounds_toArray, List.set_cons_zero, List.set_cons_succ]
      refine AnyH.take (i := 11) (d := some 30) (v := ?_) (by kernel_rfl) rfl rfl HF (fun _ _ _ h => h) (.inl ⟨by rfl, ?_⟩) (by first | assumption | rfl) ?_
      rotate_left
      · intro w hS; try subst hS
        go_simp; try with_reducible rfl
      try simp only [Act.put, List.setIfInBounds_toArray, List.set_cons_zero, List.set_cons_succ]
      refine AnyH.one (i := 12) (by kernel_rfl) (by kernel_rfl) rfl HF (by rfl) (fun K hK => ?_)
      go_simp
      first | ((with_reducible refine And.intro ?hdep ?_); (case hdep => first | rfl | (intro h; cases h))) | skip
      refine CallsIn.inRound l (callsIn_wide.2 ((key_all x.1 _).mono ?_))
      rintro e y2 ⟨rfl, b2⟩
      have B2 : Below Y.heap.size Y y2 := Below.step B1 b2
      clear b2
      refine hK _ _ B2 ?_
      clear hK K
      try simp only [Act.put, List.setIfInBounds_toArray, List.set_cons_zero, List.set_cons_succ]
      refine AnyH.take (i := 13) (d := some 32) (v := ?_) (by kernel_rfl) rfl rfl HF (fun _ _ _ h => h) (.inl ⟨by rfl, ?_⟩) (by first | assumption | rfl) ?_
      rotate_left
      · intro w hS; try subst hS
        go_simp; try with_reducible rfl
      try simp only [Act.put, List.setIfInBounds_toArray, List.set_cons_zero, List.set_cons_succ]
      refine AnyH.take (i := 14) (d := some 33) (v := ?_) (by kernel_rfl) rfl rfl HF (fun _ _ _ h => h) (.inl ⟨by rfl, ?_⟩) (by first | assumption | rfl) ?_
      rotate_left
      · intro w hS; try subst hS
        go_simp; try with_reducible rfl
      try simp only [Act.put, List.setIfInBounds_toArray, List.set_cons_zero, List.set_cons_succ]
      refine AnyH.take (i := 15) (d := some 34) (v := ?_) (by kernel_rfl) rfl rfl HF (fun _ _ _ h => h) (.inl ⟨by rfl, ?_⟩) (by first | assumption | rfl) ?_
      rotate_left
      · intro w hS; try subst hS
        go_simp; try with_reducible rfl
      try simp only [Act.put, List.setIfInBounds_toArray, List.set_cons_zero, List.set_cons_succ]
      refine AnyH.take (i := 16) (d := some 35) (v := ?_) (by kernel_rfl) rfl rfl HF (fun _ _ _ h => h) (.inl ⟨by rfl, ?_⟩) (by first | assumption | rfl) ?_
      rotate_left
      · intro w hS; try subst hS
        go_simp; try with_reducible rfl
      try simp only [Act.put, List.setIfInBounds_toArray, List.set_cons_zero, List.set_cons_succ]
      refine AnyH.take (i := 17) (d := some 36) (v := ?_) (by kernel_rfl) rfl rfl HF (fun _ _ _ h => h) (.inl ⟨by rfl, ?_⟩) (by first | assumption | rfl) ?_
      rotate_left
      · intro w hS; try subst hS
        go_simp; try with_reducible rfl
      try simp only [Act.put, List.setIfInBounds_toArray, List.set_cons_zero, List.set_cons_succ]
      refine AnyH.take (i := 18) (d := some 37) (v := ?_) (by kernel_rfl) rfl rfl HF (fun _ _ _ h => h) (.inl ⟨by rfl, ?_⟩) (by first | assumption | rfl) ?_
      rotate_left
      · intro w hS; try subst hS
        go_simp; try with_reducible rfl
      try simp only [Act.put, List.setIfInBounds_toArray, List.set_cons_zero, List.set_cons_succ]
      refine AnyH.take (i := 19) (d := some 38) (v := ?_) (by kernel_rfl) rfl rfl HF (fun _ _ _ h => h) (.inl ⟨by rfl, ?_⟩) (by first | assumption | rfl) ?_
      rotate_left
      · intro w hS; try subst hS
        go_simp; try with_reducible rfl
      try simp only [Act.put, List.setIfInBounds_toArray, List.set_cons_zero, List.set_cons_succ]
      refine AnyH.take (i := 20) (d := some 39) (v := ?_) (by kernel_rfl) rfl rfl HF (fun _ _ _ h => h) (.inl ⟨by rfl, ?_⟩) (by first | assumption | rfl) ?_
      rotate_left
      · intro w hS; try subst hS
        go_simp; try with_reducible rfl
      try simp only [Act.put, List.setIfInBounds_toArray, List.set_cons_zero, List.set_cons_succ]
      refine AnyH.take (i := 21) (d := some 40) (v := ?_) (by kernel_rfl) rfl rfl HF (fun _ _ _ h => h) (.inl ⟨by rfl, ?_⟩) (by first | assumption | rfl) ?_
      rotate_left
      · intro w hS; try subst hS
        go_simp; try with_reducible rfl
      try simp only [Act.put, List.setIfInBounds_toArray, List.set_cons_zero, List.set_cons_succ]
      refine AnyH.take (i := 22) (d := some 41) (v := ?_) (by kernel_rfl) rfl rfl HF (fun _ _ _ h => h) (.inl ⟨by rfl, ?_⟩) (by first | assumption | rfl) ?_
      rotate_left
      · intro w hS; try subst hS
        go_simp; try with_reducible rfl
      try simp only [Act.put, List.setIfInBounds_toArray, List.set_cons_zero, List.set_cons_succ]
      refine AnyH.take (i := 23) (d := some 42) (v := ?_) (by kernel_rfl) rfl rfl HF (fun _ _ _ h => h) (.inl ⟨by rfl, ?_⟩) (by first | assumption | rfl) ?_
      rotate_left
      · intro w hS; try subst hS
        go_simp; try with_reducible rfl
      try simp only [Act.put, List.setIfInBounds_toArray, List.set_cons_zero, List.set_cons_succ]
      refine AnyH.done (by kernel_rfl) ?_
      refine NP.normal ?_
      have HX2 := Lib.hid ((HX.out.below B2)); have HI2 := Lib.hid (box_below B2 HI.out); have HB2 := Lib.hid B2
      clear hc1 hc2 hc3 hcI hE0 hE1 B1 B2 hx1 hx2 hx5 hx6 hlen hz
      have HKZ := Lib.hid hkz; clear hkz
      have HK := Lib.hid hk; clear hk
      have hf := box_frozen HX2.out.2.2.2.1
      have hfc := box_cell HX2.out.2.2.2.1
      gi_wp2_with fail
      exact ⟨(keepsOthers_below HB2.out).trans (KeepsOthers.setCell _ _ _), hno (fun e => by subst e; simp at hv)⟩
    · skip
      gi_wp2_with fail
      refine wpIn_region_anyNP (Below Y.heap.size Y) (by kernel_rfl) ?_
      have B1 : Below Y.heap.size Y Y.drew := (Below.refl _ _).drew
      refine AnyH.take (i := 0) (d := some 19) (v := ?_) (by kernel_rfl) rfl rfl HF (fun _ _ _ h => h) (.inl ⟨by rfl, ?_⟩) (by first | assumption | rfl) ?_
      rotate_left
      · intro w hS; try subst hS
        go_simp; try with_reducible rfl
      try simp only [Act.put, List.setIfInBounds_toArray, List.set_cons_zero, List.set_cons_succ]
      refine AnyH.take (i := 1) (d := some 20) (v := ?_) (by kernel_rfl) rfl rfl HF (fun _ _ _ h => h) (.inl ⟨by rfl, ?_⟩) (by first | assumption | rfl) ?_
      rotate_left
      · intro w hS; try subst hS
        go_simp; try with_reducible rfl
      try simp only [Act.put, List.setIfInBounds_toArray, List.set_cons_zero, List.set_cons_succ]
      refine AnyH.take (i := 2) (d := some 21) (v := ?_) (by kernel_rfl) rfl rfl HF (fun _ _ _ h => h) (.inl ⟨by rfl, ?_⟩) (by first | assumption | rfl) ?_
      rotate_left
      · intro w hS; try subst hS
        go_simp; try with_reducible rfl
      try simp only [Act.put, List.setIfInBounds_toArray, List.set_cons_zero, List.set_cons_succ]
      refine AnyH.take (i := 3) (d := some 22) (v := ?_) (by kernel_rfl) rfl rfl HF (fun _ _ _ h => h) (.inl ⟨by rfl, ?_⟩) (by first | assumption | rfl) ?_
      rotate_left
      · intro w hS; try subst hS
        go_simp; try with_reducible rfl
      try simp only [Act.put, List.setIfInBounds_toArray, List.set_cons_zero, List.set_cons_succ]
      refine AnyH.take (i := 4) (d := some 23) (v := ?_) (by kernel_rfl) rfl rfl HF (fun _ _ _ h => h) (.inl ⟨by rfl, ?_⟩) (by first | assumption | rfl) ?_
      rotate_left
      · intro w hS; try subst hS
        go_simp; try with_reducible rfl
      try simp only [Act.put, List.setIfInBounds_toArray, List.set_cons_zero, List.set_cons_succ]
      refine AnyH.take (i := 5) (d := some 24) (v := ?_) (by kernel_rfl) rfl rfl HF (fun _ _ _ h => h) (.inl ⟨by rfl, ?_⟩) (by first | assumption | rfl) ?_
      rotate_left
      · intro w hS; try subst hS
        go_simp; try with_reducible rfl
      try simp only [Act.put, List.setIfInBounds_toArray, List.set_cons_zero, List.set_cons_succ]
      refine AnyH.take (i := 6) (d := some 25) (v := ?_) (by kernel_rfl) rfl rfl HF (fun _ _ _ h => h) (.inl ⟨by rfl, ?_⟩) (by first | assumption | rfl) ?_
      rotate_left
      · intro w hS; try subst hS
        go_simp; try with_reducible rfl
      try simp only [Act.put, List.setIfInBounds_toArray, List.set_cons_zero, List.set_cons_succ]
      refine AnyH.take (i := 7) (d := some 26) (v := ?_) (by kernel_rfl) rfl rfl HF (fun _ _ _ h => h) (.inl ⟨by rfl, ?_⟩) (by first | assumption | rfl) ?_
      rotate_left
      · intro w hS; try subst hS
        go_simp; try with_reducible rfl
      try simp only [Act.put, List.setIfInBounds_toArray, List.set_cons_zero, List.set_cons_succ]
      refine AnyH.take (i := 8) (d := some 27) (v := ?_) (by kernel_rfl) rfl rfl HF (fun _ _ _ h => h) (.inl ⟨by rfl, ?_⟩) (by first | assumption | rfl) ?_
      rotate_left
      · intro w hS; try subst hS
        go_simp; try with_reducible rfl
      try simp only [Act.put, List.setIfInBounds_toArray, List.set_cons_zero, List.set_cons_succ]
      refine AnyH.take (i := 9) (d := some 28) (v := ?_) (by kernel_rfl) rfl rfl HF (fun _ _ _ h => h) (.inl ⟨by rfl, ?_⟩) (by first | assumption | rfl) ?_
      rotate_left
      · intro w hS; try subst hS
        go_simp; try with_reducible rfl
      try simp only [Act.put, List.setIfInBounds_toArray, List.set_cons_zero, List.set_cons_succ]
      refine AnyH.take (i := 10) (d := some 29) (v := ?_) (by kernel_rfl) rfl rfl HF (fun _ _ _ h => h) (.inl ⟨by rfl, ?_⟩) (by first | assumption | rfl) ?_
      rotate_left
      · intro w hS; try subst hS
        go_simp; try with_reducible rfl
      try simp only [Act.put, List.setIfInBounds_toArray, List.set_cons_zero, List.set_cons_succ]
      refine AnyH.take (i := 11) (d := some 30) (v := ?_) (by kernel_rfl) rfl rfl HF (fun _ _ _ h => h) (.inl ⟨by rfl, ?_⟩) (by first | assumption | rfl) ?_
      rotate_left
      · intro w hS; try subst hS
        go_simp; try with_reducible rfl
      try simp only [Act.put, List.setIfInBounds_toArray, List.set_cons_zero, List.set_cons_succ]
      refine AnyH.one (i := 12) (by kernel_rfl) (by kernel_rfl) rfl HF (by rfl) (fun K hK => ?_)
      go_simp
      first | ((with_reducible refine And.intro ?hdep ?_); (case hdep => first | rfl | (intro h; cases h))) | skip
      refine CallsIn.inRound l (callsIn_wide.2 ((key_all x.1 _).mono ?_))
      rintro e y2 ⟨rfl, b2⟩
      have B2 : Below Y.heap.size Y y2 := Below.step B1 b2
      clear b2
      refine hK _ _ B2 ?_
      clear hK K
      try simp only [Act.put, List.setIfInBounds_toArray, List.set_cons_zero, List.set_cons_succ]
      refine AnyH.take (i := 13) (d := some 32) (v := ?_) (by kernel_rfl) rfl rfl HF (fun _ _ _ h => h) (.inl ⟨by rfl, ?_⟩) (by first | assumption | rfl) ?_
      rotate_left
      · intro w hS; try subst hS
        go_simp; try with_reducible rfl
      try simp only [Act.put, List.setIfInBounds_toArray, List.set_cons_zero, List.set_cons_succ]
      refine AnyH.take (i := 14) (d := some 33) (v := ?_) (by kernel_rfl) rfl rfl HF (fun _ _ _ h => h) (.inl ⟨by rfl, ?_⟩) (by first | assumption | rfl) ?_
      rotate_left
      · intro w hS; try subst hS
        go_simp; try with_reducible rfl
      try simp only [Act.put, List.setIfInBounds_toArray, List.set_cons_zero, List.set_cons_succ]
      refine AnyH.take (i := 15) (d := some 34) (v := ?_) (by kernel_rfl) rfl rfl HF (fun _ _ _ h => h) (.inl ⟨by rfl, ?_⟩) (by first | assumption | rfl) ?_
      rotate_left
      · intro w hS; try subst hS
        go_simp; try with_reducible rfl
      try simp only [Act.put, List.setIfInBounds_toArray, List.set_cons_zero, List.set_cons_succ]
      refine AnyH.take (i := 16) (d := some 35) (v := undef) (by kernel_rfl) rfl rfl HF (fun _ _ _ h => h) (.inr ⟨by rfl, rfl⟩) (by first | assumption | rfl) ?_
      try simp only [Act.put, List.setIfInBounds_toArray, List.set_cons_zero, List.set_cons_succ]
      refine AnyH.take (i := 17) (d := some 36) (v := undef) (by kernel_rfl) rfl rfl HF (fun _ _ _ h => h) (.inr ⟨by rfl, rfl⟩) (by first | assumption | rfl) ?_
      try simp only [Act.put, List.setIfInBounds_toArray, List.set_cons_zero, List.set_cons_succ]
      refine AnyH.take (i := 18) (d := some 37) (v := undef) (by kernel_rfl) rfl rfl HF (fun _ _ _ h => h) (.inr ⟨by rfl, rfl⟩) (by first | assumption | rfl) ?_
      try simp only [Act.put, List.setIfInBounds_toArray, List.set_cons_zero, List.set_cons_succ]
      refine AnyH.take (i := 19) (d := some 38) (v := undef) (by kernel_rfl) rfl rfl HF (fun _ _ _ h => h) (.inr ⟨by rfl, rfl⟩) (by first | assumption | rfl) ?_
      try simp only [Act.put, List.setIfInBounds_toArray, List.set_cons_zero, List.set_cons_succ]
      refine AnyH.take (i := 20) (d := some 39) (v := undef) (by kernel_rfl) rfl rfl HF (fun _ _ _ h => h) (.inr ⟨by rfl, rfl⟩) (by first | assumption | rfl) ?_
      try simp only [Act.put, List.setIfInBounds_toArray, List.set_cons_zero, List.set_cons_succ]
      refine AnyH.take (i := 21) (d := some 40) (v := undef) (by kernel_rfl) rfl rfl HF (fun _ _ _ h => h) (.inr ⟨by rfl, rfl⟩) (by first | assumption | rfl) ?_
      try simp only [Act.put, List.setIfInBounds_toArray, List.set_cons_zero, List.set_cons_succ]
      refine AnyH.take (i := 22) (d := some 41) (v := undef) (by kernel_rfl) rfl rfl HF (fun _ _ _ h => h) (.inr ⟨by rfl, rfl⟩) (by first | assumption | rfl) ?_
      try simp only [Act.put, List.setIfInBounds_toArray, List.set_cons_zero, List.set_cons_succ]
      refine AnyH.take (i := 23) (d := some 42) (v := ?_) (by kernel_rfl) rfl rfl HF (fun _ _ _ h => h) (.inl ⟨by rfl, ?_⟩) (by first | assumption | rfl) ?_
      rotate_left
      · intro w hS; try subst hS
        go_simp; try with_reducible rfl
      try simp only [Act.put, List.setIfInBounds_toArray, List.set_cons_zero, List.set_cons_succ]
      refine AnyH.done (by kernel_rfl) ?_
      refine NP.normal ?_
      have HX2 := Lib.hid ((HX.out.below B2)); have HI2 := Lib.hid (box_below B2 HI.out); have HB2 := Lib.hid B2
      clear hc1 hc2 hc3 hcI hE0 hE1 B1 B2 hx1 hx2 hx5 hx6 hlen hz
      have HKZ := Lib.hid hkz; clear hkz
      have HK := Lib.hid hk; clear hk
      have hf := box_frozen HX2.out.2.2.2.1
      have hfc := box_cell HX2.out.2.2.2.1
      gi_wp2_with fail
      exact ⟨(keepsOthers_below HB2.out).trans (KeepsOthers.setCell _ _ _), hno (fun e => by subst e; have hk := HK.out; rw [HKZ.out] at hk; simp at hk)⟩
  case done =>
    rintro D xs Y hD' rfl ⟨⟨hi, hX⟩, hb⟩ hK
    have hc := box_cell hi
    have hc2 := box_cell hX.2.1
    have hf := box_frozen hX.2.2.2.1
    have hfc := box_cell hX.2.2.2.1
    have hs0 := hB1.size
    have hs1 : W.heap.size + 1 + 1 + 1 < Y.heap.size := (Array.getElem?_eq_some_iff.1 hX.2.2.2.1).1
    gi_wp2_with fail
    have hK' := (KeepsOthers.setCell Y ⟨W.heap.size + 1 + 1 + 1, 0, none⟩ (.bool true)).same D _ hK rfl
    refine ⟨by simp, .inl ⟨_, _, rfl, run_takeDeferred hK', ?_⟩⟩
    have hr : CalmRow W.heap.size (Y.setCell ⟨W.heap.size + 1 + 1 + 1, 0, none⟩ (.bool true)) (some D) := fun r e => by cases e; exact ⟨by omega, _, hK', rfl⟩
    have hc5 := box_cell (own_cells (grownBy_putObj' _ D (.deferred none)) hr (box_set (.bool true) hX.2.2.2.1))
    refine ⟨.bool true, ?_, rfl, own_below (grownBy_putObj' _ _ _) hr (Nat.le_refl _) (Nat.le_refl _) (hb.setCell (p := ⟨W.heap.size + 1 + 1 + 1, 0, none⟩) (by simp; omega) _)⟩
    simp [results, Try.f18, go_sem, hc5]
  case stop =>
    intro D c pre W _ h1 h2
    exact (h2 h1).elim
end ii
end Go.Proofs.Ytdgclambplipnaa
