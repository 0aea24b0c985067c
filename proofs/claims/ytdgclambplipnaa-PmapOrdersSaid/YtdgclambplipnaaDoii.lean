/- do: a change of a map and of the reference's list. -/
import Derived.Test.YtdgclambplipnaaKeyMaps
import Derived.Test.YtdgclambplipnaaDropii
import Derived.Test.YtdgclambplipnaaOrdHeld
import Derived.Test.YtdgclambplipnaaMore2
namespace Go.Proofs.Ytdgclambplipnaa
open Go.RowKit
namespace ii

def ok : Int → Prop := fun n : Int => -9223372036854775808 ≤ n ∧ n ≤ 9223372036854775807
def kf : Int → ByteArray := fun n : Int => wordB (n + 9223372036854775808)
theorem km : KeyMap lt ok kf := keymap_int
theorem st : Strict lt := strict_int
theorem key_any (k : Int) (h : ok k) (W : World) : Calls Try.prog 17 #[Value.int .i64 k] W fun e w' => e = .returned (.string (kf k)) ∧ Below W.heap.size W w' := int_any k h.1 h.2 W

/-- A change: a Put or a Drop. -/
def actF (a : Bool × Int × Int) (T : Tr Int Int) : Tr Int Int := if a.1 then dropM lt a.2.1 T else putF lt a.2.1 a.2.2 T
theorem actF_sorted (a : Bool × Int × Int) {T : Tr Int Int} (h : Sorted lt T.toList) : Sorted lt (actF a T).toList := by
  unfold actF; split
  · rw [dropM_toList st _ _ h]; exact delL_sorted h
  · exact putF_sorted st h
theorem actF_ok (a : Bool × Int × Int) (ha : ok a.2.1) {T : Tr Int Int} (h : Sorted lt T.toList) (ho : OkL ok T.toList) : OkL ok (actF a T).toList := by
  unfold actF; split
  · rw [dropM_toList st _ _ h]; exact fun p hp => ho p ((List.mem_filter.1 hp).1)
  · rw [putF_toList st _ _ _ h]; intro p hp
    rcases insL_mem hp with rfl | hp
    · exact ha
    · exact ho p hp
theorem actF_sz (a : Bool × Int × Int) (T : Tr Int Int) : (actF a T).sz ≤ T.sz + 1 := by
  unfold actF; split
  · have := dropM_sz lt a.2.1 T; omega
  · have := putF_sz lt a.2.1 a.2.2 T; omega

set_option maxRecDepth 100000 in
set_option maxHeartbeats 4000000 in
theorem do_drop (k : Int) (x : Int) (hok : ok k) {W : World} {p : Option Addr} {v : Value} {T : Tr Int Int} (hT : Is W p T) (hV : Prs 0 W v (rep kf T.toList)) (hso : Sorted lt T.toList) (hol : OkL ok T.toList) (hsz : T.sz ≤ 10000) :
    Calls Try.prog 16 #[.agg #[.pointer p], v, .agg #[.bool true, Value.int .i64 k, .int .i64 x], .func (.func 17) #[] #[]] W
      fun e w' => ∃ q v', e = .returned (.tuple #[.agg #[.pointer q], v']) ∧ Is w' q (dropM lt k T) ∧ Prs 0 w' v' (rep kf (dropM lt k T).toList) ∧ Below W.heap.size W w' := by
  have HF : ∀ f, Fence.wide.fn f := fun _ => trivial
  have hlen : (rep kf T.toList).length ≤ 100000 := by have := T.sz_eq; simp only [rep, List.length_map]; omega
  have hR := rep_drop km hok hol st
  rw [← dropM_toList st k T hso] at hR
  have HR := Lib.hid hR; have HLEN := Lib.hid hlen
  have HT := Lib.hid hT; have HV := Lib.hid hV; have HSZ := Lib.hid (show T.sz ≤ 900000 by omega); have HOK := Lib.hid hok
  obtain ⟨a0, cap0, hv⟩ := hV.len
  clear hT hV hso hol hsz hok hR hlen
  subst hv
  go_enter Try.func16, Try.ntmps16
  go_wp2_with fail
  obtain ⟨W1, hW1⟩ : ∃ W1, ((W.alloc (.cells #[.pointer p] 26)).alloc (.cells #[.bool true, Value.int .i64 k, .int .i64 x] 36)).alloc (.cells #[.pointer none] 26) = W1 := ⟨_, rfl⟩
  have hs1 : W1.heap.size = W.heap.size + 3 := by rw [← hW1]; simp
  have hB1 : Below W.heap.size W W1 := by rw [← hW1]; exact (((Below.refl _ W).alloc (Nat.le_refl _) _).alloc (by simp) _).alloc (by simp; omega) _
  have h1 : W1.heap[W.heap.size]? = some (.cells #[.pointer p] 26 (0, 0)) := by rw [← hW1]; exact three_0 _ _ _ _
  have h2 : W1.heap[W.heap.size + 1]? = some (.cells #[.bool true, Value.int .i64 k, .int .i64 x] 36 (0, 0)) := by rw [← hW1]; exact three_1 _ _ _ _
  have h3 : W1.heap[W.heap.size + 2]? = some (.cells #[.pointer none] 26 (0, 0)) := by rw [← hW1]; exact three_2 _ _ _ _
  rw [hW1]
  have HB1 := Lib.hid hB1; have HS1 := Lib.hid hs1; have H3 := Lib.hid h3
  have d1 : ∀ w, Below (W.heap.size + 2) W1 w → w.cell? ⟨W.heap.size, 0, none⟩ = some (.pointer p) := fun w hw => by
    rw [hw.cell (by simp)]; simp [World.cell?, h1]
  have d2 : ∀ w, Below (W.heap.size + 2) W1 w → w.cell? ⟨W.heap.size + 1, 1, none⟩ = some (Value.int .i64 k) := fun w hw => by
    rw [hw.cell (by simp)]; simp [World.cell?, h2]
  clear hW1 hs1 hB1 h1 h2 h3
  refine wp_region_anyH (Below (W.heap.size + 2) W1) (by kernel_rfl) ?_
  have B0 : Below (W.heap.size + 2) W1 W1.drew := (Below.refl _ _).drew
  refine AnyH.take (i := 0) (d := some 12) (v := ?_) (by kernel_rfl) rfl rfl HF (fun _ _ _ h => h) (.inl ⟨by rfl, ?_⟩) (by first | assumption | rfl) ?_
  rotate_left
  · intro w hS; try subst hS
    go_simp; try with_reducible rfl
  try simp only [Act.put, List.setIfInBounds_toArray, List.set_cons_zero, List.set_cons_succ]
  refine AnyH.take (i := 1) (d := some 13) (v := ?_) (by kernel_rfl) rfl rfl HF (fun _ _ _ h => h) (.inl ⟨by rfl, ?_⟩) (by first | assumption | rfl) ?_
  rotate_left
  · intro w hS; try subst hS
    go_simp; try with_reducible rfl
  try simp only [Act.put, List.setIfInBounds_toArray, List.set_cons_zero, List.set_cons_succ]
  refine AnyH.take (i := 2) (d := some 14) (v := ?_) (by kernel_rfl) rfl rfl HF (fun _ _ _ h => h) (.inl ⟨by rfl, ?_⟩) (by first | assumption | rfl) ?_
  rotate_left
  · intro w hS; try subst hS
    go_simp; try with_reducible rfl
  try simp only [Act.put, List.setIfInBounds_toArray, List.set_cons_zero, List.set_cons_succ]
  refine AnyH.take (i := 4) (d := some 16) (v := ?_) (by kernel_rfl) rfl rfl HF (fun _ _ _ h => h) (.inl ⟨by rfl, ?_⟩) (by first | assumption | rfl) ?_
  rotate_left
  · intro w hS; try subst hS
    go_simp; try with_reducible rfl
  try simp only [Act.put, List.setIfInBounds_toArray, List.set_cons_zero, List.set_cons_succ]
  refine AnyH.take (i := 5) (d := some 17) (v := ?_) (by kernel_rfl) rfl rfl HF (fun _ _ _ h => h) (.inl ⟨by rfl, ?_⟩) (by first | assumption | rfl) ?_
  rotate_left
  · intro w hS; try subst hS
    go_simp; try with_reducible rfl
  try simp only [Act.put, List.setIfInBounds_toArray, List.set_cons_zero, List.set_cons_succ]
  refine AnyH.take (i := 6) (d := some 18) (v := ?_) (by kernel_rfl) rfl rfl HF (fun _ _ _ h => h) (.inl ⟨by rfl, ?_⟩) (by first | assumption | rfl) ?_
  rotate_left
  · intro w hS; try subst hS
    go_simp; try with_reducible rfl
  try simp only [Act.put, List.setIfInBounds_toArray, List.set_cons_zero, List.set_cons_succ]
  refine AnyH.take (i := 7) (d := some 19) (v := ?_) (by kernel_rfl) rfl rfl HF (fun _ _ _ h => h) (.inl ⟨by rfl, ?_⟩) (by first | assumption | rfl) ?_
  rotate_left
  · intro w hS; try subst hS
    go_simp; try with_reducible rfl
  try simp only [Act.put, List.setIfInBounds_toArray, List.set_cons_zero, List.set_cons_succ]
  refine AnyH.one (i := 3) (by kernel_rfl) (by kernel_rfl) rfl HF (by rfl) (fun K hK => ?_)
  go_simp
  first | ((with_reducible refine And.intro ?hdep ?_); (case hdep => first | rfl | (intro h; cases h))) | skip
  refine callsIn_wide.2 ((Drop_any k (HT.out.below (HB1.out.trans (Below.drew (Below.refl _ _)))) HSZ.out).mono ?_)
  rintro e w2 ⟨q, rfl, hq, hB2⟩
  have hC2 : Below (W.heap.size + 2) W1 w2 := B0.trans (hB2.mono (by have := HS1.out; simp; omega))
  have hz2 : W.heap.size + 3 ≤ w2.heap.size := by have := HS1.out; have := hB2.size; simp at this; omega
  have HQ := Lib.hid hq; have HC3 := Lib.hid (box_below (A := W1.drew) hB2 H3.out); have HZ2 := Lib.hid hz2; have HC2 := Lib.hid hC2
  clear hq hB2 hz2
  refine hK _ _ hC2 ?_
  clear hK K
  try simp only [Act.put, List.setIfInBounds_toArray, List.set_cons_zero, List.set_cons_succ]
  refine AnyH.one (i := 8) (by kernel_rfl) (by kernel_rfl) rfl HF (by rfl) (fun K hK => ?_)
  go_simp
  first | ((with_reducible refine And.intro ?hdep ?_); (case hdep => first | rfl | (intro h; cases h))) | skip
  refine callsIn_wide.2 ((key_any k HOK.out _).mono ?_)
  rintro e w3 ⟨rfl, hB3⟩
  have hC4 : Below (W.heap.size + 2) W1 w3 := HC2.out.trans (hB3.mono (by have := HZ2.out; omega))
  have HQ2 := Lib.hid (HQ.out.below hB3); have HC5 := Lib.hid (box_below hB3 HC3.out); have HZ3 := Lib.hid (Nat.le_trans HZ2.out hB3.size); have HC4 := Lib.hid hC4
  have HV3 := Lib.hid (HV.out.below (HB1.out.trans (hC4.mono (by omega))))
  clear hB3
  refine hK _ _ hC4 ?_
  clear hK K
  try simp only [Act.put, List.setIfInBounds_toArray, List.set_cons_zero, List.set_cons_succ]
  refine AnyH.one (i := 9) (by kernel_rfl) (by kernel_rfl) rfl HF (by rfl) (fun K hK => ?_)
  go_simp
  first | ((with_reducible refine And.intro ?hdep ?_); (case hdep => first | rfl | (intro h; cases h))) | skip
  refine callsIn_wide.2 ((refDrop_any (kf k) HV3.out HLEN.out).mono ?_)
  rintro e w4 ⟨v', rfl, hv', hB4⟩
  have hC6 : Below (W.heap.size + 2) W1 w4 := HC4.out.trans (hB4.mono (by have := HZ3.out; omega))
  have hc6 := box_below hB4 HC5.out
  have c6 := box_cell hc6; have f6 := box_frozen hc6
  have HQ3 := Lib.hid (HQ2.out.below hB4); have HV4 := Lib.hid hv'
  have HQ4 := Lib.hid (HQ3.out.keep (KeepT.setCell (nt := 81) (a := ⟨W.heap.size + 2, 0, none⟩) (v := .pointer q) hc6 (by decide)))
  have HV5 := Lib.hid (SlA.setCell HV4.out (a := ⟨W.heap.size + 2, 0, none⟩) (.pointer q) hc6 (by decide))
  have hC7 : Below (W.heap.size + 2) W1 (w4.setCell ⟨W.heap.size + 2, 0, none⟩ (.pointer q)) := hC6.setCell (Nat.le_refl _) _
  have hc8 := box_cell (box_set (.pointer q) hc6)
  have HC8 := Lib.hid hc8; have HC7 := Lib.hid hC7
  clear hv' hB4 hc6 hc8 hC7
  refine hK _ _ hC6 ?_
  clear hK K
  try simp only [Act.put, List.setIfInBounds_toArray, List.set_cons_zero, List.set_cons_succ]
  refine AnyH.one (i := 10) (by kernel_rfl) (by kernel_rfl) rfl HF (by rfl) (fun K hK => ?_)
  go_simp
  refine hK _ _ HC7.out ?_
  clear hK K
  have hC7 := HC7.out
  try simp only [Act.put, List.setIfInBounds_toArray, List.set_cons_zero, List.set_cons_succ]
  refine AnyH.take (i := 11) (d := some 9) (v := ?_) (by kernel_rfl) rfl rfl HF (fun _ _ _ h => h) (.inl ⟨by rfl, ?_⟩) (by first | assumption | rfl) ?_
  rotate_left
  · intro w hS; try subst hS
    go_simp; try with_reducible rfl
  try simp only [Act.put, List.setIfInBounds_toArray, List.set_cons_zero, List.set_cons_succ]
  refine AnyH.done (by kernel_rfl) ?_
  go_wp2_with fail
  have hc8 := HC8.out
  refine bodyPost_ret (v := .tuple #[.agg #[.pointer q], v']) (by simp [results, Try.results16, go_sem, hc8]) rfl ⟨q, v', rfl, HQ4.out, by rw [← HR.out]; exact HV5.out, HB1.out.trans (HC7.out.mono (by omega))⟩
set_option maxRecDepth 100000 in
set_option maxHeartbeats 4000000 in
theorem do_put (k : Int) (x : Int) (hok : ok k) {W : World} {p : Option Addr} {v : Value} {T : Tr Int Int} (hT : Is W p T) (hV : Prs 0 W v (rep kf T.toList)) (hso : Sorted lt T.toList) (hol : OkL ok T.toList) (hsz : T.sz ≤ 10000) :
    Calls Try.prog 16 #[.agg #[.pointer p], v, .agg #[.bool false, Value.int .i64 k, .int .i64 x], .func (.func 17) #[] #[]] W
      fun e w' => ∃ q v', e = .returned (.tuple #[.agg #[.pointer q], v']) ∧ Is w' q (putF lt k x T) ∧ Prs 0 w' v' (rep kf (putF lt k x T).toList) ∧ Below W.heap.size W w' := by
  have HF : ∀ f, Fence.wide.fn f := fun _ => trivial
  have hlen : (rep kf T.toList).length ≤ 100000 := by have := T.sz_eq; simp only [rep, List.length_map]; omega
  have hR := rep_put km (x := x) hok st hol hso
  rw [← putF_toList st k x T hso] at hR
  have HR := Lib.hid hR; have HLEN := Lib.hid hlen
  have HT := Lib.hid hT; have HV := Lib.hid hV; have HSZ := Lib.hid (show T.sz ≤ 900000 by omega); have HOK := Lib.hid hok
  obtain ⟨a0, cap0, hv⟩ := hV.len
  clear hT hV hso hol hsz hok hR hlen
  subst hv
  go_enter Try.func16, Try.ntmps16
  go_wp2_with fail
  obtain ⟨W1, hW1⟩ : ∃ W1, ((W.alloc (.cells #[.pointer p] 26)).alloc (.cells #[.bool false, Value.int .i64 k, .int .i64 x] 36)).alloc (.cells #[.pointer none] 26) = W1 := ⟨_, rfl⟩
  have hs1 : W1.heap.size = W.heap.size + 3 := by rw [← hW1]; simp
  have hB1 : Below W.heap.size W W1 := by rw [← hW1]; exact (((Below.refl _ W).alloc (Nat.le_refl _) _).alloc (by simp) _).alloc (by simp; omega) _
  have h1 : W1.heap[W.heap.size]? = some (.cells #[.pointer p] 26 (0, 0)) := by rw [← hW1]; exact three_0 _ _ _ _
  have h2 : W1.heap[W.heap.size + 1]? = some (.cells #[.bool false, Value.int .i64 k, .int .i64 x] 36 (0, 0)) := by rw [← hW1]; exact three_1 _ _ _ _
  have h3 : W1.heap[W.heap.size + 2]? = some (.cells #[.pointer none] 26 (0, 0)) := by rw [← hW1]; exact three_2 _ _ _ _
  rw [hW1]
  have HB1 := Lib.hid hB1; have HS1 := Lib.hid hs1; have H3 := Lib.hid h3
  have d1 : ∀ w, Below (W.heap.size + 2) W1 w → w.cell? ⟨W.heap.size, 0, none⟩ = some (.pointer p) := fun w hw => by
    rw [hw.cell (by simp)]; simp [World.cell?, h1]
  have d2 : ∀ w, Below (W.heap.size + 2) W1 w → w.cell? ⟨W.heap.size + 1, 1, none⟩ = some (Value.int .i64 k) := fun w hw => by
    rw [hw.cell (by simp)]; simp [World.cell?, h2]
  have d3 : ∀ w, Below (W.heap.size + 2) W1 w → w.cell? ⟨W.heap.size + 1, 2, none⟩ = some (.int .i64 x) := fun w hw => by
    rw [hw.cell (by simp)]; simp [World.cell?, h2]
  clear hW1 hs1 hB1 h1 h2 h3
  refine wp_region_anyH (Below (W.heap.size + 2) W1) (by kernel_rfl) ?_
  have B0 : Below (W.heap.size + 2) W1 W1.drew := (Below.refl _ _).drew
  refine AnyH.take (i := 0) (d := some 22) (v := ?_) (by kernel_rfl) rfl rfl HF (fun _ _ _ h => h) (.inl ⟨by rfl, ?_⟩) (by first | assumption | rfl) ?_
  rotate_left
  · intro w hS; try subst hS
    go_simp; try with_reducible rfl
  try simp only [Act.put, List.setIfInBounds_toArray, List.set_cons_zero, List.set_cons_succ]
  refine AnyH.take (i := 1) (d := some 23) (v := ?_) (by kernel_rfl) rfl rfl HF (fun _ _ _ h => h) (.inl ⟨by rfl, ?_⟩) (by first | assumption | rfl) ?_
  rotate_left
  · intro w hS; try subst hS
    go_simp; try with_reducible rfl
  try simp only [Act.put, List.setIfInBounds_toArray, List.set_cons_zero, List.set_cons_succ]
  refine AnyH.take (i := 2) (d := some 24) (v := ?_) (by kernel_rfl) rfl rfl HF (fun _ _ _ h => h) (.inl ⟨by rfl, ?_⟩) (by first | assumption | rfl) ?_
  rotate_left
  · intro w hS; try subst hS
    go_simp; try with_reducible rfl
  try simp only [Act.put, List.setIfInBounds_toArray, List.set_cons_zero, List.set_cons_succ]
  refine AnyH.take (i := 3) (d := some 25) (v := ?_) (by kernel_rfl) rfl rfl HF (fun _ _ _ h => h) (.inl ⟨by rfl, ?_⟩) (by first | assumption | rfl) ?_
  rotate_left
  · intro w hS; try subst hS
    go_simp; try with_reducible rfl
  try simp only [Act.put, List.setIfInBounds_toArray, List.set_cons_zero, List.set_cons_succ]
  refine AnyH.take (i := 4) (d := some 26) (v := ?_) (by kernel_rfl) rfl rfl HF (fun _ _ _ h => h) (.inl ⟨by rfl, ?_⟩) (by first | assumption | rfl) ?_
  rotate_left
  · intro w hS; try subst hS
    go_simp; try with_reducible rfl
  try simp only [Act.put, List.setIfInBounds_toArray, List.set_cons_zero, List.set_cons_succ]
  refine AnyH.take (i := 6) (d := some 28) (v := ?_) (by kernel_rfl) rfl rfl HF (fun _ _ _ h => h) (.inl ⟨by rfl, ?_⟩) (by first | assumption | rfl) ?_
  rotate_left
  · intro w hS; try subst hS
    go_simp; try with_reducible rfl
  try simp only [Act.put, List.setIfInBounds_toArray, List.set_cons_zero, List.set_cons_succ]
  refine AnyH.take (i := 7) (d := some 29) (v := ?_) (by kernel_rfl) rfl rfl HF (fun _ _ _ h => h) (.inl ⟨by rfl, ?_⟩) (by first | assumption | rfl) ?_
  rotate_left
  · intro w hS; try subst hS
    go_simp; try with_reducible rfl
  try simp only [Act.put, List.setIfInBounds_toArray, List.set_cons_zero, List.set_cons_succ]
  refine AnyH.take (i := 8) (d := some 30) (v := ?_) (by kernel_rfl) rfl rfl HF (fun _ _ _ h => h) (.inl ⟨by rfl, ?_⟩) (by first | assumption | rfl) ?_
  rotate_left
  · intro w hS; try subst hS
    go_simp; try with_reducible rfl
  try simp only [Act.put, List.setIfInBounds_toArray, List.set_cons_zero, List.set_cons_succ]
  refine AnyH.take (i := 9) (d := some 31) (v := ?_) (by kernel_rfl) rfl rfl HF (fun _ _ _ h => h) (.inl ⟨by rfl, ?_⟩) (by first | assumption | rfl) ?_
  rotate_left
  · intro w hS; try subst hS
    go_simp; try with_reducible rfl
  try simp only [Act.put, List.setIfInBounds_toArray, List.set_cons_zero, List.set_cons_succ]
  refine AnyH.take (i := 11) (d := some 33) (v := ?_) (by kernel_rfl) rfl rfl HF (fun _ _ _ h => h) (.inl ⟨by rfl, ?_⟩) (by first | assumption | rfl) ?_
  rotate_left
  · intro w hS; try subst hS
    go_simp; try with_reducible rfl
  try simp only [Act.put, List.setIfInBounds_toArray, List.set_cons_zero, List.set_cons_succ]
  refine AnyH.take (i := 12) (d := some 34) (v := ?_) (by kernel_rfl) rfl rfl HF (fun _ _ _ h => h) (.inl ⟨by rfl, ?_⟩) (by first | assumption | rfl) ?_
  rotate_left
  · intro w hS; try subst hS
    go_simp; try with_reducible rfl
  try simp only [Act.put, List.setIfInBounds_toArray, List.set_cons_zero, List.set_cons_succ]
  refine AnyH.one (i := 5) (by kernel_rfl) (by kernel_rfl) rfl HF (by rfl) (fun K hK => ?_)
  go_simp
  first | ((with_reducible refine And.intro ?hdep ?_); (case hdep => first | rfl | (intro h; cases h))) | skip
  refine callsIn_wide.2 ((Put_any k x (HT.out.below (HB1.out.trans (Below.drew (Below.refl _ _)))) HSZ.out).mono ?_)
  rintro e w2 ⟨q, rfl, hq, hB2⟩
  have hC2 : Below (W.heap.size + 2) W1 w2 := B0.trans (hB2.mono (by have := HS1.out; simp; omega))
  have hz2 : W.heap.size + 3 ≤ w2.heap.size := by have := HS1.out; have := hB2.size; simp at this; omega
  have HQ := Lib.hid hq; have HC3 := Lib.hid (box_below (A := W1.drew) hB2 H3.out); have HZ2 := Lib.hid hz2; have HC2 := Lib.hid hC2
  clear hq hB2 hz2
  refine hK _ _ hC2 ?_
  clear hK K
  try simp only [Act.put, List.setIfInBounds_toArray, List.set_cons_zero, List.set_cons_succ]
  refine AnyH.one (i := 10) (by kernel_rfl) (by kernel_rfl) rfl HF (by rfl) (fun K hK => ?_)
  go_simp
  first | ((with_reducible refine And.intro ?hdep ?_); (case hdep => first | rfl | (intro h; cases h))) | skip
  refine callsIn_wide.2 ((key_any k HOK.out _).mono ?_)
  rintro e w3 ⟨rfl, hB3⟩
  have hC4 : Below (W.heap.size + 2) W1 w3 := HC2.out.trans (hB3.mono (by have := HZ2.out; omega))
  have HQ2 := Lib.hid (HQ.out.below hB3); have HC5 := Lib.hid (box_below hB3 HC3.out); have HZ3 := Lib.hid (Nat.le_trans HZ2.out hB3.size); have HC4 := Lib.hid hC4
  have HV3 := Lib.hid (HV.out.below (HB1.out.trans (hC4.mono (by omega))))
  clear hB3
  refine hK _ _ hC4 ?_
  clear hK K
  try simp only [Act.put, List.setIfInBounds_toArray, List.set_cons_zero, List.set_cons_succ]
  refine AnyH.one (i := 13) (by kernel_rfl) (by kernel_rfl) rfl HF (by rfl) (fun K hK => ?_)
  go_simp
  first | ((with_reducible refine And.intro ?hdep ?_); (case hdep => first | rfl | (intro h; cases h))) | skip
  refine callsIn_wide.2 ((refPut_any (kf k) x HV3.out HLEN.out).mono ?_)
  rintro e w4 ⟨v', rfl, hv', hB4⟩
  have hC6 : Below (W.heap.size + 2) W1 w4 := HC4.out.trans (hB4.mono (by have := HZ3.out; omega))
  have hc6 := box_below hB4 HC5.out
  have c6 := box_cell hc6; have f6 := box_frozen hc6
  have HQ3 := Lib.hid (HQ2.out.below hB4); have HV4 := Lib.hid hv'
  have HQ4 := Lib.hid (HQ3.out.keep (KeepT.setCell (nt := 81) (a := ⟨W.heap.size + 2, 0, none⟩) (v := .pointer q) hc6 (by decide)))
  have HV5 := Lib.hid (SlA.setCell HV4.out (a := ⟨W.heap.size + 2, 0, none⟩) (.pointer q) hc6 (by decide))
  have hC7 : Below (W.heap.size + 2) W1 (w4.setCell ⟨W.heap.size + 2, 0, none⟩ (.pointer q)) := hC6.setCell (Nat.le_refl _) _
  have hc8 := box_cell (box_set (.pointer q) hc6)
  have HC8 := Lib.hid hc8; have HC7 := Lib.hid hC7
  clear hv' hB4 hc6 hc8 hC7
  refine hK _ _ hC6 ?_
  clear hK K
  try simp only [Act.put, List.setIfInBounds_toArray, List.set_cons_zero, List.set_cons_succ]
  refine AnyH.one (i := 14) (by kernel_rfl) (by kernel_rfl) rfl HF (by rfl) (fun K hK => ?_)
  go_simp
  refine hK _ _ HC7.out ?_
  clear hK K
  have hC7 := HC7.out
  try simp only [Act.put, List.setIfInBounds_toArray, List.set_cons_zero, List.set_cons_succ]
  refine AnyH.take (i := 15) (d := some 9) (v := ?_) (by kernel_rfl) rfl rfl HF (fun _ _ _ h => h) (.inl ⟨by rfl, ?_⟩) (by first | assumption | rfl) ?_
  rotate_left
  · intro w hS; try subst hS
    go_simp; try with_reducible rfl
  try simp only [Act.put, List.setIfInBounds_toArray, List.set_cons_zero, List.set_cons_succ]
  refine AnyH.done (by kernel_rfl) ?_
  go_wp2_with fail
  have hc8 := HC8.out
  refine bodyPost_ret (v := .tuple #[.agg #[.pointer q], v']) (by simp [results, Try.results16, go_sem, hc8]) rfl ⟨q, v', rfl, HQ4.out, by rw [← HR.out]; exact HV5.out, HB1.out.trans (HC7.out.mono (by omega))⟩

theorem do_any (a : Bool × Int × Int) (hok : ok a.2.1) {W : World} {p : Option Addr} {v : Value} {T : Tr Int Int} (hT : Is W p T) (hV : Prs 0 W v (rep kf T.toList)) (hso : Sorted lt T.toList) (hol : OkL ok T.toList) (hsz : T.sz ≤ 10000) :
    Calls Try.prog 16 #[.agg #[.pointer p], v, .agg #[.bool a.1, Value.int .i64 a.2.1, .int .i64 a.2.2], .func (.func 17) #[] #[]] W
      fun e w' => ∃ q v', e = .returned (.tuple #[.agg #[.pointer q], v']) ∧ Is w' q (actF a T) ∧ Prs 0 w' v' (rep kf (actF a T).toList) ∧ Below W.heap.size W w' := by
  obtain ⟨d, k, x⟩ := a
  unfold actF
  cases d
  · exact do_put k x hok hT hV hso hol hsz
  · exact do_drop k x hok hT hV hso hol hsz
end ii
end Go.Proofs.Ytdgclambplipnaa
