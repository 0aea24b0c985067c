/- The reference's Changed; same. -/
import Derived.Test.YtdgclambplipnaaChgPlain
import Derived.Test.YtdgclambplipnaaRefAsk
import Derived.Test.YtdgclambplipnaaRef
import Derived.Test.YtdgclambplipnaaMake
import Derived.Test.YtdgclambplipnaaOwn
import Derived.Test.YtdgclambplipnaaTail
import Derived.Outline
namespace Go.Proofs.Ytdgclambplipnaa
open Go.RowKit
attribute [local go_sem] Oper.semAt_some

def putAll (a l : List (ByteArray × Int)) : List (ByteArray × Int) := l.foldl (fun a p => putR p.1 p.2 a) a
theorem putAll_len (l : List (ByteArray × Int)) : ∀ a, (putAll a l).length ≤ a.length + l.length := by
  induction l with
  | nil => intro a; simp [putAll]
  | cons p l ih =>
    intro a
    have h1 := ih (putR p.1 p.2 a)
    have h2 := putR_len p.1 p.2 a
    simp only [putAll, List.foldl_cons, List.length_cons] at h1 ⊢
    omega
theorem putAll_snoc (a l : List (ByteArray × Int)) {j : Nat} (hj : j < l.length) : putAll a (l.take (j + 1)) = putR l[j].1 l[j].2 (putAll a (l.take j)) := by
  rw [List.take_succ_eq_append_getElem hj, putAll, List.foldl_append]; rfl
def difR (la lb : List (ByteArray × Int)) (k : ByteArray) : Bool := ((getR k la).2 != (getR k lb).2) || ((getR k la).1 != (getR k lb).1)
def refChg (la lb : List (ByteArray × Int)) : List ByteArray := ((putAll (putAll [] la) lb).filter fun p => difR la lb p.1).map Prod.fst
def encS (s : ByteArray) : List Value := [.string s]
theorem elemS : Elem Try.prog 64 9 1 16 := elem_of (z := .string ⟨#[]⟩) (by kernel_rfl) (by kernel_rfl) rfl (by decide) (by decide)

set_option maxRecDepth 100000 in
set_option maxHeartbeats 4000000 in
theorem refChanged_any {W : World} {v u : Value} {la lb : List (ByteArray × Int)} (ha : Prs 0 W v la) (hb : Prs 0 W u lb) (hn : la.length + lb.length ≤ 10000) :
    Calls Try.prog 28 #[v, u] W fun e w' => ∃ r, e = .returned r ∧ SlA W.heap.size w' 9 1 encS r (refChg la lb) ∧ Below W.heap.size W w' := by
  have HF : ∀ f, Fence.wide.fn f := fun _ => trivial
  have HA := Lib.hid ha; have HB := Lib.hid hb; have HLN := Lib.hid hn
  obtain ⟨a1, c1, hv⟩ := ha.len
  subst hv
  obtain ⟨a2, c2, hv⟩ := hb.len
  subst hv
  clear ha hb
  go_enter Try.func28, Try.ntmps28
  go_wp2_with fail
  go_loopw [5, 16] (fun s c wr => ∃ j : Nat, j ≤ la.length ∧ c = .int .i64 j ∧ Prs 0 wr s (putAll [] (la.take j)) ∧ Below W.heap.size W wr) (fun _ c _ => la.length - (intOf c).toNat)
  case atStart => exact ⟨0, by omega, rfl, SlA.nil _ _ _ _ _, Below.refl _ _⟩
  case round =>
    obtain ⟨j, hj, rfl, hS, hB⟩ := hrel
    have HS := Lib.hid hS; have HBj := Lib.hid hB
    obtain ⟨a3, c3, hv⟩ := hS.len
    clear hS hB
    subst hv
    by_cases hlt : j < la.length
    · have hl3 : (j : Int) < (la.length : Int) := by omega
      have hl4 : (0 : Int) ≤ (j : Int) := by omega
      obtain ⟨g, cap, he, -, -, hE⟩ := HA.out.at hlt
      simp only [Value.slice.injEq] at he
      obtain ⟨rfl, -, rfl⟩ := he
      have m1 : ∀ w, Below wr.heap.size wr w → w.cell? ⟨g, j * 2, none⟩ = some (.string la[j].1) := fun w h => (hE w (Below.step HBj.out h) j hlt).1
      have m2 : ∀ w, Below wr.heap.size wr w → w.cell? ⟨g, j * 2 + 1, none⟩ = some (.int .i64 la[j].2) := fun w h => (hE w (Below.step HBj.out h) j hlt).2
      have HT := Lib.hid (putAll_snoc [] la hlt)
      have HPL : Hid ((putAll [] (la.take j)).length ≤ 100000) := Lib.hid (by have := putAll_len (la.take j) []; have := HLN.out; simp at *; omega)
      generalize la[j] = x at *
      clear hE
      go_wp2_with fail
      have B0 : Below wr.heap.size wr wr.drew := (Below.refl _ _).drew
      refine wp_region_anyH (Below wr.heap.size wr) (by kernel_rfl) ?_
      refine AnyH.take (i := 0) (d := some 19) (v := ?_) (by kernel_rfl) rfl rfl HF (fun _ _ _ h => h) (.inl ⟨by rfl, ?_⟩) (by first | assumption | rfl) ?_
      rotate_left
      · intro w hS; try subst hS
        go_simp; try with_reducible rfl
      try simp only [Act.put, List.setIfInBounds_toArray, List.set_cons_zero, List.set_cons_succ]
      refine AnyH.take (i := 1) (d := some 20) (v := ?_) (by kernel_rfl) rfl rfl HF (fun _ _ _ h => h) (.inl ⟨by rfl, ?_⟩) (by first | assumption | rfl) ?_
      rotate_left
      · intro w hS; try subst hS
        go_simp; try with_reducible rfl
      try simp only [Act.put, List.setIfInBounds_toArray, List.set_cons_zero, List.set_cons_succ]
      refine AnyH.take (i := 2) (d := some 21) (v := ?_) (by kernel_rfl) rfl rfl HF (fun _ _ _ h => h) (.inl ⟨by rfl, ?_⟩) (by first | assumption | rfl) ?_
      rotate_left
      · intro w hS; try subst hS
        go_simp; try with_reducible rfl
      try simp only [Act.put, List.setIfInBounds_toArray, List.set_cons_zero, List.set_cons_succ]
      refine AnyH.take (i := 3) (d := some 22) (v := ?_) (by kernel_rfl) rfl rfl HF (fun _ _ _ h => h) (.inl ⟨by rfl, ?_⟩) (by first | assumption | rfl) ?_
      rotate_left
      · intro w hS; try subst hS
        go_simp; try with_reducible rfl
      try simp only [Act.put, List.setIfInBounds_toArray, List.set_cons_zero, List.set_cons_succ]
      refine AnyH.take (i := 4) (d := some 23) (v := ?_) (by kernel_rfl) rfl rfl HF (fun _ _ _ h => h) (.inl ⟨by rfl, ?_⟩) (by first | assumption | rfl) ?_
      rotate_left
      · intro w hS; try subst hS
        go_simp; try with_reducible rfl
      try simp only [Act.put, List.setIfInBounds_toArray, List.set_cons_zero, List.set_cons_succ]
      refine AnyH.take (i := 5) (d := some 24) (v := ?_) (by kernel_rfl) rfl rfl HF (fun _ _ _ h => h) (.inl ⟨by rfl, ?_⟩) (by first | assumption | rfl) ?_
      rotate_left
      · intro w hS; try subst hS
        go_simp; try with_reducible rfl
      try simp only [Act.put, List.setIfInBounds_toArray, List.set_cons_zero, List.set_cons_succ]
      refine AnyH.take (i := 6) (d := some 25) (v := ?_) (by kernel_rfl) rfl rfl HF (fun _ _ _ h => h) (.inl ⟨by rfl, ?_⟩) (by first | assumption | rfl) ?_
      rotate_left
      · intro w hS; try subst hS
        go_simp; try with_reducible rfl
      try simp only [Act.put, List.setIfInBounds_toArray, List.set_cons_zero, List.set_cons_succ]
      refine AnyH.take (i := 7) (d := some 26) (v := ?_) (by kernel_rfl) rfl rfl HF (fun _ _ _ h => h) (.inl ⟨by rfl, ?_⟩) (by first | assumption | rfl) ?_
      rotate_left
      · intro w hS; try subst hS
        go_simp; try with_reducible rfl
      try simp only [Act.put, List.setIfInBounds_toArray, List.set_cons_zero, List.set_cons_succ]
      refine AnyH.take (i := 8) (d := some 27) (v := ?_) (by kernel_rfl) rfl rfl HF (fun _ _ _ h => h) (.inl ⟨by rfl, ?_⟩) (by first | assumption | rfl) ?_
      rotate_left
      · intro w hS; try subst hS
        go_simp; try with_reducible rfl
      try simp only [Act.put, List.setIfInBounds_toArray, List.set_cons_zero, List.set_cons_succ]
      refine AnyH.take (i := 9) (d := some 28) (v := ?_) (by kernel_rfl) rfl rfl HF (fun _ _ _ h => h) (.inl ⟨by rfl, ?_⟩) (by first | assumption | rfl) ?_
      rotate_left
      · intro w hS; try subst hS
        go_simp; try with_reducible rfl
      try simp only [Act.put, List.setIfInBounds_toArray, List.set_cons_zero, List.set_cons_succ]
      refine AnyH.take (i := 10) (d := some 29) (v := ?_) (by kernel_rfl) rfl rfl HF (fun _ _ _ h => h) (.inl ⟨by rfl, ?_⟩) (by first | assumption | rfl) ?_
      rotate_left
      · intro w hS; try subst hS
        go_simp; try with_reducible rfl
      try simp only [Act.put, List.setIfInBounds_toArray, List.set_cons_zero, List.set_cons_succ]
      refine AnyH.one (i := 11) (by kernel_rfl) (by kernel_rfl) rfl HF (by rfl) (fun K hK => ?_)
      go_simp
      first | ((with_reducible refine And.intro ?hdep ?_); (case hdep => first | rfl | (intro h; cases h))) | skip
      refine callsIn_wide.2 ((refPut_any x.1 x.2 (HS.out.below B0) HPL.out).mono ?_)
      rintro e w2 ⟨v2, rfl, hV2, b2⟩
      have HV2 := Lib.hid hV2; have HB2 := Lib.hid (Below.step HBj.out (Below.step B0 b2))
      clear hV2
      have B2 : Below wr.heap.size wr w2 := Below.step B0 b2
      refine hK _ _ B2 ?_
      clear hK K
      try simp only [Act.put, List.setIfInBounds_toArray, List.set_cons_zero, List.set_cons_succ]
      refine AnyH.take (i := 12) (d := some 5) (v := ?_) (by kernel_rfl) rfl rfl HF (fun _ _ _ h => h) (.inl ⟨by rfl, ?_⟩) (by first | assumption | rfl) ?_
      rotate_left
      · intro w hS; try subst hS
        go_simp; try with_reducible rfl
      try simp only [Act.put, List.setIfInBounds_toArray, List.set_cons_zero, List.set_cons_succ]
      refine AnyH.done (by kernel_rfl) ?_
      clear m1 m2 B0
      go_wp2_with fail
      go_roundw
      case rel => exact ⟨j + 1, by omega, by go_num, by rw [HT.out]; exact HV2.out, HB2.out⟩
      case measure => simp [intOf]; omega
    · obtain rfl : j = la.length := by omega
      rw [List.take_length] at HS ⊢
      have HPL0 : Hid ((putAll [] la).length ≤ la.length) := Lib.hid (by have := putAll_len la []; simpa using this)
      generalize hl1 : putAll [] la = l1 at *
      have HL1 := Lib.hid hl1
      clear hl1
      go_wp2_with fail
      go_loopw [5, 34] (fun s c wr => ∃ j : Nat, j ≤ lb.length ∧ c = .int .i64 j ∧ Prs 0 wr s (putAll l1 (lb.take j)) ∧ Below W.heap.size W wr) (fun _ c _ => lb.length - (intOf c).toNat)
      case atStart => exact ⟨0, by omega, rfl, HS.out, HBj.out⟩
      case round =>
        obtain ⟨j, hj, rfl, hS, hB⟩ := hrel
        have HS := Lib.hid hS; have HBj := Lib.hid hB
        obtain ⟨a3, c3, hv⟩ := hS.len
        clear hS hB
        subst hv
        by_cases hlt : j < lb.length
        · have hl3 : (j : Int) < (lb.length : Int) := by omega
          have hl4 : (0 : Int) ≤ (j : Int) := by omega
          obtain ⟨g, cap, he, -, -, hE⟩ := HB.out.at hlt
          simp only [Value.slice.injEq] at he
          obtain ⟨rfl, -, rfl⟩ := he
          have m1 : ∀ w, Below wr.heap.size wr w → w.cell? ⟨g, j * 2, none⟩ = some (.string lb[j].1) := fun w h => (hE w (Below.step HBj.out h) j hlt).1
          have m2 : ∀ w, Below wr.heap.size wr w → w.cell? ⟨g, j * 2 + 1, none⟩ = some (.int .i64 lb[j].2) := fun w h => (hE w (Below.step HBj.out h) j hlt).2
          have HT := Lib.hid (putAll_snoc l1 lb hlt)
          have HPL : Hid ((putAll l1 (lb.take j)).length ≤ 100000) := Lib.hid (by have := putAll_len (lb.take j) l1; have := HLN.out; have := HPL0.out; simp at *; omega)
          generalize lb[j] = x at *
          clear hE
          go_wp2_with fail
          have B0 : Below wr.heap.size wr wr.drew := (Below.refl _ _).drew
          refine wp_region_anyH (Below wr.heap.size wr) (by kernel_rfl) ?_
          refine AnyH.take (i := 0) (d := some 37) (v := ?_) (by kernel_rfl) rfl rfl HF (fun _ _ _ h => h) (.inl ⟨by rfl, ?_⟩) (by first | assumption | rfl) ?_
          rotate_left
          · intro w hS; try subst hS
            go_simp; try with_reducible rfl
          try simp only [Act.put, List.setIfInBounds_toArray, List.set_cons_zero, List.set_cons_succ]
          refine AnyH.take (i := 1) (d := some 38) (v := ?_) (by kernel_rfl) rfl rfl HF (fun _ _ _ h => h) (.inl ⟨by rfl, ?_⟩) (by first | assumption | rfl) ?_
          rotate_left
          · intro w hS; try subst hS
            go_simp; try with_reducible rfl
          try simp only [Act.put, List.setIfInBounds_toArray, List.set_cons_zero, List.set_cons_succ]
          refine AnyH.take (i := 2) (d := some 39) (v := ?_) (by kernel_rfl) rfl rfl HF (fun _ _ _ h => h) (.inl ⟨by rfl, ?_⟩) (by first | assumption | rfl) ?_
          rotate_left
          · intro w hS; try subst hS
            go_simp; try with_reducible rfl
          try simp only [Act.put, List.setIfInBounds_toArray, List.set_cons_zero, List.set_cons_succ]
          refine AnyH.take (i := 3) (d := some 40) (v := ?_) (by kernel_rfl) rfl rfl HF (fun _ _ _ h => h) (.inl ⟨by rfl, ?_⟩) (by first | assumption | rfl) ?_
          rotate_left
          · intro w hS; try subst hS
            go_simp; try with_reducible rfl
          try simp only [Act.put, List.setIfInBounds_toArray, List.set_cons_zero, List.set_cons_succ]
          refine AnyH.take (i := 4) (d := some 41) (v := ?_) (by kernel_rfl) rfl rfl HF (fun _ _ _ h => h) (.inl ⟨by rfl, ?_⟩) (by first | assumption | rfl) ?_
          rotate_left
          · intro w hS; try subst hS
            go_simp; try with_reducible rfl
          try simp only [Act.put, List.setIfInBounds_toArray, List.set_cons_zero, List.set_cons_succ]
          refine AnyH.take (i := 5) (d := some 42) (v := ?_) (by kernel_rfl) rfl rfl HF (fun _ _ _ h => h) (.inl ⟨by rfl, ?_⟩) (by first | assumption | rfl) ?_
          rotate_left
          · intro w hS; try subst hS
            go_simp; try with_reducible rfl
          try simp only [Act.put, List.setIfInBounds_toArray, List.set_cons_zero, List.set_cons_succ]
          refine AnyH.take (i := 6) (d := some 43) (v := ?_) (by kernel_rfl) rfl rfl HF (fun _ _ _ h => h) (.inl ⟨by rfl, ?_⟩) (by first | assumption | rfl) ?_
          rotate_left
          · intro w hS; try subst hS
            go_simp; try with_reducible rfl
          try simp only [Act.put, List.setIfInBounds_toArray, List.set_cons_zero, List.set_cons_succ]
          refine AnyH.take (i := 7) (d := some 44) (v := ?_) (by kernel_rfl) rfl rfl HF (fun _ _ _ h => h) (.inl ⟨by rfl, ?_⟩) (by first | assumption | rfl) ?_
          rotate_left
          · intro w hS; try subst hS
            go_simp; try with_reducible rfl
          try simp only [Act.put, List.setIfInBounds_toArray, List.set_cons_zero, List.set_cons_succ]
          refine AnyH.take (i := 8) (d := some 45) (v := ?_) (by kernel_rfl) rfl rfl HF (fun _ _ _ h => h) (.inl ⟨by rfl, ?_⟩) (by first | assumption | rfl) ?_
          rotate_left
          · intro w hS; try subst hS
            go_simp; try with_reducible rfl
          try simp only [Act.put, List.setIfInBounds_toArray, List.set_cons_zero, List.set_cons_succ]
          refine AnyH.take (i := 9) (d := some 46) (v := ?_) (by kernel_rfl) rfl rfl HF (fun _ _ _ h => h) (.inl ⟨by rfl, ?_⟩) (by first | assumption | rfl) ?_
          rotate_left
          · intro w hS; try subst hS
            go_simp; try with_reducible rfl
          try simp only [Act.put, List.setIfInBounds_toArray, List.set_cons_zero, List.set_cons_succ]
          refine AnyH.take (i := 10) (d := some 47) (v := ?_) (by kernel_rfl) rfl rfl HF (fun _ _ _ h => h) (.inl ⟨by rfl, ?_⟩) (by first | assumption | rfl) ?_
          rotate_left
          · intro w hS; try subst hS
            go_simp; try with_reducible rfl
          try simp only [Act.put, List.setIfInBounds_toArray, List.set_cons_zero, List.set_cons_succ]
          refine AnyH.one (i := 11) (by kernel_rfl) (by kernel_rfl) rfl HF (by rfl) (fun K hK => ?_)
          go_simp
          first | ((with_reducible refine And.intro ?hdep ?_); (case hdep => first | rfl | (intro h; cases h))) | skip
          refine callsIn_wide.2 ((refPut_any x.1 x.2 (HS.out.below B0) HPL.out).mono ?_)
          rintro e w2 ⟨v2, rfl, hV2, b2⟩
          have HV2 := Lib.hid hV2; have HB2 := Lib.hid (Below.step HBj.out (Below.step B0 b2))
          clear hV2
          have B2 : Below wr.heap.size wr w2 := Below.step B0 b2
          refine hK _ _ B2 ?_
          clear hK K
          try simp only [Act.put, List.setIfInBounds_toArray, List.set_cons_zero, List.set_cons_succ]
          refine AnyH.take (i := 12) (d := some 5) (v := ?_) (by kernel_rfl) rfl rfl HF (fun _ _ _ h => h) (.inl ⟨by rfl, ?_⟩) (by first | assumption | rfl) ?_
          rotate_left
          · intro w hS; try subst hS
            go_simp; try with_reducible rfl
          try simp only [Act.put, List.setIfInBounds_toArray, List.set_cons_zero, List.set_cons_succ]
          refine AnyH.done (by kernel_rfl) ?_
          clear m1 m2 B0
          go_wp2_with fail
          go_roundw
          case rel => exact ⟨j + 1, by omega, by go_num, by rw [HT.out]; exact HV2.out, HB2.out⟩
          case measure => simp [intOf]; omega
        · obtain rfl : j = lb.length := by omega
          rw [List.take_length] at HS ⊢
          have HPL2 : Hid ((putAll l1 lb).length ≤ 10000) := Lib.hid (by have := putAll_len lb l1; have := HLN.out; have := HPL0.out; omega)
          have HRC : Hid (refChg la lb = ((putAll l1 lb).filter fun p => difR la lb p.1).map Prod.fst) := Lib.hid (by unfold refChg; rw [HL1.out])
          generalize putAll l1 lb = U at *
          have HAw := Lib.hid (HA.out.below HBj.out); have HBw := Lib.hid (HB.out.below HBj.out); have HBW := HBj
          obtain ⟨wo, rfl⟩ : ∃ wo : World, wo = wr := ⟨_, rfl⟩
          clear HA HB HBj
          go_wp2_with fail
          go_loopw [8, 52] (fun s c wr => ∃ j : Nat, j ≤ U.length ∧ c = .int .i64 j ∧ SlA wo.heap.size wr 9 1 encS s (((U.take j).filter fun p => difR la lb p.1).map Prod.fst) ∧ Below wo.heap.size wo wr) (fun _ c _ => U.length - (intOf c).toNat)
          case atStart => exact ⟨0, by omega, rfl, SlA.nil _ _ _ _ _, Below.refl _ _⟩
          case round =>
            obtain ⟨j, hj, rfl, hS2, hB⟩ := hrel
            have HS2 := Lib.hid hS2; have HBj := Lib.hid hB
            obtain ⟨a4, c4, hv⟩ := hS2.len
            have hfl : (((U.take j).filter fun p => difR la lb p.1).map Prod.fst).length ≤ j := by
              rw [List.length_map]; exact Nat.le_trans (List.length_filter_le _ _) (List.length_take_le _ _)
            have HFL := Lib.hid hfl
            clear hS2 hB hfl
            subst hv
            by_cases hlt : j < U.length
            · have hl3 : (j : Int) < (U.length : Int) := by omega
              have hl4 : (0 : Int) ≤ (j : Int) := by omega
              obtain ⟨g, cap, he, -, -, hE⟩ := HS.out.at hlt
              simp only [Value.slice.injEq] at he
              obtain ⟨rfl, -, rfl⟩ := he
              have m1 : ∀ w, Below wr.heap.size wr w → w.cell? ⟨g, j * 2, none⟩ = some (.string U[j].1) := fun w h => (hE w (Below.step HBj.out h) j hlt).1
              have n1 := m1 wr (Below.refl _ _)
              have HT : Hid (((U.take (j + 1)).filter fun p => difR la lb p.1).map Prod.fst = (((U.take j).filter fun p => difR la lb p.1).map Prod.fst) ++ (if difR la lb U[j].1 then [U[j].1] else [])) := Lib.hid (by
                rw [List.take_succ_eq_append_getElem hlt, List.filter_append, List.map_append]
                congr 1
                by_cases h : difR la lb U[j].1 <;> simp [h])
              generalize U[j].1 = k at *
              generalize hout : (((U.take j).filter fun p => difR la lb p.1).map Prod.fst) = out at *
              have HM1 := Lib.hid m1
              clear hE hout m1
              obtain ⟨gx, gb, hga⟩ : ∃ gx gb, getR k la = (gx, gb) := ⟨_, _, rfl⟩
              obtain ⟨hx, hb, hgb⟩ : ∃ gx gb, getR k lb = (gx, gb) := ⟨_, _, rfl⟩
              have HGA := Lib.hid hga; have HGB := Lib.hid hgb
              clear hga hgb
              go_wp2_with fail
              refine (refGet_any k (HAw.out.below HBj.out) (by have := HLN.out; omega)).mono ?_
              rintro e w2 ⟨rfl, b2⟩
              rw [HGA.out]
              simp only [getRV]
              have n2 := HM1.out w2 b2
              have HB2 := Lib.hid b2
              clear b2 n1
              go_wp2_with fail
              refine (refGet_any k (HBw.out.below (Below.step HBj.out HB2.out)) (by have := HLN.out; omega)).mono ?_
              rintro e w3 ⟨rfl, b3⟩
              rw [HGB.out]
              simp only [getRV]
              have n3 := HM1.out w3 (Below.step HB2.out b3)
              have HB3 := Lib.hid (Below.step HBj.out (Below.step HB2.out b3))
              have HS3 := Lib.hid ((HS2.out.below HB2.out).below b3)
              have HBY : Hid ((out.length + 1) * 16 ≤ 140737488355328) := Lib.hid (by have := HFL.out; have := HPL2.out; omega)
              have HDF : Hid (difR la lb k = ((gb != hb) || (gx != hx))) := Lib.hid (by unfold difR; rw [HGA.out, HGB.out])
              clear b3 n2
              have hub : (j : Int) < 10000 := by have := HPL2.out; omega
              have h3 : (gx != hx) = true ∨ (gx != hx) = false := by cases (gx != hx) <;> simp
              have h4 : (gb = true ∧ hb = false) ∨ (gb = false ∧ hb = true) ∨ (gb = true ∧ hb = true) ∨ (gb = false ∧ hb = false) := by cases gb <;> cases hb <;> simp
              rcases h4 with ⟨rfl, rfl⟩ | ⟨rfl, rfl⟩ | h4
              · have HT2 : Hid ((((U.take (j + 1)).filter fun p => difR la lb p.1).map Prod.fst) = out ++ [k]) := Lib.hid (by rw [HT.out, HDF.out]; simp)
                clear h3
                go_wp2_with (
                  at_builtin
                  refine wp_app1G (w0 := w3) (enc := encS) elemS (fun _ => rfl) rfl _ _ rfl rfl HS3.out k rfl rfl (by simp [encS, Value.oneCell']) HBY.out HB3.out.size ?_
                  intro v' w5 hS' hg hb'
                  have HS5 := Lib.hid hS'; have HB5 := Lib.hid (HB3.out.trans hb')
                  clear hS' hg hb')
                go_roundw
                case rel => exact ⟨j + 1, by omega, by go_num, by rw [HT2.out]; exact HS5.out, HB5.out⟩
                case measure => simp [intOf]; omega
              · have HT2 : Hid ((((U.take (j + 1)).filter fun p => difR la lb p.1).map Prod.fst) = out ++ [k]) := Lib.hid (by rw [HT.out, HDF.out]; simp)
                clear h3
                go_wp2_with (
                  at_builtin
                  refine wp_app1G (w0 := w3) (enc := encS) elemS (fun _ => rfl) rfl _ _ rfl rfl HS3.out k rfl rfl (by simp [encS, Value.oneCell']) HBY.out HB3.out.size ?_
                  intro v' w5 hS' hg hb'
                  have HS5 := Lib.hid hS'; have HB5 := Lib.hid (HB3.out.trans hb')
                  clear hS' hg hb')
                go_roundw
                case rel => exact ⟨j + 1, by omega, by go_num, by rw [HT2.out]; exact HS5.out, HB5.out⟩
                case measure => simp [intOf]; omega
              have HT3 : Hid ((((U.take (j + 1)).filter fun p => difR la lb p.1).map Prod.fst) = out ++ (if (gx != hx) = true then [k] else [])) := Lib.hid (by
                rw [HT.out, HDF.out]
                rcases h4 with ⟨rfl, rfl⟩ | ⟨rfl, rfl⟩ <;> simp)
              rcases h3 with h2 | h2
              · have HT2 : Hid ((((U.take (j + 1)).filter fun p => difR la lb p.1).map Prod.fst) = out ++ [k]) := Lib.hid (by rw [HT3.out, if_pos h2])
                rcases h4 with ⟨rfl, rfl⟩ | ⟨rfl, rfl⟩
                all_goals
                  go_wp2_with (
                    at_builtin
                    refine wp_app1G (w0 := w3) (enc := encS) elemS (fun _ => rfl) rfl _ _ rfl rfl HS3.out k rfl rfl (by simp [encS, Value.oneCell']) HBY.out HB3.out.size ?_
                    intro v' w5 hS' hg hb'
                    have HS5 := Lib.hid hS'; have HB5 := Lib.hid (HB3.out.trans hb')
                    clear hS' hg hb')
                  go_roundw
                  case rel => exact ⟨j + 1, by omega, by go_num, by rw [HT2.out]; exact HS5.out, HB5.out⟩
                  case measure => simp [intOf]; omega
              · have HT2 : Hid ((((U.take (j + 1)).filter fun p => difR la lb p.1).map Prod.fst) = out) := Lib.hid (by rw [HT3.out, if_neg (by rw [h2]; simp)]; simp)
                rcases h4 with ⟨rfl, rfl⟩ | ⟨rfl, rfl⟩
                all_goals
                  go_wp2_with fail
                  go_roundw
                  case rel => exact ⟨j + 1, by omega, by go_num, by rw [HT2.out]; exact HS3.out, HB3.out⟩
                  case measure => simp [intOf]; omega
            · obtain rfl : j = U.length := by omega
              rw [List.take_length] at HS2 ⊢
              rw [← HRC.out] at HS2 ⊢
              go_wp2_with fail
              go_ret
              exact ⟨_, rfl, HS2.out.mono HBW.out.size, Below.step HBW.out HBj.out⟩
end Go.Proofs.Ytdgclambplipnaa
