/- The contracts of the methods Get, Put, Len, Floor and Ceil, at each instance. -/
import Derived.Test.YtdgclambplipnaaPutis
namespace Go.Proofs.Ytdgclambplipnaa
open Go.RowKit
namespace is

set_option maxHeartbeats 800000 in
theorem Len_any {W : World} {p : Option Addr} {T : Tr Int ByteArray} (h : Is W p T) :
    Calls Try.prog 34 #[.agg #[.pointer p]] W fun e w' => e = .returned (.int .i64 T.sz) ∧ Below W.heap.size W w' := by
  have hb : Below W.heap.size W (W.alloc (.cells #[.pointer p] 73)) := (Below.refl _ W).alloc (Nat.le_refl _) _
  have H := Lib.hid (count_any (h.below hb))
  clear h
  have HB := Lib.hid hb; clear hb
  go_enter Try.func34, Try.ntmps34
  go_wp2_with fail
  refine H.out.mono ?_; rintro e w' ⟨rfl, rfl⟩
  go_wp2_with fail
  go_ret
  exact ⟨rfl, HB.out⟩

set_option maxHeartbeats 800000 in
theorem Get_any (k : Int) {W : World} {p : Option Addr} {T : Tr Int ByteArray} (h : Is W p T) :
    Calls Try.prog 32 #[.agg #[.pointer p], Value.int .i64 k] W fun e w' => e = .returned (getV (findF lt k T)) ∧ Below W.heap.size W w' := by
  have hb : Below W.heap.size W (W.alloc (.cells #[.pointer p] 73)) := (Below.refl _ W).alloc (Nat.le_refl _) _
  have H := Lib.hid (find_any k (h.below hb))
  clear h
  have HB := Lib.hid hb; clear hb
  generalize findF lt k T = T' at *
  go_enter Try.func32, Try.ntmps32
  go_wp2_with fail
  refine H.out.mono ?_; rintro e w' ⟨q, rfl, hq, rfl⟩
  have HQ := Lib.hid hq; clear hq
  go_wp2_with fail
  refine (entry_any HQ.out).mono ?_; rintro e w' ⟨rfl, hB⟩
  have HB2 := Lib.hid hB; clear hB
  cases T' with
  | nil =>
    simp only [entryV]
    go_wp2_with fail
    go_ret2
    exact ⟨rfl, Below.step HB.out HB2.out⟩
  | node l nk nv r =>
    simp only [entryV]
    go_wp2_with fail
    go_ret2
    exact ⟨rfl, Below.step HB.out HB2.out⟩

set_option maxHeartbeats 800000 in
theorem Put_any (k : Int) (v : ByteArray) {W : World} {p : Option Addr} {T : Tr Int ByteArray} (h : Is W p T) (hs : T.sz ≤ 900000) :
    Calls Try.prog 31 #[.agg #[.pointer p], Value.int .i64 k, Value.string v] W fun e w' => ∃ q, e = .returned (.agg #[.pointer q]) ∧ Is w' q (putF lt k v T) ∧ Below W.heap.size W w' := by
  have hb : Below W.heap.size W ((W.alloc (.cells #[.pointer p] 73)).alloc (.cells #[.pointer none] 73)) := ((Below.refl _ W).alloc (Nat.le_refl _) _).alloc (by simp) _
  have H := Lib.hid (put_any k v T (h.below hb) hs)
  clear h hs
  have HB := Lib.hid hb; clear hb
  generalize putF lt k v T = T' at *
  go_enter Try.func31, Try.ntmps31
  go_wp2_with fail
  refine H.out.mono ?_; rintro e w' ⟨q, rfl, hq, hB⟩
  have hk := KeepT.refl 121 w'
  have hc : w'.heap[W.heap.size + 1]? = some (.cells #[.pointer none] 73 (0, 0)) := by
    rw [hB.block _ (by simp)]; exact (by simpa using heap_new (W.alloc (.cells #[.pointer p] 73)) (.cells #[.pointer none] 73))
  have hc1 : w'.cell? ⟨W.heap.size + 1, 0, none⟩ = some (.pointer none) := by simp [World.cell?, hc]
  have hc2 : w'.frozen? ⟨W.heap.size + 1, 0, none⟩ = false := by simp [World.frozen?, hc]
  have hk2 := KeepT.setCell (nt := 121) (a := ⟨W.heap.size + 1, 0, none⟩) (v := .pointer q) hc (by decide)
  have hB2 : Below W.heap.size W (w'.setCell ⟨W.heap.size + 1, 0, none⟩ (.pointer q)) := (Below.step HB.out hB).setCell (by simp) _
  have hq2 : Is (w'.setCell ⟨W.heap.size + 1, 0, none⟩ (.pointer q)) q T' := hq.keep hk2
  have HQ := Lib.hid hq2; have HB3 := Lib.hid hB2
  clear hk hk2 hq hB hc hq2 hB2
  go_wp2_with fail
  refine bodyPost_ret (v := .agg #[.pointer q]) (by simp [results, Try.results31, go_sem, hc1]) rfl ⟨q, rfl, HQ.out, HB3.out⟩

set_option maxHeartbeats 1600000 in
theorem Floor_any (k : Int) {W : World} {p : Option Addr} {T : Tr Int ByteArray} (h : Is W p T) :
    Calls Try.prog 33 #[.agg #[.pointer p], Value.int .i64 k] W fun e w' => e = .returned (entryV (floorF lt k .nil T)) ∧ Below W.heap.size W w' := by
  have hb : Below W.heap.size W (W.alloc (.cells #[.pointer p] 73)) := (Below.refl _ W).alloc (Nat.le_refl _) _
  have HH := Lib.hid (h.below hb)
  have HB := Lib.hid hb; clear hb h
  go_enter Try.func33, Try.ntmps33
  go_wp2_with fail
  go_loopw [7, 8] (fun bs s w' => ∃ bp q B T', bs = .pointer bp ∧ s = .pointer q ∧ Is w' bp B ∧ Is w' q T' ∧ floorF lt k B T' = floorF lt k .nil T ∧ Below W.heap.size W w') (fun _ s w' => szAt w' s)
  case atStart => exact ⟨_, _, .nil, T, rfl, rfl, rfl, HH.out, rfl, HB.out⟩
  case round =>
    obtain ⟨bp, q, B, T', rfl, rfl, hbp, hq, he, hB⟩ := hrel
    have HE := Lib.hid he; have HBP := Lib.hid hbp; have HB2 := Lib.hid hB
    clear he hbp hB
    have m0 := hq.szAt
    cases T' with
    | nil =>
      obtain rfl : q = none := hq
      clear m0
      go_wp2_with fail
      refine (entry_any HBP.out).mono ?_; rintro e w' ⟨rfl, hB3⟩
      have HB3 := Lib.hid hB3; clear hB3
      cases B with
      | nil =>
        simp only [entryV]
        go_wp2_with fail
        go_ret3
        exact ⟨by rw [← HE.out]; rfl, Below.step HB2.out HB3.out⟩
      | node l nk nv r =>
        simp only [entryV]
        go_wp2_with fail
        go_ret3
        exact ⟨by rw [← HE.out]; rfl, Below.step HB2.out HB3.out⟩
    | node l nk nv r =>
      have HQ := Lib.hid hq
      obtain ⟨b, pl, pr, rfl, hb, hl, hr⟩ := hq
      obtain ⟨c0, -, c2, c3, -, -⟩ := node_cells hb
      have m1 := hl.szAt; have m2 := hr.szAt; have m3 := Tr.sz_pos (l := l) (k := nk) (v := nv) (r := r)
      have HL := Lib.hid hl; have HR := Lib.hid hr; have M0 := Lib.hid m0; have M1 := Lib.hid m1; have M2 := Lib.hid m2; have M3 := Lib.hid m3
      clear hb hl hr m0 m1 m2 m3
      by_cases h1 : lt k nk = true
      · have hk : k < nk := by simpa [lt] using h1
        have H1 := Lib.hid h1; clear h1
        go_wp2_with fail
        go_roundw
        case rel => exact ⟨_, _, B, l, rfl, rfl, HBP.out, HL.out, by rw [← HE.out]; simp only [floorF]; rw [if_pos H1.out], HB2.out⟩
        case measure => rw [M0.out, M1.out]; have := M3.out; omega
      · have hk : ¬ k < nk := by simpa [lt] using h1
        have H1 := Lib.hid h1; clear h1
        go_wp2_with fail
        go_quiet (fail)
        rename_i nq
        go_wp2_with fail
        go_roundw
        case rel => exact ⟨_, _, .node l nk nv r, r, rfl, rfl, IsT.below (Below.drewN' wr.heap.size wr nq) HQ.out, IsT.below (Below.drewN' wr.heap.size wr nq) HR.out, by rw [← HE.out]; simp only [floorF]; rw [if_neg H1.out], HB2.out.trans (Below.drewN' _ wr nq)⟩
        case measure =>
          have e1 : szAt (wr.drewN nq) (.pointer pr) = szAt wr (.pointer pr) := szAt_drewN _ _ _
          rw [M0.out, e1, M2.out]; have := M3.out; omega
end is
end Go.Proofs.Ytdgclambplipnaa
