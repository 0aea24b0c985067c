/- The contracts of the methods Get, Put, Len, Floor and Ceil, at each instance. -/
import Derived.Test.YtlfodhejpbjfcaaPutsd
set_option linter.unusedVariables false
set_option linter.unusedSimpArgs false
namespace Go.Proofs.Ytlfodhejpbjfcaa
open Go.RowKit
namespace sd

set_option maxHeartbeats 800000 in
theorem Get_any (k : ByteArray) {W : World} {p : Option Addr} {T : Tr ByteArray Int} (h : Is W p T) :
    Calls Try.prog 56 #[.agg #[.pointer p], Value.string k] W fun e w' => e = .returned (getV (findF lt k T)) ∧ Below W.heap.size W w' := by
  have hb : Below W.heap.size W (W.alloc (.cells #[.pointer p] 110)) := (Below.refl _ W).alloc (Nat.le_refl _) _
  have H := Lib.hid (find_any k (h.below hb))
  clear h
  have HB := Lib.hid hb; clear hb
  generalize findF lt k T = T' at *
  go_enter Try.func56, Try.ntmps56
  go_wp2_with fail
  refine H.out.mono ?_; rintro e w' ⟨q, rfl, hq, rfl⟩
  have HQ := Lib.hid hq; clear hq
  go_wp2_with fail
  refine (entry_any HQ.out).mono ?_; rintro e w' ⟨rfl, hB⟩
  have HB2 := Lib.hid hB; clear hB
  cases T' with
  | nil =>
    simp only [entryV]
    go_wp2_with fail
    go_ret2
    exact ⟨rfl, Below.step HB.out HB2.out⟩
  | node l nk nv r =>
    simp only [entryV]
    go_wp2_with fail
    go_ret2
    exact ⟨rfl, Below.step HB.out HB2.out⟩

set_option maxHeartbeats 800000 in
theorem Put_any (k : ByteArray) (v : Int) {W : World} {p : Option Addr} {T : Tr ByteArray Int} (h : Is W p T) (hs : T.sz ≤ 900000) :
    Calls Try.prog 57 #[.agg #[.pointer p], Value.string k, Value.int .i64 v] W fun e w' => ∃ q, e = .returned (.agg #[.pointer q]) ∧ Is w' q (putF lt k v T) ∧ Below W.heap.size W w' := by
  have hb : Below W.heap.size W ((W.alloc (.cells #[.pointer p] 110)).alloc (.cells #[.pointer none] 110)) := ((Below.refl _ W).alloc (Nat.le_refl _) _).alloc (by simp) _
  have H := Lib.hid (put_any k v T (h.below hb) hs)
  clear h hs
  have HB := Lib.hid hb; clear hb
  generalize putF lt k v T = T' at *
  go_enter Try.func57, Try.ntmps57
  go_wp2_with fail
  refine H.out.mono ?_; rintro e w' ⟨q, rfl, hq, hB⟩
  have hk := KeepT.refl 189 w'
  have hc : w'.heap[W.heap.size + 1]? = some (.cells #[.pointer none] 110 (0, 0)) := by
    rw [hB.block _ (by simp)]; exact (by simpa using heap_new (W.alloc (.cells #[.pointer p] 110)) (.cells #[.pointer none] 110))
  have hc1 : w'.cell? ⟨W.heap.size + 1, 0, none⟩ = some (.pointer none) := by simp [World.cell?, hc]
  have hc2 : w'.frozen? ⟨W.heap.size + 1, 0, none⟩ = false := by simp [World.frozen?, hc]
  have hk2 := KeepT.setCell (nt := 189) (a := ⟨W.heap.size + 1, 0, none⟩) (v := .pointer q) hc (by decide)
  have hB2 : Below W.heap.size W (w'.setCell ⟨W.heap.size + 1, 0, none⟩ (.pointer q)) := (Below.step HB.out hB).setCell (by simp) _
  have hq2 : Is (w'.setCell ⟨W.heap.size + 1, 0, none⟩ (.pointer q)) q T' := hq.keep hk2
  have HQ := Lib.hid hq2; have HB3 := Lib.hid hB2
  clear hk hk2 hq hB hc hq2 hB2
  go_wp2_with fail
  refine bodyPost_ret (v := .agg #[.pointer q]) (by simp [results, Try.results57, go_sem, hc1]) rfl ⟨q, rfl, HQ.out, HB3.out⟩

end sd
end Go.Proofs.Ytlfodhejpbjfcaa
