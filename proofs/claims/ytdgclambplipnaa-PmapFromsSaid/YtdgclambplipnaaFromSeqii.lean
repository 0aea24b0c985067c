/- From: an iterator over the entries from a key on. -/
import Derived.Test.YtdgclambplipnaaAfterii
import Derived.Test.YtdgclambplipnaaSeqii
import Derived.Test.YtdgclambplipnaaList
namespace Go.Proofs.Ytdgclambplipnaa
open Go.RowKit Go.Shelf
namespace ii
attribute [local go_sem] Oper.semAt_some

theorem from_any {W : World} {p : Option Addr} (k : Int) : Calls Try.prog 19 #[.agg #[.pointer p], Value.int .i64 k] W fun e w' => e = .returned (.func (.func 41) #[] #[.pointer (some ⟨W.heap.size, 0, none⟩), .pointer (some ⟨W.heap.size + 1, 0, none⟩)]) ∧ w' = (W.alloc (.cells #[.pointer p] 26)).alloc (.cells #[Value.int .i64 k] 3) := by
  have hmf : ∀ (fn : Fn) (first cap : Array Value) (w : World), (Instr.makeFunc fn first cap).run Try.prog w = .ok (.func fn first cap) w := fun _ _ _ _ => rfl
  go_enter Try.func19, Try.ntmps19
  go_wp2
  go_ret
  exact ⟨rfl, rfl⟩

set_option maxRecDepth 100000 in
theorem from_stops (n : Nat) (B : Nat) (p : Option Addr) (k : Int) (T : Tr Int Int) (w : World) (hB : w.heap[B]? = some (.cells #[.pointer p] 26 (0, 0))) (hC : w.heap[B + 1]? = some (.cells #[Value.int .i64 k] 3 (0, 0))) (hT : Is w p T) :
    SeqStopsK Fence.wide n Try.prog 41 #[.pointer (some ⟨B, 0, none⟩), .pointer (some ⟨B + 1, 0, none⟩)] (fun x : Int × Int => #[Value.int .i64 x.1, Value.int .i64 x.2]) (KeepT 81) (fun ys => ys = geT k T) (fun pre => pre <+: geT k T) (geT k T).length w := by
  intro l J Jx W hW hJ _ hY h0
  have hc := box_cell (box_below hW hB)
  have hd := box_cell (box_below hW hC)
  have hJd : ∀ pre W, J pre W → J pre W.drew := fun pre W hj => hJ pre W W.drew none hj ⟨rfl, rfl, rfl, Nat.le_refl _, fun _ _ _ => rfl⟩ (fun r e => by cases e)
  have hR : Rnd l J Jx (geT k T).length := fun m pre x W1 hj hl => yield_anyDepth m (hY pre x W1 hj hl)
  have hp := after_in l (geT k T).length J Jx hR hJd k T (n - 1) p [] W (hT.below hW) h0 (by simp)
  have HP := Lib.hid hp
  clear hp hR hJd hY hJ h0
  refine callsIn_of_wp Try.func41 rfl trivial ?_ rfl
  simp only [Try.ntmps41, List.size_toArray, List.length_cons, List.length_nil, Nat.reduceAdd, Nat.reduceSub, Array.replicate_succ, Array.replicate_zero, List.push_toArray, List.append_toArray, List.nil_append, List.cons_append]
  gi_wp2_with fail
  refine ⟨trivial, (fun h => by cases h), ?_⟩
  refine HP.out.mono ?_
  rintro e W1 (⟨rfl, hJ1, -⟩ | ⟨rfl, q, hq, hx⟩)
  · have HJ := Lib.hid hJ1; clear hJ1
    gi_wp2_with fail
    go_end0
    exact ⟨⟨_, rfl⟩, .inl ⟨_, rfl, by simpa using HJ.out⟩⟩
  · have HX := Lib.hid hx; have HQ := Lib.hid hq; clear hx hq
    gi_wp2_with fail
    go_end0
    exact ⟨⟨_, rfl⟩, .inr ⟨q, HQ.out, by simpa using HX.out⟩⟩

theorem geT_list (k : Int) : ∀ T : Tr Int Int, Sorted (fun a b => decide (a < b)) T.toList → geT k T = T.toList.drop (T.toList.takeWhile fun p => (fun a b => decide (a < b)) p.1 k).length := by
  intro T
  induction T with
  | nil => intro _; rfl
  | node l a v r ihl ihr =>
    intro h
    simp only [Tr.toList] at h ⊢
    obtain ⟨h1, h2, h3, h4⟩ := sorted_node h
    simp only [geT]
    by_cases hlt : (fun a b => decide (a < b)) a k
    · rw [if_pos hlt, ihr h2, takeWhile_append_all l.toList ((a, v) :: r.toList) (fun q hq => strict_int.trans _ _ _ (h3 q hq) hlt)]
      rw [List.takeWhile_cons_of_pos (by exact hlt), List.length_append, List.length_cons, ← List.drop_drop, List.drop_left, List.drop_succ_cons]
    · rw [if_neg hlt, ihl h1, takeWhile_stop (by simpa using hlt), List.drop_append_of_le_length (List.takeWhile_sublist _).length_le]
end ii
end Go.Proofs.Ytdgclambplipnaa
