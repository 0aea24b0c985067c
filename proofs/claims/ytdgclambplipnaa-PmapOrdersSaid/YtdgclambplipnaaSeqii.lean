/- All: an iterator over the entries of a tree. -/
import Derived.Test.YtdgclambplipnaaIterii
import Derived.Test.YtdgclambplipnaaOwn
namespace Go.Proofs.Ytdgclambplipnaa
open Go.RowKit Go.Shelf
namespace ii
attribute [local go_sem] Oper.semAt_some

theorem keep_putObj {W : World} {l : Nat} {o o' : Obj} (hl : W.heap[l]? = some o) (ho : o.isCells = false) : KeepT 81 W (W.putObj l o') := fun _ _ _ h => heap_putObj_cells h hl ho

theorem all_any {W : World} {p : Option Addr} : Calls Try.prog 40 #[.agg #[.pointer p]] W fun e w' => e = .returned (.func (.func 69) #[] #[.pointer (some ⟨W.heap.size, 0, none⟩)]) ∧ w' = W.alloc (.cells #[.pointer p] 26) := by
  have hmf : ∀ (fn : Fn) (first cap : Array Value) (w : World), (Instr.makeFunc fn first cap).run Try.prog w = .ok (.func fn first cap) w := fun _ _ _ _ => rfl
  go_enter Try.func40, Try.ntmps40
  go_wp2
  go_ret
  exact ⟨rfl, rfl⟩

set_option maxRecDepth 100000 in
theorem all_stops (n : Nat) (B : Nat) (p : Option Addr) (T : Tr Int Int) (w : World) (hB : w.heap[B]? = some (.cells #[.pointer p] 26 (0, 0))) (hT : Is w p T) :
    SeqStopsK Fence.wide n Try.prog 69 #[.pointer (some ⟨B, 0, none⟩)] (fun x : Int × Int => #[Value.int .i64 x.1, Value.int .i64 x.2]) (KeepT 81) (fun ys => ys = T.toList) (fun pre => pre <+: T.toList) T.toList.length w := by
  intro l J Jx W hW hJ _ hY h0
  have hc := box_cell (box_below hW hB)
  have hJd : ∀ pre W, J pre W → J pre W.drew := fun pre W hj => hJ pre W W.drew none hj ⟨rfl, rfl, rfl, Nat.le_refl _, fun _ _ _ => rfl⟩ (fun r e => by cases e)
  have hR : Rnd l J Jx T.toList.length := fun m pre x W1 hj hl => yield_anyDepth m (hY pre x W1 hj hl)
  have hp := each_in l T.toList.length J Jx hR hJd T (n - 1) p [] W (hT.below hW) h0 (by simp)
  have HP := Lib.hid hp
  clear hp hR hJd hY hJ h0
  refine callsIn_of_wp Try.func69 rfl trivial ?_ rfl
  simp only [Try.ntmps69, List.size_toArray, List.length_cons, List.length_nil, Nat.reduceAdd, Nat.reduceSub, Array.replicate_succ, Array.replicate_zero, List.push_toArray, List.append_toArray, List.nil_append, List.cons_append]
  gi_wp2_with fail
  refine ⟨trivial, (fun h => by cases h), ?_⟩
  refine HP.out.mono ?_
  rintro e W1 (⟨rfl, hJ1, -⟩ | ⟨rfl, q, hq, hx⟩)
  · have HJ := Lib.hid hJ1; clear hJ1
    gi_wp2_with fail
    go_end0
    exact ⟨⟨_, rfl⟩, .inl ⟨_, rfl, by simpa using HJ.out⟩⟩
  · have HX := Lib.hid hx; have HQ := Lib.hid hq; clear hx hq
    gi_wp2_with fail
    go_end0
    exact ⟨⟨_, rfl⟩, .inr ⟨q, HQ.out, by simpa using HX.out⟩⟩
end ii
end Go.Proofs.Ytdgclambplipnaa
