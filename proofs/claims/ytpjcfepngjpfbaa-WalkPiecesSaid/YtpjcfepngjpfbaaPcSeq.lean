/- What walk.Pieces returns, as an iterator; two weights compared by ==. -/
import Derived.Test.YtpjcfepngjpfbaaPcIt
set_option linter.unusedVariables false
set_option linter.unusedSimpArgs false
namespace Go.Proofs.Ytpjcfepngjpfbaa
open Go.RowKit Go.Lib
namespace M
attribute [local go_sem] Oper.semAt_some
theorem pcF_mem {E : List En} (h : WfD E) {f t : Nat} : ∀ (i a : Nat), i ≤ E.length → (entAt E i).even = true → ∀ p ∈ pcF E f t i a, 0 < p.2 ∧ p.2 ≤ i := by
  intro i
  induction i using Nat.strongRecOn with
  | _ i ih =>
    intro a hi he p hp
    rcases pcF_cases h (f := f) (t := t) (a := a) hi he with ⟨h1, h2⟩ | ⟨h1, h0, h2, h3⟩ | ⟨h1, -, -, l, r, hn, h3⟩
    · rw [h2] at hp; cases hp
    · rw [h3] at hp; rw [List.mem_singleton.1 hp]; exact ⟨h0, Nat.le_refl _⟩
    · rw [h3] at hp
      have hl := hn.ll; have hr := hn.rl
      rcases List.mem_append.1 hp with hp | hp
      · have := ih l hl a (by omega) hn.le p hp; omega
      · have := ih r hr _ (by omega) hn.re p hp; omega
/-- An iterator over pieces. -/
def SeqP (w : World) (v : Value) (ys : List (Nat × Nat)) : Prop := ∃ gf lb, v = .func (.func gf) #[] lb ∧ Enters Try.prog gf ∧ ∀ n, SeqStopsT Fence.wide n Try.prog gf lb encP (KpI PcK w.heap.size) PcT (fun xs => xs = ys) (fun pre => pre <+: ys) (fun pre x => pre ++ [x] <+: ys) w
set_option maxRecDepth 100000 in
set_option maxHeartbeats 2000000 in
theorem pieces_stops (n : Nat) {n0 B most g M : Nat} {w : World} {E : List En} {id frm k : Nat} (hC : PcC w g B id frm k) (hs : StAt n0 w B most E) (hwd : WfD E) (hE : E.length ≤ 1048576) (hid : id ≤ E.length) (hev : (entAt E id).even = true) (hfr : frm + k ≤ (txt E id).length) (hM : w.heap.size ≤ M) :
    SeqStopsT Fence.wide n Try.prog 52 #[.pointer (some ⟨g, 0, none⟩), .pointer (some ⟨g + 1, 0, none⟩), .pointer (some ⟨g + 2, 0, none⟩), .pointer (some ⟨g + 3, 0, none⟩)] encP (KpI PcK M) PcT (fun ys => ys = pcF E frm (frm + k) id 0) (fun pre => pre <+: pcF E frm (frm + k) id 0) (fun pre x => pre ++ [x] <+: pcF E frm (frm + k) id 0) w := by
  intro l J Jx W hW hJ _ hY hj0
  have HF : ∀ f, Fence.wide.fn f := fun _ => trivial
  have hCW := hC.below hW
  obtain ⟨c0, c1, c2⟩ := hCW.lt.cells
  have c3 := hCW.cell
  have hlb := (hwd.wf.len hid).2
  have HPS := Lib.hid (pcs_any (n - 1) (M := M) ((hs.b hM).kpl (KpL.of (ts := []) hW (Nat.le_refl _)) (by decide) (by decide)) hwd hE hid hev (Nat.le_add_right frm k) hfr hJ (fun pre x W1 hj hl m => yield_anyDepth m (hY pre x W1 hj hl)) hj0)
  have hsw : IntKind.i64.wrap ((frm : Int) + (k : Int)) = ((frm + k : Nat) : Int) := by rw [IntKind.wrap_i64]; omega
  obtain ⟨t, ht⟩ : ∃ y, frm + k = y := ⟨_, rfl⟩
  rw [ht] at hsw HPS ⊢
  clear hC hs hwd hE hid hev hfr hJ hY hj0 hW hCW hlb ht
  refine callsIn_of_wp Try.func52 rfl trivial ?_ rfl
  simp only [Try.ntmps52, List.size_toArray, List.length_cons, List.length_nil, Nat.reduceAdd, Nat.reduceSub, Array.replicate_succ, Array.replicate_zero, List.push_toArray, List.append_toArray, List.nil_append, List.cons_append]
  gi_wp2_with fail
  refine ⟨(fun h => by cases h), HPS.out.mono ?_⟩
  rintro e w1 ⟨⟨v, rfl⟩, hx⟩
  have HX := Lib.hid hx
  clear hx
  gi_wp2_with fail
  go_end0
  exact ⟨⟨_, rfl⟩, HX.out⟩
set_option maxRecDepth 100000 in
theorem pieces_seq {n0 B most : Nat} {W : World} {E : List En} (hs : StAt n0 W B most E) (hwd : WfD E) (hE : E.length ≤ 1048576) {id frm k : Nat} (hid : id ≤ E.length) (hev : (entAt E id).even = true) (hfr : frm + k ≤ (txt E id).length) :
    Calls Try.prog 20 #[.pointer (some ⟨B, 0, none⟩), .int .i64 id, .int .i64 frm, .int .i64 k] W fun e w' => ∃ v, e = .returned v ∧ SeqP w' v (pcF E frm (frm + k) id 0) ∧ Below W.heap.size W w' := by
  refine (pieces_some hs hwd.wf hE hid hev hfr).mono ?_
  rintro e w' ⟨rfl, hl, hb⟩
  exact ⟨_, rfl, ⟨_, _, rfl, enters_of Try.func52 (by kernel_rfl) rfl, fun n => pieces_stops n hl (hs.below hb) hwd hE hid hev hfr (Nat.le_refl _)⟩, hb⟩
theorem int_self {t : TypeId} {q : IntKind} (ht : Try.prog.underlying t = some (.int q)) (d : Nat) (x : Int) (w : World) : (Op.equalIn (d + 1) t (.int q x) (.int q x)).run Try.prog w = .ok true w := by
  simp [Op.equalIn, run_underlying (P := Try.prog) ht]
set_option maxHeartbeats 4000000 in
theorem wt_self (u : Wt) (w : World) : (Op.equal 88 (wtV u) (wtV u)).run Try.prog w = .ok true w := by
  have hd : ∀ d w, (Op.equalIn (d + 2) 86 (.agg #[.int .u64 u.d.v, .int .u64 u.d.s]) (.agg #[.int .u64 u.d.v, .int .u64 u.d.s])).run Try.prog w = .ok true w := fun d w => by
    have p0 : ∀ (x0 x1 : Int) (w : World), (part 84 #[.int .u64 x0, .int .u64 x1] 0).run Try.prog w = .ok (.int .u64 x0) w := fun _ _ _ => by kernel_rfl
    have p1 : ∀ (x0 x1 : Int) (w : World), (part 84 #[.int .u64 x0, .int .u64 x1] 1).run Try.prog w = .ok (.int .u64 x1) w := fun _ _ _ => by kernel_rfl
    have i0 := int_self Try.underlying84 d
    rw [Op.equalIn]
    simp [run_underlying (P := Try.prog) Try.underlying86, Sem.run_bind, p0, p1, i0]
  have h : ∀ d w, (Op.equalIn (d + 3) 88 (wtV u) (wtV u)).run Try.prog w = .ok true w := fun d w => by
    have p0 : ∀ (x0 x1 x2 x3 x4 x5 : Int) (w : World), (part 3 #[.int .i64 x0, .int .i64 x1, .int .i64 x2, .int .i64 x3, .int .u64 x4, .int .u64 x5] 0).run Try.prog w = .ok (.int .i64 x0) w := fun _ _ _ _ _ _ _ => by kernel_rfl
    have p1 : ∀ (x0 x1 x2 x3 x4 x5 : Int) (w : World), (part 3 #[.int .i64 x0, .int .i64 x1, .int .i64 x2, .int .i64 x3, .int .u64 x4, .int .u64 x5] 1).run Try.prog w = .ok (.int .i64 x1) w := fun _ _ _ _ _ _ _ => by kernel_rfl
    have p2 : ∀ (x0 x1 x2 x3 x4 x5 : Int) (w : World), (part 3 #[.int .i64 x0, .int .i64 x1, .int .i64 x2, .int .i64 x3, .int .u64 x4, .int .u64 x5] 2).run Try.prog w = .ok (.int .i64 x2) w := fun _ _ _ _ _ _ _ => by kernel_rfl
    have p3 : ∀ (x0 x1 x2 x3 x4 x5 : Int) (w : World), (part 3 #[.int .i64 x0, .int .i64 x1, .int .i64 x2, .int .i64 x3, .int .u64 x4, .int .u64 x5] 3).run Try.prog w = .ok (.int .i64 x3) w := fun _ _ _ _ _ _ _ => by kernel_rfl
    have p4 : ∀ (x0 x1 x2 x3 x4 x5 : Int) (w : World), (part 86 #[.int .i64 x0, .int .i64 x1, .int .i64 x2, .int .i64 x3, .int .u64 x4, .int .u64 x5] 4).run Try.prog w = .ok (.agg #[.int .u64 x4, .int .u64 x5]) w := fun _ _ _ _ _ _ _ => by kernel_rfl
    have i0 := int_self Try.underlying3 (d + 1)
    have i4 := hd d
    unfold wtV
    rw [Op.equalIn]
    simp [run_underlying (P := Try.prog) Try.underlying88, Sem.run_bind, p0, p1, p2, p3, p4, i0, i4]
  have := h 9997 w
  simpa [Op.equal, Op.maxDepth] using this
end M
end Go.Proofs.Ytpjcfepngjpfbaa
