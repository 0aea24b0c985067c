/- The box's List. -/
import Derived.Test.YtlfodhejpbjfcaaItersd
import Derived.Test.YtlfodhejpbjfcaaOwn
import Derived.Test.YtlfodhejpbjfcaaRefS0
import Derived.Test.YtlfodhejpbjfcaaTx
namespace Go.Proofs.Ytlfodhejpbjfcaa
open Go.RowKit Go.Shelf
namespace sd
attribute [local go_sem] Oper.semAt_some

theorem keep_putObj {W : World} {l : Nat} {o o' : Obj} (hl : W.heap[l]? = some o) (ho : o.isCells = false) : KeepT 189 W (W.putObj l o') := fun _ _ _ h => heap_putObj_cells h hl ho

theorem all_any {W : World} {p : Option Addr} : Calls Try.prog 41 #[.agg #[.pointer p]] W fun e w' => e = .returned (.func (.func 61) #[] #[.pointer (some ⟨W.heap.size, 0, none⟩)]) ∧ w' = W.alloc (.cells #[.pointer p] 110) := by
  have hmf : ∀ (fn : Fn) (first cap : Array Value) (w : World), (Instr.makeFunc fn first cap).run Try.prog w = .ok (.func fn first cap) w := fun _ _ _ _ => rfl
  go_enter Try.func41, Try.ntmps41
  go_wp2
  go_ret
  exact ⟨rfl, rfl⟩

set_option maxRecDepth 100000 in
theorem all_stops (n : Nat) (B : Nat) (p : Option Addr) (T : Tr ByteArray Int) (w : World) (hB : w.heap[B]? = some (.cells #[.pointer p] 110 (0, 0))) (hT : Is w p T) :
    SeqStopsK Fence.wide n Try.prog 61 #[.pointer (some ⟨B, 0, none⟩)] (fun x : ByteArray × Int => #[Value.string x.1, Value.int .i64 x.2]) (KeepT 189) (fun ys => ys = T.toList) (fun pre => pre <+: T.toList) T.toList.length w := by
  intro l J Jx W hW hJ _ hY h0
  have hc := box_cell (box_below hW hB)
  have hJd : ∀ pre W, J pre W → J pre W.drew := fun pre W hj => hJ pre W W.drew none hj ⟨rfl, rfl, rfl, Nat.le_refl _, fun _ _ _ => rfl⟩ (fun r e => by cases e)
  have hR : Rnd l J Jx T.toList.length := fun m pre x W1 hj hl => yield_anyDepth m (hY pre x W1 hj hl)
  have hp := each_in l T.toList.length J Jx hR hJd T (n - 1) p [] W (hT.below hW) h0 (by simp)
  have HP := Lib.hid hp
  clear hp hR hJd hY hJ h0
  refine callsIn_of_wp Try.func61 rfl trivial ?_ rfl
  simp only [Try.ntmps61, List.size_toArray, List.length_cons, List.length_nil, Nat.reduceAdd, Nat.reduceSub, Array.replicate_succ, Array.replicate_zero, List.push_toArray, List.append_toArray, List.nil_append, List.cons_append]
  gi_wp2_with fail
  refine ⟨trivial, (fun h => by cases h), ?_⟩
  refine HP.out.mono ?_
  rintro e W1 (⟨rfl, hJ1, -⟩ | ⟨rfl, q, hq, hx⟩)
  · have HJ := Lib.hid hJ1; clear hJ1
    gi_wp2_with fail
    go_end0
    exact ⟨⟨_, rfl⟩, .inl ⟨_, rfl, by simpa using HJ.out⟩⟩
  · have HX := Lib.hid hx; have HQ := Lib.hid hq; clear hx hq
    gi_wp2_with fail
    go_end0
    exact ⟨⟨_, rfl⟩, .inr ⟨q, HQ.out, by simpa using HX.out⟩⟩
end sd
end Go.Proofs.Ytlfodhejpbjfcaa
namespace Go.Proofs.Ytlfodhejpbjfcaa
open Go.RowKit Go.Shelf
namespace S
attribute [local go_sem] Oper.semAt_some

/-- What the loop keeps. -/
def LI (n0 : Nat) (w : World) (D : Nat) (xs : List (ByteArray × Int)) (W : World) : Prop :=
  (∃ v, W.heap[D]? = some (.cells #[v] 22 (0, 0)) ∧ Prs n0 W v xs) ∧ Below n0 w W
theorem LI_own {n0 : Nat} {w : World} {D B : Nat} {xs : List (ByteArray × Int)} {A C : World} {row : Option Nat} (h : LI n0 w D xs A) (hg : A.grownBy C row) (hr : CalmRow B A row) (hn : n0 ≤ w.heap.size) (hB : n0 ≤ B) : LI n0 w D xs C := by
  obtain ⟨⟨v, hv, hS⟩, hb⟩ := h
  exact ⟨⟨v, own_cells hg hr hv, own_SlA hg hr hS⟩, own_below hg hr hn hB hb⟩
theorem encP_one (x : ByteArray × Int) : ∀ u ∈ encP x, u.oneCell' = true := by
  intro u hu
  simp only [encP, List.mem_cons, List.not_mem_nil, or_false] at hu
  rcases hu with rfl | rfl <;> rfl

set_option maxRecDepth 100000 in
set_option maxHeartbeats 4000000 in
theorem List_any {W : World} {X : Bx} (hX : BxAt W X) (hn : X.T.toList.length ≤ 1000000) :
    Calls Try.prog 14 #[.pointer (some ⟨X.b, 0, none⟩)] W fun e w' => ∃ v, e = .returned v ∧ Prs W.heap.size w' v X.T.toList ∧ Below W.heap.size W w' := by
  have HF : ∀ f, Fence.wide.fn f := fun _ => trivial
  obtain ⟨b, m, N, q, T, last⟩ := X
  obtain ⟨h1, h2, h3⟩ := hX
  dsimp only at *
  obtain ⟨W1, hW1⟩ : ∃ w, W.alloc (.cells #[.slice none 0 0] 22) = w := ⟨_, rfl⟩
  have hb1 : Below W.heap.size W W1 := by rw [← hW1]; exact (Below.refl _ W).alloc (Nat.le_refl _) _
  have n1 : W1.heap[W.heap.size]? = some (.cells #[.slice none 0 0] 22 (0, 0)) := by rw [← hW1]; exact heap_new _ _
  have hBX : BoxC W1 b 0 N q m := box_below hb1 h1
  have HB1 := Lib.hid hb1; have HN1 := Lib.hid n1; have HX := Lib.hid hBX; have HT := Lib.hid (h2.below hb1); have HL := Lib.hid hn
  have hfl : ∀ (n : Value) (q : Value) (w : World), (Instr.field 112 (.agg #[n, q]) 1).run Try.prog w = .ok (.agg #[q]) w := fun _ _ _ => by kernel_rfl
  clear h1 h2 h3 hb1 n1 hBX hn
  refine (callsIn_wide (n := 9)).1 ?_
  refine callsIn_of_wp_marks Try.func14 rfl trivial ?_ rfl
  simp only [Try.ntmps14, List.size_toArray, List.length_cons, List.length_nil, Nat.reduceAdd, Nat.reduceSub, Array.replicate_succ, Array.replicate_zero, List.push_toArray, List.append_toArray, List.nil_append, List.cons_append]
  gi_wp2_with fail
  refine callsIn_wide.2 ((committed_any HX.out).mono ?_)
  rintro e w2 ⟨rfl, b2⟩
  have HB2 := Lib.hid (Below.step HB1.out b2); have HN2 := Lib.hid (box_below b2 HN1.out); have HT2 := Lib.hid (HT.out.below b2)
  clear b2 hW1
  gi_wp2_with fail
  refine callsIn_wide.2 (sd.all_any.mono ?_)
  rintro e w4 ⟨rfl, rfl⟩
  gi_wp2_with fail
  clear hfl
  obtain ⟨W0, hW0⟩ : ∃ W0, (w2.alloc (.cells #[.pointer q] 110)) = W0 := ⟨_, rfl⟩
  have hbA : Below w2.heap.size w2 W0 := by rw [← hW0]; exact (Below.refl _ w2).alloc (Nat.le_refl _) _
  have hB : W0.heap[w2.heap.size]? = some (.cells #[.pointer q] 110 (0, 0)) := by rw [← hW0]; exact heap_new _ _
  have hD : W0.heap[W.heap.size]? = some (.cells #[.slice none 0 0] 22 (0, 0)) := box_below hbA HN2.out
  have hB0 : Below W.heap.size W W0 := Below.step HB2.out hbA
  have hT0 : sd.Is W0 q T := HT2.out.below hbA
  rw [hW0]
  clear HT2 HB2 HN2 HX HT HB1 HN1 hbA
  refine wpIn_rangeFunc_ownF rfl (by omega) (gf := 61) (lb := #[.pointer (some ⟨w2.heap.size, 0, none⟩)]) rfl trivial (enters_of Try.func61 (by kernel_rfl) rfl)
    (sd.all_stops 8 w2.heap.size q T W0 hB hT0) KeepT.trans (fun W l o o' _ hl ho _ => sd.keep_putObj hl ho) (Below.refl _ _) (fun _ => rfl)
    (fun pre Y => LI W.heap.size W W.heap.size pre Y) (fun _ _ _ => False)
    (fun s A C row hs hg hr => LI_own hs hg hr (Nat.le_refl _) hB0.size) (fun _ _ _ _ _ h _ _ => h.elim)
    ⟨⟨_, hD, SlA.nil _ _ _ _ _⟩, hB0⟩
    (fun x => { tmps := #[.pointer (some ⟨b, 0, none⟩), undef, .slice none 0 0, .pointer (some ⟨W.heap.size, 0, none⟩), .string x.1, .int .i64 x.2, .pointer (some ⟨b, 0, none⟩), .bool false, .pointer (some ⟨b, 0, none⟩), .agg #[.int .i64 N, .pointer q], .agg #[.pointer q], .func (.func 61) #[] #[.pointer (some ⟨w2.heap.size, 0, none⟩)], .string x.1, .int .i64 x.2, undef, undef, undef, undef, undef, undef, undef], defers := [] }) ?assign ?body ?done ?stop
  case assign =>
    intro l x W K hK
    gi_wp2_with fail
    exact hK
  case body =>
    rintro l pre x Y ⟨⟨v, hv, hS⟩, hb⟩ hlen
    have hc := box_cell hv
    have HL1 := HL.out
    clear hW0 hB hD hB0 hT0
    gi_wp2_with (
      gi_at_builtin
      refine wp_app1In (l := pre) (w0 := Y) elemP encP_len rfl _ _ rfl rfl hS x rfl rfl (encP_one x) (by omega) hb.size ?_
      intro v' Y' hS' hg hb'
      replace hg : (Y.alloc (.cells #[.string x.1, .int .i64 x.2] 49)).grownBy Y' v.ownBlock := hg
      have hv' := app_other hS hg hv (by decide)
      have hkt : KeepT 189 Y Y' := fun _ _ _ h => app_other hS hg h (by decide)
      have hko : KeepsOthers Y Y' := app_keepsOthers hS hg
      obtain ⟨a0, cp, rfl⟩ := hS'.len
      have hc' := box_cell hv'
      have hf' := box_frozen hv'
      clear hc)
    refine ⟨keepsOthers_setCell hko _ _, hkt.trans (KeepT.setCell (a := ⟨W.heap.size, 0, none⟩) hv' (by decide)), ⟨⟨_, box_set _ hv', ?_⟩, ?_⟩⟩
    · have hS2 := hS'.setCell (a := ⟨W.heap.size, 0, none⟩) (.slice a0 (pre ++ [x]).length cp) hv' (by decide)
      simpa using hS2
    · exact (hb.trans hb').setCell (p := ⟨W.heap.size, 0, none⟩) (Nat.le_refl _) _
  case done =>
    rintro D xs Y hD' rfl ⟨⟨v, hv, hS⟩, hb⟩ hK
    have hc := box_cell hv
    have hs0 := hB0.size
    clear hW0 hB hD hB0 hT0
    gi_wp2_with fail
    refine ⟨by simp, .inl ⟨_, _, rfl, run_takeDeferred hK, ?_⟩⟩
    have hr : CalmRow W.heap.size Y (some D) := fun r e => by cases e; exact ⟨by omega, _, hK, rfl⟩
    refine ⟨v, ?_, v, rfl, own_SlA (grownBy_putObj' _ _ _) hr hS, own_below (grownBy_putObj' _ _ _) hr (Nat.le_refl _) (Nat.le_refl _) hb⟩
    simp [results, Try.f14, go_sem]
  case stop =>
    rintro D c pre W _ _ hF _
    exact hF.elim
end S
end Go.Proofs.Ytlfodhejpbjfcaa
