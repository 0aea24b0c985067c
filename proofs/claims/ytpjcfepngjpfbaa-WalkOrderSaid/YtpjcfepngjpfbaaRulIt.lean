/- walk.Rules: the iterator's contract. -/
import Derived.Test.YtpjcfepngjpfbaaUnseen
import Derived.Test.YtpjcfepngjpfbaaLts
import Derived.Test.YtpjcfepngjpfbaaMds
import Derived.Test.YtpjcfepngjpfbaaAw
set_option linter.unusedVariables false
set_option linter.unusedSimpArgs false
namespace Go.Proofs.Ytpjcfepngjpfbaa
open Go.RowKit Go.Lib
/-- What a round keeps for an iterator: blocks of types ts, maps below M, all cells from M on. -/
structure KpR (ts : List TypeId) (M : Nat) (A B : World) : Prop where
  kpi : KpI ts M A B
  own : ∀ (k : Nat) (cs : Array Value) (t : TypeId) (fz : Nat × Nat), M ≤ k → A.heap[k]? = some (.cells cs t fz) → B.heap[k]? = some (.cells cs t fz)
theorem KpR.trans {ts : List TypeId} {M : Nat} {A B C : World} (h : KpR ts M A B) (k : KpR ts M B C) : KpR ts M A C := ⟨h.kpi.trans k.kpi, fun i cs t fz hi e => k.own i cs t fz hi (h.own i cs t fz hi e)⟩
theorem KpR.put {ts : List TypeId} {M : Nat} (W : World) (l : Nat) (o o' : Obj) (hl : M ≤ l) (ho : W.heap[l]? = some o) (hc : o.isCells = false) : KpR ts M W (W.putObj l o') := by
  refine ⟨KpI.put W l o o' hl ho hc, fun k cs t fz hk e => (World.putObj_heap_other (fun h => ?_)).trans e⟩
  subst h
  rw [e] at ho; cases ho; cases hc
theorem KpR.below {ts : List TypeId} {M : Nat} {A B : World} (h : Below A.heap.size A B) : KpR ts M A B := ⟨⟨fun t _ => KeepT.below h, fun k _ es c e => by rw [h.block k (Array.getElem?_eq_some_iff.1 e).1]; exact e⟩, fun k cs t fz _ e => below_block h e⟩
/-- A store into a cell below M. -/
theorem KpR.set {ts : List TypeId} {M : Nat} {A B : World} (h : KpR ts M A B) {g i : Nat} {cs : Array Value} {t : TypeId} (hk : B.heap[g]? = some (.cells cs t (0, 0))) (ht : t ∉ ts) (hg : g < M) (v : Value) : KpR ts M A (B.setCell ⟨g, i, none⟩ v) := by
  refine h.trans ⟨⟨fun u hu => KeepT.setCell (a := ⟨g, i, none⟩) hk (fun e => ht (e ▸ hu)), fun k _ es c e => ?_⟩, fun k cs' u fz hk' e => ?_⟩
  · exact Go.Proofs.Ytpjcfepngjpfbaa.M.set_other (fun h => by subst h; rw [hk] at e; cases e) e
  · exact Go.Proofs.Ytpjcfepngjpfbaa.M.set_other (by omega) e
theorem SlA.keepB {α : Type} {B₀ M : Nat} {A B : World} {e : TypeId} {size : Nat} {enc : α → List Value} {v : Value} {l : List α} (h : SlA B₀ A e size enc v l) (hM : M ≤ B₀) (hk : ∀ (k : Nat) (cs : Array Value) (t : TypeId) (fz : Nat × Nat), M ≤ k → A.heap[k]? = some (.cells cs t fz) → B.heap[k]? = some (.cells cs t fz)) : SlA B₀ B e size enc v l := by
  refine ⟨h.1, ?_⟩
  rcases h.2 with hn | ⟨g, cap, cur, hv, hg, hh, rest⟩
  · exact .inl hn
  · exact .inr ⟨g, cap, cur, hv, hg, hk _ _ _ _ (Nat.le_trans hM hg) hh, rest⟩
namespace M
attribute [local go_sem] Oper.semAt_some
abbrev RlK : List TypeId := [23, 116, 122]
abbrev RlT : List TypeId := [84, 31]
abbrev encR (x : Nat) : Array Value := #[.int .i64 x]
/-- Between two rounds. -/
def RulI (z ga m g n0 M B most : Nat) (E : List En) (id : Nat) (J : List Nat → World → Prop) (k : Nat) (av : Value) (wr : World) : Prop :=
  ∃ (L pre : List Nat) (va : Option Addr) (vn vc : Nat), 2 * id + 1 - 2 * pre.length - L.length = k ∧ av = .slice va vn vc ∧ IdW z wr (.slice va vn vc) L ∧ RlI E id pre L ∧ SnW wr ga m pre ∧ J pre wr ∧ StB n0 M wr B most E ∧ CpB wr g B ∧ z ≤ wr.heap.size
set_option maxRecDepth 100000 in
set_option maxHeartbeats 8000000 in
theorem rules_stops (n : Nat) {n0 B most g M : Nat} {w : World} {E : List En} {id : Nat} (hC : RlC w g B id) (hs : StAt n0 w B most E) (hwf : Wf E) (hE : E.length ≤ 1048576) (h0 : 0 < id) (hid : id ≤ E.length) (hM : w.heap.size = M) :
    SeqStopsT Fence.wide n Try.prog 55 #[.pointer (some ⟨g + 1, 0, none⟩), .pointer (some ⟨g, 0, none⟩)] encR (KpR RlK M) RlT (fun ys => ys = ordF E id []) (fun pre => pre <+: ordF E id []) (fun pre x => RlN E id pre x) w := by
  intro l J Jx W hW hJ _ hY hj0
  have HF : ∀ f, Fence.wide.fn f := fun _ => trivial
  have hCW := hC.below hW
  obtain ⟨c0, c1⟩ := hCW.cells
  have HCW := Lib.hid hCW
  have HSB := Lib.hid ((hs.b (Nat.le_of_eq hM)).kpl (KpL.of (ts := []) hW (Nat.le_refl _)) (by decide) (by decide))
  have HWF := Lib.hid hwf; have HEL := Lib.hid hE; have HID := Lib.hid (And.intro h0 hid)
  have HMW : Hid (M ≤ W.heap.size) := Lib.hid (by rw [← hM]; exact hW.size)
  have HJ := Lib.hid hJ
  have HR : Hid (∀ pre x W1, J pre W1 → RlN E id pre x → ∀ m, YieldAt Fence.wide m Try.prog l #[.int .i64 (x : Nat)] W1 fun e W' => (e = .returned (.bool true) ∧ J (pre ++ [x]) W' ∧ KpR RlK M W1 W' ∧ W1.heap.size ≤ W'.heap.size) ∨ (e = .returned (.bool false) ∧ Jx (pre ++ [x]) W')) := Lib.hid (fun pre x W1 hj hl m => yield_anyDepth m (hY pre x W1 hj hl))
  have HJ0 := Lib.hid hj0
  have hidb : id ≤ 1048576 := by omega
  have hq : Int.tdiv (id : Int) 64 = ((id / 64 : Nat) : Int) := rfl
  have hqw : IntKind.i64.wrap ((id / 64 : Nat) : Int) = ((id / 64 : Nat) : Int) := by rw [IntKind.wrap_i64]; omega
  have hqs : IntKind.i64.wrap (((id / 64 : Nat) : Int) + 1) = ((id / 64 + 1 : Nat) : Int) := by rw [IntKind.wrap_i64]; omega
  have HQM : Hid (id / 64 + 1 ≤ 16385 ∧ ∀ x, x ≤ id → x / 64 < id / 64 + 1) := Lib.hid ⟨by omega, fun x hx => by have := Nat.div_le_div_right (c := 64) hx; omega⟩
  generalize hmq : id / 64 + 1 = m at hqs HQM
  obtain ⟨q, hqq⟩ : ∃ q, id / 64 = q := ⟨_, rfl⟩
  rw [hqq] at hq hqw hqs
  have hmk : ∀ w, (Instr.makeSlice 118 (.int .i64 (m : Int)) (.int .i64 (m : Int))).run Try.prog w = .ok (.slice (some ⟨w.heap.size, 0, none⟩) m m) (w.alloc (.cells (madeCells #[.int .u64 0] m) 84)) := fun w => by
    have h := mk_run (P := Try.prog) (t := 118) (e := 84) (z := .int .u64 0) (size := 1) (bytes := 8) Try.underlying118 (by kernel_rfl) m m (Nat.le_refl _) (by have := HQM.out.1; omega) (by have := HQM.out.1; omega) w
    rw [Nat.mul_one] at h
    exact h
  obtain ⟨Wa, hWa⟩ : ∃ y, W.alloc (.cells (madeCells #[.int .u64 0] m) 84) = y := ⟨_, rfl⟩
  have sa : SnW Wa W.heap.size m [] := by
    rw [← hWa]
    refine ⟨_, heap_new' _ _, by simp [size_madeCells], fun i hi _ => ?_⟩
    have := madeCells_get (z := .int .u64 0) (n := m) hi
    simpa [wdS] using this
  have ba : Below W.heap.size W Wa := by rw [← hWa]; exact (Below.refl _ _).alloc (Nat.le_refl _) _
  obtain ⟨Wc, hWc⟩ : ∃ y, Wa.alloc (.cells #[.int .i64 id] 31) = y := ⟨_, rfl⟩
  have bc : Below Wa.heap.size Wa Wc := by rw [← hWc]; exact (Below.refl _ _).alloc (Nat.le_refl _) _
  have lc : IdW Wa.heap.size Wc (.slice (some ⟨Wa.heap.size, 0, none⟩) 1 1) [id] := by rw [← hWc]; exact SlA.lit (l := [id]) encI_len rfl (by simp; unfold maxLen; omega)
  have bac := Below.after ba bc
  have cid : Wa.cell? ⟨g + 1, 0, none⟩ = some (.int .i64 id) := (hCW.below ba).cells.2
  obtain ⟨z, hz⟩ : ∃ y, W.heap.size = y := ⟨_, rfl⟩
  have HST : Hid (RulI z z m g n0 M B most E id J (2 * id + 1 - 2 * 0 - 1) (.slice (some ⟨Wa.heap.size, 0, none⟩) 1 1) Wc) := Lib.hid ⟨[id], [], _, _, _, rfl, rfl, SlA.mono lc (by rw [← hz]; exact ba.size), RlI.start h0, by rw [← hz]; exact sa.below bc, HJ.out _ _ _ HJ0.out (KpL.of bac (Nat.le_refl _)), HSB.out.kpl (KpL.of (ts := []) bac (Nat.le_refl _)) (by decide) (by decide), below_block bac HCW.out.st, by rw [← hz]; exact bac.size⟩
  have HZ := Lib.hid hz
  have HMZ : Hid (M ≤ z) := Lib.hid (by rw [← hz]; exact HMW.out)
  have d2 := (HCW.out.below bac).cells.1
  obtain ⟨k0, hk0⟩ : ∃ y, 2 * id + 1 - 2 * 0 - 1 = y := ⟨_, rfl⟩
  rw [hk0] at HST
  clear hC hs hwf hE h0 hid hM hCW hJ hY hj0 hW sa ba lc bac HCW HSB HJ0 hk0 c0 hidb
  refine callsIn_of_wp Try.func55 rfl trivial ?_ rfl
  simp only [Try.ntmps55, List.size_toArray, List.length_cons, List.length_nil, Nat.reduceAdd, Nat.reduceSub, Array.replicate_succ, Array.replicate_zero, List.push_toArray, List.append_toArray, List.nil_append, List.cons_append]
  gi_wp2_with fail
  clear hmk hWa hWc bc cid c1 hq hqw hqs d2 hqq hmq hz
  gi_loopg [5] k0 (fun k v wr => RulI z z m g n0 M B most E id J k v wr)
  case atStart => exact HST.out
  case round =>
    clear HST
    obtain ⟨L, pre, va, vn, vc, hk, rfl, hL, hri, hsn, hj, hst, hcp, hzr⟩ := hrel
    have HL := Lib.hid hL; have HRI := Lib.hid hri; have HSN := Lib.hid hsn; have HJR := Lib.hid hj; have HST := Lib.hid hst; have HCP := Lib.hid hcp; have HZR := Lib.hid hzr; have HKW := Lib.hid hk
    have y1 := hcp.cell
    clear hri hsn hj hst hcp hzr hk
    rcases List.eq_nil_or_concat L with rfl | ⟨L', x, rfl⟩
    · obtain ⟨la, lc, hv⟩ := hL.len
      simp only [Value.slice.injEq, List.length_nil] at hv
      obtain ⟨-, rfl, -⟩ := hv
      have HEND : Hid (pre = ordF E id []) := Lib.hid HRI.out.tot
      clear hL
      gi_wp2_with fail
      go_end0
      exact ⟨⟨_, rfl⟩, .inl ⟨pre, HEND.out, HJR.out⟩⟩
    · rw [List.concat_eq_append] at hL HL HRI HKW
      have htop := HRI.out.top
      have hlen := HRI.out.len
      obtain ⟨gl, n1, rfl, rfl, hn1, hcap⟩ : ∃ gl n1, va = some ⟨gl, 0, none⟩ ∧ vn = n1 + 1 ∧ L'.length = n1 ∧ n1 + 1 ≤ vc := by
        rcases hL.shape with ⟨-, h⟩ | ⟨gl, cap, h, hc, -⟩
        · simp at h
        · rw [List.length_append, List.length_singleton] at h hc
          simp only [Value.slice.injEq] at h
          exact ⟨gl, L'.length, h.1, h.2.1, rfl, by rw [h.2.2]; exact hc⟩
      obtain ⟨cap, hcp0⟩ : ∃ y, vc = y := ⟨_, rfl⟩
      rw [hcp0] at hL HL hcap ⊢
      clear hcp0 vc
      have hll : n1 < (L' ++ [x]).length := by simp [hn1]
      have q0 : wr.cell? ⟨gl, n1, none⟩ = some (.int .i64 x) := by
        have h := SlA.cell encI_len hL hll (j := 0) (by omega)
        rw [show (L' ++ [x])[n1] = x by simp [← hn1], Nat.mul_one, Nat.add_zero] at h
        exact h
      have HXE : Hid (x ≤ E.length ∧ x ≤ 1048576) := Lib.hid (by have h1 := HID.out; have h2 := HEL.out; omega)
      have hn2 : (0 : Int) < ((n1 + 1 : Nat) : Int) := by omega
      have hnb : n1 + 1 ≤ 1048576 := by have h1 := HID.out; have h2 := HEL.out; rw [List.length_append, List.length_singleton] at hlen; omega
      have hj1 : (n1 : Int) < ((n1 + 1 : Nat) : Int) := by omega
      have hj2 : (n1 : Int) ≤ (cap : Int) := by omega
      have hj3 : n1 ≤ cap := by omega
      have hj4 : IntKind.i64.wrap (((n1 + 1 : Nat) : Int) - 1) = (n1 : Int) := by rw [IntKind.wrap_i64]; omega
      have hj5 : (0 : Int) ≤ (n1 : Int) := by omega
      have hc0 : wr.cell? ⟨z, x / 64, none⟩ = some (.int .u64 (wdS pre (x / 64) : Nat)) := HSN.out.cell (HQM.out.2 x htop.2.1) trivial
      have hqm : x / 64 < m := HQM.out.2 x htop.2.1
      have HT := Lib.hid (wdS_test pre x); have HWL := Lib.hid (wdS_lt pre (x / 64))
      have HUN := Lib.hid (unseen_any HST.out.st HWF.out HEL.out htop.1 HXE.out.1 HSN.out hqm)
      rw [if_neg htop.2.2] at HT
      obtain ⟨wv, hwv⟩ : ∃ y, wdS pre (x / 64) = y := ⟨_, rfl⟩
      have HWV := Lib.hid hwv
      rw [hwv] at hc0 HT HWL
      have hq : Int.tdiv (x : Int) 64 = ((x / 64 : Nat) : Int) := rfl
      have hs : Int.tmod (x : Int) 64 = ((x % 64 : Nat) : Int) := rfl
      have hs64 : x % 64 < 64 := Nat.mod_lt _ (by omega)
      have hqw : IntKind.i64.wrap ((x / 64 : Nat) : Int) = ((x / 64 : Nat) : Int) := by rw [IntKind.wrap_i64]; have := HXE.out.2; omega
      have hsw : IntKind.i64.wrap ((x % 64 : Nat) : Int) = ((x % 64 : Nat) : Int) := by rw [IntKind.wrap_i64]; omega
      obtain ⟨q, hqq⟩ : ∃ y, x / 64 = y := ⟨_, rfl⟩
      obtain ⟨s, hss⟩ : ∃ y, x % 64 = y := ⟨_, rfl⟩
      have HQS := Lib.hid (And.intro hqq hss)
      rw [hqq] at hc0 hqm hq hqw
      rw [hss] at HT hs hs64 hsw
      have hsh := div_shr wv s
      obtain ⟨vv, hv⟩ : ∃ y, wv >>> s = y := ⟨_, rfl⟩
      rw [hv] at HT hsh
      have hvl : vv < 2 ^ 64 := by rw [← hv]; exact Nat.lt_of_le_of_lt (Nat.shiftRight_le _ _) HWL.out
      have han := and_one hvl
      rw [HT.out] at han
      simp only [Int.ofNat_one, Int.natCast_one, Int.natCast_zero, Int.cast_ofNat_Int] at han
      obtain ⟨y, hy⟩ : ∃ y, nxR E x pre = y := ⟨_, rfl⟩
      have HNX := Lib.hid hy
      rw [hy] at HUN
      have HN1 := Lib.hid hn1; have HTOP := Lib.hid htop
      clear hL hll htop hlen hn1 hwv hqq hss hv hvl hy
      gi_wp2_with fail
      clear q0 hc0 hn2 y1
      refine ⟨(fun h => by cases h), callsIn_wide.2 (HUN.out.mono ?_)⟩
      rintro e w3 ⟨rfl, b3⟩
      have HL3 := Lib.hid (SlA.below HL.out b3)
      have HSN3 := Lib.hid (HSN.out.below b3)
      have HJ3 := Lib.hid (HJ.out _ _ _ HJR.out (KpL.of (ts := RlT) b3 (Nat.le_trans (Nat.le_of_eq HZ.out) HZR.out)))
      have HST3 := Lib.hid (HST.out.kpl (KpL.of (ts := []) b3 (Nat.le_refl _)) (by decide) (by decide))
      have HCP3 : Hid (CpB w3 g B) := Lib.hid (below_block b3 HCP.out)
      have HZ3 : Hid (z ≤ w3.heap.size) := Lib.hid (Nat.le_trans HZR.out b3.size)
      clear b3 HUN HL HSN HJR HST HCP HZR
      by_cases hy0 : y = 0
      · have hyb : ((y : Int) != 0) = false := by simp [hy0]
        have HRN := Lib.hid (HRI.out.next HWF.out HID.out.2 (by rw [HNX.out]; exact hy0))
        have HRO := Lib.hid (HRI.out.out HWF.out HID.out.2 (by rw [HNX.out]; exact hy0))
        have HLP := Lib.hid (SlA.pop encI_len HL3.out HN1.out)
        have HLT : Hid (2 * id + 1 - 2 * (pre ++ [x]).length - L'.length < gk) := Lib.hid (by
          have h1 := HRI.out.len; have h2 := HKW.out
          rw [List.length_append, List.length_singleton] at h1 h2 ⊢
          omega)
        have h2s : 2 ^ s < 2 ^ 64 := Nat.pow_lt_pow_right (by omega) hs64
        have hor := or_u64 HWL.out h2s
        have hshl := shl_two hs64
        obtain ⟨ps, hps⟩ : ∃ y, 2 ^ s = y := ⟨_, rfl⟩
        rw [hps] at hor hshl
        obtain ⟨wo, hwo⟩ : ∃ y, wv ||| ps = y := ⟨_, rfl⟩
        rw [hwo] at hor
        have cz : ∀ w, Below w3.heap.size w3 w → w.cell? ⟨z, q, none⟩ = some (.int .u64 (wv : Nat)) := fun w hw => by
          have h := (HSN3.out.below hw).cell (i := x / 64) (by rw [HQS.out.1]; exact hqm) trivial
          rw [HQS.out.1] at h
          rwa [show wdS pre q = wv by rw [← HQS.out.1]; exact HWV.out] at h
        have HWO : Hid (wdS pre (x / 64) ||| 2 ^ (x % 64) = wo) := Lib.hid (by rw [HWV.out, HQS.out.2, hps, hwo])
        have hqi : (q : Int) < (m : Int) := by omega
        clear hy0 hsh han HT h2s hps hwo
        gi_wp2_with fail
        refine wpIn_region_anyNP (Below w3.heap.size w3) (by kernel_rfl) ?_
        obtain ⟨wd, hwd⟩ : ∃ y, w3.drew = y := ⟨_, rfl⟩
        have B0 : Below w3.heap.size w3 wd := by rw [← hwd]; exact (Below.refl _ _).drew
        rw [hwd]
        clear hwd
        refine AnyH.take (i := 0) (d := some 53) (v := ?_) (by kernel_rfl) rfl rfl HF (fun _ _ _ h => h) (.inl ⟨by rfl, ?_⟩) (by first | assumption | rfl) ?_
        rotate_left
        · intro w hS; try subst hS
          go_simp; try with_reducible rfl
        try simp only [Act.put, List.setIfInBounds_toArray, List.set_cons_zero, List.set_cons_succ]
        refine AnyH.take (i := 1) (d := some 54) (v := ?_) (by kernel_rfl) rfl rfl HF (fun _ _ _ h => h) (.inl ⟨by rfl, ?_⟩) (by first | assumption | rfl) ?_
        rotate_left
        · intro w hS; try subst hS
          go_simp; try with_reducible rfl
        try simp only [Act.put, List.setIfInBounds_toArray, List.set_cons_zero, List.set_cons_succ]
        refine AnyH.take (i := 2) (d := some 55) (v := ?_) (by kernel_rfl) rfl rfl HF (fun _ _ _ h => h) (.inl ⟨by rfl, ?_⟩) (by first | assumption | rfl) ?_
        rotate_left
        · intro w hS; try subst hS
          go_simp; try with_reducible rfl
        try simp only [Act.put, List.setIfInBounds_toArray, List.set_cons_zero, List.set_cons_succ]
        refine AnyH.take (i := 3) (d := some 56) (v := ?_) (by kernel_rfl) rfl rfl HF (fun _ _ _ h => h) (.inl ⟨by rfl, ?_⟩) (by first | assumption | rfl) ?_
        rotate_left
        · intro w hS; try subst hS
          go_simp; try with_reducible rfl
        try simp only [Act.put, List.setIfInBounds_toArray, List.set_cons_zero, List.set_cons_succ]
        refine AnyH.take (i := 4) (d := some 57) (v := ?_) (by kernel_rfl) rfl rfl HF (fun _ _ _ h => h) (.inl ⟨by rfl, ?_⟩) (by first | assumption | rfl) ?_
        rotate_left
        · intro w hS; try subst hS
          go_simp; try with_reducible rfl
        try simp only [Act.put, List.setIfInBounds_toArray, List.set_cons_zero, List.set_cons_succ]
        refine AnyH.take (i := 5) (d := some 58) (v := ?_) (by kernel_rfl) rfl rfl HF (fun _ _ _ h => h) (.inl ⟨by rfl, ?_⟩) (by first | assumption | rfl) ?_
        rotate_left
        · intro w hS; try subst hS
          go_simp; try with_reducible rfl
        try simp only [Act.put, List.setIfInBounds_toArray, List.set_cons_zero, List.set_cons_succ]
        refine AnyH.take (i := 6) (d := some 59) (v := ?_) (by kernel_rfl) rfl rfl HF (fun _ _ _ h => h) (.inl ⟨by rfl, ?_⟩) (by first | assumption | rfl) ?_
        rotate_left
        · intro w hS; try subst hS
          go_simp; try with_reducible rfl
        try simp only [Act.put, List.setIfInBounds_toArray, List.set_cons_zero, List.set_cons_succ]
        refine AnyH.take (i := 7) (d := some 60) (v := ?_) (by kernel_rfl) rfl rfl HF (fun _ _ _ h => h) (.inl ⟨by rfl, ?_⟩) (by first | assumption | rfl) ?_
        rotate_left
        · intro w hS; try subst hS
          go_simp; try with_reducible rfl
        try simp only [Act.put, List.setIfInBounds_toArray, List.set_cons_zero, List.set_cons_succ]
        refine AnyH.take (i := 8) (d := some 61) (v := ?_) (by kernel_rfl) rfl rfl HF (fun _ _ _ h => h) (.inl ⟨by rfl, ?_⟩) (by first | assumption | rfl) ?_
        rotate_left
        · intro w hS; try subst hS
          go_simp; try with_reducible rfl
        try simp only [Act.put, List.setIfInBounds_toArray, List.set_cons_zero, List.set_cons_succ]
        refine AnyH.take (i := 9) (d := some 62) (v := ?_) (by kernel_rfl) rfl rfl HF (fun _ _ _ h => h) (.inl ⟨by rfl, ?_⟩) (by first | assumption | rfl) ?_
        rotate_left
        · intro w hS; try subst hS
          go_simp; try with_reducible rfl
        try simp only [Act.put, List.setIfInBounds_toArray, List.set_cons_zero, List.set_cons_succ]
        refine AnyH.tailL 10 (by kernel_rfl) ?_
        simp only [List.drop_succ_cons, List.drop_zero]
        obtain ⟨w5, hw5⟩ : ∃ y, wd.setCell ⟨z, q, none⟩ (.int .u64 (wo : Nat)) = y := ⟨_, rfl⟩
        have cq := cz _ B0
        have fq := (HSN3.out.below B0).free q
        have sn5 : SnW w5 z m (pre ++ [x]) := by
          have h := SnW.add (HSN3.out.below B0) x
          rw [HWO.out, HQS.out.1, hw5] at h
          exact h
        obtain ⟨cs5, hk5, -⟩ := HSN3.out.below B0
        have kp5 : KpL RlT z w3 w5 := by rw [← hw5]; exact (KpL.of B0 HZ3.out).set (p := ⟨z, q, none⟩) hk5 (by simp) (Nat.le_refl _) _
        have lp5 : IdW z w5 (.slice (some ⟨gl, 0, none⟩) n1 cap) L' := by rw [← hw5]; exact SlA.setCell (SlA.below HLP.out B0) (a := ⟨z, q, none⟩) _ hk5 (by decide)
        have j5 := HJ.out _ _ _ HJ3.out (by rw [HZ.out]; exact kp5)
        have HS5 := Lib.hid (HST3.out.kpl kp5 (by decide) (by decide))
        have HC5 : Hid (CpB w5 g B) := Lib.hid (kp5.cells _ (by decide) _ _ _ HCP3.out)
        have HZ5 : Hid (z ≤ w5.heap.size) := Lib.hid (Nat.le_trans HZ3.out kp5.others.size)
        have HN5 := Lib.hid sn5; have HL5 := Lib.hid lp5
        obtain ⟨fn, tmps, assign, body, hyy, hRR⟩ := HR.out pre x w5 j5 HRN.out (n - 1)
        have HRR := Lib.hid hRR
        clear hRR sn5 hk5 kp5 lp5 j5 cz B0
        gi_wp2_with fail
        refine NP.normal ?_
        clear hor hshl
        gi_wp2_with fail
        refine ⟨(fun h => by cases h), HRR.out.mono ?_⟩
        rintro e w6 (⟨rfl, hj6, hkp, hsz⟩ | ⟨rfl, hjx⟩)
        · have L6 := Lib.hid (SlA.keepB HL5.out HMZ.out hkp.own)
          have N6 := Lib.hid (HN5.out.keep (fun cs t fz h => hkp.own z cs t fz HMZ.out h))
          have S6 := Lib.hid (HS5.out.kpi hkp.kpi (by decide) (by decide))
          have C6 : Hid (CpB w6 g B) := Lib.hid (hkp.kpi.cells _ (by decide) _ _ _ HC5.out)
          have J6 := Lib.hid hj6
          have Z6 : Hid (z ≤ w6.heap.size) := Lib.hid (Nat.le_trans HZ5.out hsz)
          clear hj6 hkp hsz hw5 cq fq
          gi_wp2_with fail
          gi_roundg (2 * id + 1 - 2 * (pre ++ [x]).length - L'.length)
          case measure => exact HLT.out
          case rel => exact ⟨L', pre ++ [x], _, _, _, rfl, rfl, L6.out, HRO.out, N6.out, J6.out, S6.out, C6.out, Z6.out⟩
        · have HJX := Lib.hid hjx
          clear hjx hw5 cq fq
          gi_wp2_with fail
          refine bodyPost_ret (results_none rfl _ _ _) rfl ?_
          exact ⟨⟨_, rfl⟩, .inr ⟨pre ++ [x], HRN.out.next, HJX.out⟩⟩
      · have hyb : ((y : Int) != 0) = true := by simp; omega
        have HNE : Hid (nxR E x pre ≠ 0) := Lib.hid (by rw [HNX.out]; exact hy0)
        have HPS : Hid (RlI E id pre (L' ++ [x] ++ [y])) := Lib.hid (by have h := HRI.out.push HWF.out HID.out.2 HNE.out; rwa [HNX.out] at h)
        have HLT : Hid (2 * id + 1 - 2 * pre.length - (L' ++ [x] ++ [y]).length < gk) := Lib.hid (by
          have h1 := HPS.out.len; have h2 := HKW.out
          rw [List.length_append, List.length_singleton] at h1 ⊢
          omega)
        obtain ⟨nn, hnn⟩ : ∃ y', (L' ++ [x] ++ [y]).length = y' := ⟨_, rfl⟩
        have HNN := Lib.hid hnn
        have HAPP : Hid (((L' ++ [x]).length + 1) * 8 ≤ 140737488355328) := Lib.hid (by rw [List.length_append, List.length_singleton, HN1.out]; omega)
        clear hy0 hnn
        gi_wp2_with (
          gi_at_builtin
          refine wp_app1In (w0 := w3) (enc := encI) (v := .slice (some ⟨gl, 0, none⟩) (n1 + 1) cap) elemId encI_len rfl _ _ rfl rfl HL3.out y rfl rfl (encI_one _) HAPP.out HZ3.out ?_
          intro v8 w8 hS8 hg8 hb8
          obtain ⟨a8, c8, rfl⟩ : ∃ a c, v8 = .slice a nn c := by obtain ⟨a, c, h⟩ := hS8.len; exact ⟨a, c, by rw [h, HNN.out]⟩
          have HX1 := Lib.hid hS8
          have HX2 : Hid (KpL RlT z w3 w8) := Lib.hid ⟨hb8, fun t ht k cs fz h => app_other HL3.out hg8 h (by rintro rfl; exact ht (by simp)), app_keepsOthers HL3.out hg8⟩
          have HX3 : Hid (SnW w8 z m pre) := Lib.hid (SnW.keepT HSN3.out (fun k cs fz h => app_other HL3.out hg8 h (by decide)))
          clear hS8 hg8 hb8)
        gi_roundg (2 * id + 1 - 2 * pre.length - (L' ++ [x] ++ [y]).length)
        case measure => exact HLT.out
        case rel => exact ⟨_, pre, _, _, _, rfl, by rfl, HX1.out, HPS.out, HX3.out, HJ.out _ _ _ HJ3.out (by rw [HZ.out]; exact HX2.out), HST3.out.kpl HX2.out (by decide) (by decide), HX2.out.cells _ (by decide) _ _ _ HCP3.out, Nat.le_trans HZ3.out HX2.out.others.size⟩
end M
end Go.Proofs.Ytpjcfepngjpfbaa
