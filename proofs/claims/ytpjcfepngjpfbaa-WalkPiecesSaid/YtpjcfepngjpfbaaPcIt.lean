/- walk.Pieces: the iterator's contract. -/
import Derived.Test.YtpjcfepngjpfbaaPcP
import Derived.Test.YtpjcfepngjpfbaaLts
import Derived.Test.YtpjcfepngjpfbaaLtk
import Derived.Test.YtpjcfepngjpfbaaCom
import Derived.Lib.MinMax
set_option linter.unusedVariables false
set_option linter.unusedSimpArgs false
namespace Go.Proofs.Ytpjcfepngjpfbaa
open Go.RowKit Go.Lib
namespace M
attribute [local go_sem] Oper.semAt_some
def encN (n : Nat × Nat) : List Value := [.int .i64 n.1, .int .i64 n.2]
theorem encN_len (n : Nat × Nat) : (encN n).length = 2 := rfl
theorem encN_one (n : Nat × Nat) : ∀ u ∈ encN n, u.oneCell' = true := by simp [encN, Value.oneCell']
abbrev Nds (B : Nat) (W : World) (v : Value) (L : List (Nat × Nat)) : Prop := SlA B W 149 2 encN v L
theorem elemN : Elem Try.prog 150 149 2 16 := elem_of Try.underlying150 (z := .agg #[.int .i64 0, .int .i64 0]) (by kernel_rfl) rfl (by decide) (by decide)
/-- A node, in a box. -/
def NdC (W : World) (g : Nat) (n : Nat × Nat) : Prop := W.heap[g]? = some (.cells #[.int .i64 n.1, .int .i64 n.2] 149 (0, 0))
theorem NdC.cells {W : World} {g : Nat} {n : Nat × Nat} (h : NdC W g n) : W.cell? ⟨g, 0, none⟩ = some (.int .i64 n.1) ∧ W.cell? ⟨g, 1, none⟩ = some (.int .i64 n.2) := by
  unfold NdC at h
  exact ⟨by simp [World.cell?, h], by simp [World.cell?, h]⟩
theorem NdC.below {A C : World} {g : Nat} {n : Nat × Nat} (h : NdC A g n) (b : Below A.heap.size A C) : NdC C g n := below_block b h
theorem newNd (w : World) (n : Nat × Nat) : ∃ wz w2, w.alloc (.cells #[.int .i64 0, .int .i64 0] 149) = wz ∧ (wz.setCell ⟨w.heap.size, 0, none⟩ (.int .i64 n.1)).setCell ⟨w.heap.size, 1, none⟩ (.int .i64 n.2) = w2 ∧ NdC w2 w.heap.size n ∧ Below w.heap.size w w2 ∧
    (wz.cell? ⟨w.heap.size, 0, none⟩ = some (.int .i64 0) ∧ wz.cell? ⟨w.heap.size, 1, none⟩ = some (.int .i64 0)) ∧ wz.frozen? ⟨w.heap.size, 0, none⟩ = false ∧ wz.frozen? ⟨w.heap.size, 1, none⟩ = false := by
  have k0 : (w.alloc (.cells #[.int .i64 0, .int .i64 0] 149)).heap[w.heap.size]? = some (.cells #[.int .i64 0, .int .i64 0] 149 (0, 0)) := heap_new' _ _
  have b0 : Below w.heap.size w (w.alloc (.cells #[.int .i64 0, .int .i64 0] 149)) := (Below.refl _ _).alloc (Nat.le_refl _) _
  generalize w.alloc (.cells #[.int .i64 0, .int .i64 0] 149) = wz at k0 b0
  refine ⟨wz, _, rfl, rfl, heap_set0 _ (heap_set0 _ k0), (b0.setCell (p := ⟨w.heap.size, 0, none⟩) (Nat.le_refl _) _).setCell (p := ⟨w.heap.size, 1, none⟩) (Nat.le_refl _) _, ⟨by simp [World.cell?, k0], by simp [World.cell?, k0]⟩, by simp [World.frozen?, k0], by simp [World.frozen?, k0]⟩
abbrev PcT : List TypeId := [149]
abbrev PcK : List TypeId := [23, 116, 122, 149]
abbrev encP (x : Nat × Nat) : Array Value := #[.int .i64 x.1, .int .i64 x.2]
/-- Between two rounds. -/
def PcI (z n0 M B most : Nat) (E : List En) (id f t : Nat) (ys : List (Nat × Nat)) (J : List (Nat × Nat) → World → Prop) (k : Nat) (av : Value) (wr : World) : Prop :=
  ∃ (L pre : List (Nat × Nat)) (va : Option Addr) (vn vc : Nat), wkN E L = k ∧ av = .slice va vn vc ∧ Nds z wr (.slice va vn vc) L ∧ StkN E id L ∧ pre ++ remN E f t L = ys ∧ J pre wr ∧ StB n0 M wr B most E ∧ z ≤ wr.heap.size
set_option maxRecDepth 100000 in
set_option maxHeartbeats 16000000 in
theorem pcs_any (n : Nat) {n0 B most M : Nat} {W : World} {E : List En} {id f t : Nat} (hs : StB n0 M W B most E) (hwd : WfD E) (hE : E.length ≤ 1048576) (hid : id ≤ E.length) (hev : (entAt E id).even = true) (hft : f ≤ t) (ht : t ≤ (txt E id).length) {l : Nat} {J Jx : List (Nat × Nat) → World → Prop} (hJ : ∀ s A B, J s A → KpL PcT W.heap.size A B → J s B)
    (hY : ∀ pre x W1, J pre W1 → pre ++ [x] <+: pcF E f t id 0 → ∀ m, YieldAt Fence.wide m Try.prog l (encP x) W1 fun e W' => (e = .returned (.bool true) ∧ J (pre ++ [x]) W' ∧ KpI PcK M W1 W' ∧ W1.heap.size ≤ W'.heap.size) ∨ (e = .returned (.bool false) ∧ Jx (pre ++ [x]) W')) (hj0 : J [] W) :
    CallsIn Fence.wide n Try.prog 53 #[.pointer (some ⟨B, 0, none⟩), .int .i64 id, .int .i64 f, .int .i64 t, .func (.yield l) #[] #[]] W fun e W' => (∃ v, e = .returned v) ∧ ((∃ xs, xs = pcF E f t id 0 ∧ J xs W') ∨ (∃ pre, pre <+: pcF E f t id 0 ∧ Jx pre W')) := by
  have HF : ∀ f, Fence.wide.fn f := fun _ => trivial
  have hlen := (hwd.wf.len hid).2
  obtain ⟨ys, hys⟩ : ∃ y, pcF E f t id 0 = y := ⟨_, rfl⟩
  have HYS := Lib.hid hys
  rw [hys] at hY ⊢
  have HJ := Lib.hid hJ; have HY := Lib.hid hY; have HWD := Lib.hid hwd; have HEL := Lib.hid hE; have HID := Lib.hid hid
  have HTB : Hid (f ≤ t ∧ t ≤ (txt E id).length ∧ (txt E id).length ≤ 1152921504606846976) := Lib.hid ⟨hft, ht, hlen⟩
  obtain ⟨W1, hW1⟩ : ∃ w, W.alloc (.cells #[.int .i64 id, .int .i64 0] 149) = w := ⟨_, rfl⟩
  have l1 : Nds W.heap.size W1 (.slice (some ⟨W.heap.size, 0, none⟩) 1 1) [(id, 0)] := by rw [← hW1]; exact SlA.lit (l := [(id, 0)]) encN_len rfl (by simp; unfold maxLen; omega)
  have b1 : Below W.heap.size W W1 := by rw [← hW1]; exact (Below.refl _ _).alloc (Nat.le_refl _) _
  obtain ⟨z, hz⟩ : ∃ y, W.heap.size = y := ⟨_, rfl⟩
  obtain ⟨k0, hk0⟩ : ∃ y, wkN E [(id, 0)] = y := ⟨_, rfl⟩
  have HST : Hid (PcI z n0 M B most E id f t ys J k0 (.slice (some ⟨W.heap.size, 0, none⟩) 1 1) W1) := Lib.hid ⟨[(id, 0)], [], _, _, _, hk0, rfl, by rw [← hz]; exact l1, StkN.start hid hev, by rw [← hys]; exact remN_snoc E f t [] (id, 0) ▸ (by simp [remN]), HJ.out _ _ _ hj0 (KpL.of b1 (Nat.le_refl _)), hs.kpl (KpL.of (ts := []) b1 (Nat.le_refl _)) (by decide) (by decide), by rw [← hz]; exact b1.size⟩
  rw [hz] at HST
  have HZ := Lib.hid hz
  clear hs hwd hE hid hev hft ht hJ hY hj0 l1 b1 hlen hys hk0
  refine callsIn_of_wp Try.func53 rfl trivial ?_ rfl
  simp only [Try.ntmps53, List.size_toArray, List.length_cons, List.length_nil, Nat.reduceAdd, Nat.reduceSub, Array.replicate_succ, Array.replicate_zero, List.push_toArray, List.append_toArray, List.nil_append, List.cons_append]
  gi_wp2_with fail
  clear hW1 hz
  gi_loopg [10] k0 (fun k av wr => PcI z n0 M B most E id f t ys J k av wr)
  case atStart => exact HST.out
  case round =>
    clear HST
    obtain ⟨L, pre, va, vn, vc, hk, rfl, hL, hsk, hpre, hj, hst, hzr⟩ := hrel
    rcases List.eq_nil_or_concat L with rfl | ⟨L', ⟨x, a⟩, rfl⟩
    · obtain ⟨la, lc, hv⟩ := hL.len
      simp only [Value.slice.injEq, List.length_nil] at hv
      obtain ⟨-, rfl, -⟩ := hv
      have HEND : Hid (pre = ys) := Lib.hid (by rw [← hpre]; simp [remN])
      have HJR := Lib.hid hj
      clear hL hsk hpre hj hst hzr hk
      gi_wp2_with fail
      go_end0
      exact ⟨⟨_, rfl⟩, .inl ⟨pre, HEND.out, HJR.out⟩⟩
    · rw [List.concat_eq_append] at hL hsk hpre hk
      obtain ⟨gl, n1, rfl, rfl, hn1, hcap⟩ : ∃ gl n1, va = some ⟨gl, 0, none⟩ ∧ vn = n1 + 1 ∧ L'.length = n1 ∧ n1 + 1 ≤ vc := by
        rcases hL.shape with ⟨-, h⟩ | ⟨gl, cap, h, hc, -⟩
        · simp at h
        · rw [List.length_append, List.length_singleton] at h hc
          simp only [Value.slice.injEq] at h
          exact ⟨gl, L'.length, h.1, h.2.1, rfl, by rw [h.2.2]; exact hc⟩
      obtain ⟨cap, hcp0⟩ : ∃ y, vc = y := ⟨_, rfl⟩
      rw [hcp0] at hL hcap ⊢
      clear hcp0 vc
      have hll : n1 < (L' ++ [(x, a)]).length := by simp [hn1]
      have hlx : (L' ++ [(x, a)])[n1] = (x, a) := by simp [← hn1]
      have q0 := SlA.cell encN_len hL hll (j := 0) (by omega)
      have q1 := SlA.cell encN_len hL hll (j := 1) (by omega)
      rw [hlx] at q0 q1
      replace q0 : wr.cell? ⟨gl, n1 * 2, none⟩ = some (.int .i64 x) := q0
      replace q1 : wr.cell? ⟨gl, n1 * 2 + 1, none⟩ = some (.int .i64 a) := q1
      have HLP := Lib.hid (SlA.pop encN_len hL hn1)
      have hok := hsk.ok (x, a) (by simp)
      dsimp only at hok
      have htop := hsk.top
      dsimp only at htop
      have hnb : n1 ≤ 1048576 := by have h1 := HID.out; have h2 := HEL.out; omega
      rw [remN_snoc] at hpre
      dsimp only at hpre
      have HOK := Lib.hid hok; have HSP := Lib.hid hsk.pop; have HTOP : Hid (n1 + x ≤ id) := Lib.hid (by rw [← hn1]; exact htop)
      have HPR := Lib.hid hpre
      have HKW : Hid (wkN E L' + wkN E [(x, a)] = gk) := Lib.hid (by rw [← wkN_append]; exact hk)
      have HN1 := Lib.hid hn1
      have HPC := Lib.hid (pcF_cases HWD.out (f := f) (t := t) (a := a) hok.1 hok.2.1)
      obtain ⟨wz, w1, hz1, hs1, kt, b1, ⟨p0, p1⟩, f0, f1⟩ := newNd wr (x, a)
      obtain ⟨gN, hgN⟩ : ∃ y, wr.heap.size = y := ⟨_, rfl⟩
      rw [hgN] at hs1 kt p0 p1 f0 f1
      dsimp only at hs1
      have HND := Lib.hid kt
      obtain ⟨x0, x1⟩ := kt.cells
      dsimp only at x0 x1
      have HL1 := Lib.hid (SlA.below HLP.out b1)
      have HJ1 := Lib.hid (HJ.out _ _ _ hj (by rw [HZ.out]; exact KpL.of b1 hzr))
      have HS1 := Lib.hid (hst.kpl (KpL.of (ts := []) b1 (Nat.le_refl _)) (by decide) (by decide))
      have HZ1 : Hid (z ≤ w1.heap.size) := Lib.hid (Nat.le_trans hzr b1.size)
      have HWX := Lib.hid (weight_any HS1.out.st hok.1 HEL.out)
      rw [(HWD.out.wf.len hok.1).1] at HWX
      obtain ⟨u, hu⟩ : ∃ u, wt (txt E x) = u := ⟨_, rfl⟩
      have HUL : Hid (u.len = (txt E x).length) := Lib.hid (by rw [← hu]; rfl)
      rw [hu] at HWX
      unfold wtV at HWX
      have hj1 : (n1 : Int) < ((n1 + 1 : Nat) : Int) := by omega
      have hj2 : (n1 : Int) ≤ (cap : Int) := by omega
      have hj3 : n1 ≤ cap := by omega
      have hj4 : IntKind.i64.wrap (((n1 + 1 : Nat) : Int) - 1) = (n1 : Int) := by rw [IntKind.wrap_i64]; omega
      have hj5 : (0 : Int) ≤ (n1 : Int) := by omega
      have hn2 : (0 : Int) < ((n1 + 1 : Nat) : Int) := by omega
      have hew : IntKind.i64.wrap ((a : Int) + (u.len : Int)) = ((a + u.len : Nat) : Int) := by rw [IntKind.wrap_i64]; have h1 := HUL.out; have h2 := HTB.out; omega
      obtain ⟨e, he⟩ : ∃ y, a + u.len = y := ⟨_, rfl⟩
      rw [he] at hew
      have hmx : max (f : Int) (a : Int) = ((max f a : Nat) : Int) := by omega
      have hmn : min (t : Int) (e : Int) = ((min t e : Nat) : Int) := by omega
      have HEX : Hid (e = a + (txt E x).length) := Lib.hid (by rw [← HUL.out]; exact he.symm)
      rw [← HEX.out] at HPC
      obtain ⟨mx, hmx2⟩ : ∃ y, max f a = y := ⟨_, rfl⟩
      obtain ⟨mn, hmn2⟩ : ∃ y, min t e = y := ⟨_, rfl⟩
      rw [hmx2, hmn2] at HPC
      rw [hmx2] at hmx
      rw [hmn2] at hmn
      clear hL hll hlx hok htop hsk hpre hk hj hst hzr b1 kt hn1 hcap hu hmx2 hmn2 he
      rcases HPC.out with ⟨c1, c2⟩ | ⟨c1, c0, ⟨c3, c4⟩, c2⟩ | ⟨c1, c0, c3, lx, rx, hn, c2⟩
      · have d1 : (mn : Int) ≤ (mx : Int) := by omega
        have d2 : (mx : Int) ≥ (mn : Int) := d1
        rw [c2] at HPR
        have HLT : Hid (wkN E L' < gk) := Lib.hid (by have h1 := HKW.out; have h2 := wkN_one E (x, a); omega)
        clear HPC
        gi_wp2_with fail
        refine ⟨(fun h => by cases h), callsIn_wide.2 (HWX.out.mono ?_)⟩
        rintro e' w3 ⟨rfl, b3⟩
        obtain ⟨wz4, w4, hz4, hs4, ka, ba, ⟨s0, s1, s2, s3, s4, s5⟩, v0, v1, v2, v3, v4, v5⟩ := newWt w3 u
        obtain ⟨ga, hga⟩ : ∃ g, w3.heap.size = g := ⟨_, rfl⟩
        rw [hga] at hs4 ka s0 s1 s2 s3 s4 s5 v0 v1 v2 v3 v4 v5
        obtain ⟨j0, -, -, -, -, -⟩ := ka.cells
        have b4 := Below.after b3 ba
        obtain ⟨y0, y1⟩ := (HND.out.below b4).cells
        dsimp only at y0 y1
        have HJ4 := Lib.hid (HJ.out _ _ _ HJ1.out (by rw [HZ.out]; exact KpL.of b4 HZ1.out))
        have HS4 := Lib.hid (HS1.out.kpl (KpL.of (ts := []) b4 (Nat.le_refl _)) (by decide) (by decide))
        have HL4 := Lib.hid (SlA.below HL1.out b4)
        have HZ4 : Hid (z ≤ w4.heap.size) := Lib.hid (Nat.le_trans HZ1.out b4.size)
        clear b3 ba ka b4 hz1 hs1 p0 p1 f0 f1 x0 x1
        gi_wp2_with fail
        gi_roundg (wkN E L')
        case measure => exact HLT.out
        case rel => exact ⟨L', pre, _, _, _, rfl, rfl, HL4.out, HSP.out, HPR.out, HJ4.out, HS4.out, HZ4.out⟩
      · have d1 : ¬ (mn : Int) ≤ (mx : Int) := by omega
        have d2 : ¬ (mx : Int) ≥ (mn : Int) := d1
        have d3 : (f : Int) ≤ (a : Int) := by omega
        have d4 : (e : Int) ≤ (t : Int) := by omega
        rw [c2] at HPR
        have HLT : Hid (wkN E L' < gk) := Lib.hid (by have h1 := HKW.out; have h2 := wkN_one E (x, a); omega)
        have HP2 : Hid ((pre ++ [(a, x)]) ++ remN E f t L' = ys) := Lib.hid (by rw [← HPR.out, List.append_assoc])
        clear HPC
        gi_wp2_with fail
        refine ⟨(fun h => by cases h), callsIn_wide.2 (HWX.out.mono ?_)⟩
        rintro e' w3 ⟨rfl, b3⟩
        obtain ⟨wz4, w4, hz4, hs4, ka, ba, ⟨s0, s1, s2, s3, s4, s5⟩, v0, v1, v2, v3, v4, v5⟩ := newWt w3 u
        obtain ⟨ga, hga⟩ : ∃ g, w3.heap.size = g := ⟨_, rfl⟩
        rw [hga] at hs4 ka s0 s1 s2 s3 s4 s5 v0 v1 v2 v3 v4 v5
        obtain ⟨j0, -, -, -, -, -⟩ := ka.cells
        have b4 := Below.after b3 ba
        have HN4 := Lib.hid (HND.out.below b4)
        obtain ⟨y0, y1⟩ := HN4.out.cells
        dsimp only at y0 y1
        have HJ4 := Lib.hid (HJ.out _ _ _ HJ1.out (by rw [HZ.out]; exact KpL.of b4 HZ1.out))
        have HS4 := Lib.hid (HS1.out.kpl (KpL.of (ts := []) b4 (Nat.le_refl _)) (by decide) (by decide))
        have HL4 := Lib.hid (SlA.below HL1.out b4)
        have HZ4 : Hid (z ≤ w4.heap.size) := Lib.hid (Nat.le_trans HZ1.out b4.size)
        clear b3 ba ka b4 hz1 hs1 p0 p1 f0 f1 x0 x1
        obtain ⟨fn, tmps, assign, body, hyy, hRR⟩ := HY.out pre (a, x) w4 HJ4.out ⟨_, HP2.out⟩ (n - 1)
        try dsimp only at hyy
        have HRR := Lib.hid hRR
        clear hRR
        gi_wp2_with fail
        refine ⟨(fun h => by cases h), HRR.out.mono ?_⟩
        rintro e' w6 (⟨rfl, hj6, hkp, hsz⟩ | ⟨rfl, hjx⟩)
        · have L6 := Lib.hid (SlA.keep HL4.out (hkp.cells _ (by decide)))
          have S6 := Lib.hid (HS4.out.kpi hkp (by decide) (by decide))
          have J6 := Lib.hid hj6
          have Z6 : Hid (z ≤ w6.heap.size) := Lib.hid (Nat.le_trans HZ4.out hsz)
          clear hj6 hkp hsz hz4 hs4 s0 s1 s2 s3 s4 s5 v0 v1 v2 v3 v4 v5 j0 y0 y1 hga
          gi_wp2_with fail
          gi_roundg (wkN E L')
          case measure => exact HLT.out
          case rel => exact ⟨L', pre ++ [(a, x)], _, _, _, rfl, rfl, L6.out, HSP.out, HP2.out, J6.out, S6.out, Z6.out⟩
        · have HJX := Lib.hid hjx
          clear hjx hz4 hs4 s0 s1 s2 s3 s4 s5 v0 v1 v2 v3 v4 v5 j0 y0 y1 hga
          gi_wp2_with fail
          refine bodyPost_ret (results_none rfl _ _ _) rfl ?_
          exact ⟨⟨_, rfl⟩, .inr ⟨pre ++ [(a, x)], ⟨_, HP2.out⟩, HJX.out⟩⟩
      · have d1 : ¬ (mn : Int) ≤ (mx : Int) := by omega
        have d2 : ¬ (mx : Int) ≥ (mn : Int) := d1
        rw [c2] at HPR
        have hlen : (txt E x).length = (txt E lx).length + (txt E rx).length := by rw [hn.txt, List.length_append]
        have HLT : Hid (wkN E ((L' ++ [(rx, a + (txt E lx).length)]) ++ [(lx, a)]) < gk) := Lib.hid (by
          have h1 := HKW.out; have h2 := wkN_pair (a := a) (b := a + (txt E lx).length) (c := a) hn
          rw [wkN_append, wkN_append]; omega)
        have HP2 : Hid (pre ++ remN E f t ((L' ++ [(rx, a + (txt E lx).length)]) ++ [(lx, a)]) = ys) := Lib.hid (by
          rw [remN_snoc, remN_snoc]; dsimp only; rw [← HPR.out, List.append_assoc])
        have HSK : Hid (StkN E id ((L' ++ [(rx, a + (txt E lx).length)]) ++ [(lx, a)])) := Lib.hid (by
          have h1 := HOK.out; have h2 := HTOP.out; have h3 := hn.ll; have h4 := hn.rl; have h5 := HN1.out
          refine (HSP.out.push ⟨by dsimp only; omega, hn.re, by dsimp only; omega⟩ (by dsimp only; omega)).push ⟨by dsimp only; omega, hn.le, by dsimp only; omega⟩ ?_
          rw [List.length_append, List.length_singleton]; dsimp only; omega)
        have hle : lx ≤ E.length := by have h1 := HOK.out; have h2 := hn.ll; omega
        have HRU := Lib.hid (fun (w : World) (h : StAt n0 w B most E) => rule_any h c0 HOK.out.1 HEL.out)
        obtain ⟨r, hr⟩ : ∃ r, (entAt E x).ru = r := ⟨_, rfl⟩
        rw [hr] at HRU
        unfold ruV at HRU
        have hrl : r.left = lx := by rw [← hr]; exact hn.left
        have hrr : r.right = rx := by rw [← hr]; exact hn.right
        have HRL := Lib.hid hrl; have HRR := Lib.hid hrr
        clear hrl hrr
        have HWL := Lib.hid (fun (w : World) (h : StAt n0 w B most E) => weight_any h hle HEL.out)
        rw [(HWD.out.wf.len hle).1] at HWL
        obtain ⟨ul, hul⟩ : ∃ u, wt (txt E lx) = u := ⟨_, rfl⟩
        have HULL : Hid (ul.len = (txt E lx).length) := Lib.hid (by rw [← hul]; rfl)
        rw [hul] at HWL
        unfold wtV at HWL
        have haw : IntKind.i64.wrap ((a : Int) + (ul.len : Int)) = ((a + (txt E lx).length : Nat) : Int) := by rw [IntKind.wrap_i64, HULL.out]; have h1 := HOK.out; have h2 := HTB.out; omega
        obtain ⟨am, ham⟩ : ∃ y, a + (txt E lx).length = y := ⟨_, rfl⟩
        rw [ham] at haw HLT HP2 HSK
        clear hn hul hr hle hlen ham HPC
        by_cases c5 : f ≤ a
        · have d3 : (f : Int) ≤ (a : Int) := by omega
          have d4 : ¬ (e : Int) ≤ (t : Int) := by omega
          have d5 : ¬ e ≤ t := by omega
          gi_wp2_with fail
          refine ⟨(fun h => by cases h), callsIn_wide.2 (HWX.out.mono ?_)⟩
          rintro e' w3 ⟨rfl, b3⟩
          obtain ⟨wz4, w4, hz4, hs4, ka, ba, ⟨s0, s1, s2, s3, s4, s5⟩, v0, v1, v2, v3, v4, v5⟩ := newWt w3 u
          obtain ⟨ga, hga⟩ : ∃ g, w3.heap.size = g := ⟨_, rfl⟩
          rw [hga] at hs4 ka s0 s1 s2 s3 s4 s5 v0 v1 v2 v3 v4 v5
          obtain ⟨j0, -, -, -, -, -⟩ := ka.cells
          have b4 := Below.after b3 ba
          have HN4 := Lib.hid (HND.out.below b4)
          obtain ⟨y0, y1⟩ := HN4.out.cells
          dsimp only at y0 y1
          have HJ4 := Lib.hid (HJ.out _ _ _ HJ1.out (by rw [HZ.out]; exact KpL.of b4 HZ1.out))
          have HS4 := Lib.hid (HS1.out.kpl (KpL.of (ts := []) b4 (Nat.le_refl _)) (by decide) (by decide))
          have HL4 := Lib.hid (SlA.below HL1.out b4)
          have HZ4 : Hid (z ≤ w4.heap.size) := Lib.hid (Nat.le_trans HZ1.out b4.size)
          clear b3 ba ka b4 hz1 hs1 p0 p1 f0 f1 x0 x1
          have hru := HRU.out w4 HS4.out.st
          have HRW := Lib.hid hru
          clear hru
          gi_wp2_with fail
          refine ⟨(fun h => by cases h), callsIn_wide.2 (HRW.out.mono ?_)⟩
          rintro e' w5 ⟨rfl, b5⟩
          obtain ⟨wz6, w6, hz6, hs6, kr, br, ⟨r0, r1, r2, r3, r4⟩, e0, e1, e2, e3, e4⟩ := newRu w5 r
          obtain ⟨gr, hgr⟩ : ∃ g, w5.heap.size = g := ⟨_, rfl⟩
          rw [hgr] at hs6 kr r0 r1 r2 r3 r4 e0 e1 e2 e3 e4
          obtain ⟨-, -, i2, i3, -⟩ := kr.cells
          have b6 := Below.after b5 br
          have HN6 := Lib.hid (HN4.out.below b6); have HR6 := Lib.hid kr
          have HJ6 := Lib.hid (HJ.out _ _ _ HJ4.out (by rw [HZ.out]; exact KpL.of b6 HZ4.out))
          have HS6 := Lib.hid (HS4.out.kpl (KpL.of (ts := []) b6 (Nat.le_refl _)) (by decide) (by decide))
          have HL6 := Lib.hid (SlA.below HL4.out b6)
          have HZ6 : Hid (z ≤ w6.heap.size) := Lib.hid (Nat.le_trans HZ4.out b6.size)
          have HW6 := Lib.hid (HWL.out w6 HS6.out.st)
          rw [← HRL.out] at HW6
          clear b5 br kr b6 hz4 hs4 s0 s1 s2 s3 s4 s5 v0 v1 v2 v3 v4 v5 j0 y0 y1 hga HRW HJ4 HS4 HL4 HZ4 HN4
          gi_wp2_with fail
          refine ⟨(fun h => by cases h), callsIn_wide.2 (HW6.out.mono ?_)⟩
          rintro e' w7 ⟨rfl, b7⟩
          obtain ⟨wz8, w8, hz8, hs8, ka, ba, ⟨s0, s1, s2, s3, s4, s5⟩, v0, v1, v2, v3, v4, v5⟩ := newWt w7 ul
          obtain ⟨ga2, hga⟩ : ∃ g, w7.heap.size = g := ⟨_, rfl⟩
          rw [hga] at hs8 ka s0 s1 s2 s3 s4 s5 v0 v1 v2 v3 v4 v5
          obtain ⟨j0, -, -, -, -, -⟩ := ka.cells
          have b8 := Below.after b7 ba
          obtain ⟨y0, y1⟩ := (HN6.out.below b8).cells
          dsimp only at y0 y1
          have kr8 := below_block b8 HR6.out
          obtain ⟨-, -, o2, o3, -⟩ := RuC.cells kr8
          have HJ8 := Lib.hid (HJ.out _ _ _ HJ6.out (by rw [HZ.out]; exact KpL.of b8 HZ6.out))
          have HS8 := Lib.hid (HS6.out.kpl (KpL.of (ts := []) b8 (Nat.le_refl _)) (by decide) (by decide))
          have HL8 := Lib.hid (SlA.below HL6.out b8)
          have HZ8 : Hid (z ≤ w8.heap.size) := Lib.hid (Nat.le_trans HZ6.out b8.size)
          rw [HRL.out] at o2
          rw [HRR.out] at o3
          obtain ⟨Wc, hWc⟩ : ∃ w, w8.alloc (.cells #[.int .i64 rx, .int .i64 am, .int .i64 lx, .int .i64 a] 149) = w := ⟨_, rfl⟩
          have lc : Nds w8.heap.size Wc (.slice (some ⟨w8.heap.size, 0, none⟩) 2 2) [(rx, am), (lx, a)] := by rw [← hWc]; exact SlA.lit (l := [(rx, am), (lx, a)]) encN_len rfl (by simp; unfold maxLen; omega)
          have bc : Below w8.heap.size w8 Wc := by rw [← hWc]; exact (Below.refl _ _).alloc (Nat.le_refl _) _
          have HLC := Lib.hid lc
          have HLc := Lib.hid (SlA.below HL8.out bc)
          have HZC : Hid (z ≤ Wc.heap.size) := Lib.hid (Nat.le_trans HZ8.out bc.size)
          have HKC : Hid (KpL PcT z w8 Wc) := Lib.hid (KpL.of bc HZ8.out)
          clear b7 ba ka b8 hz6 hs6 r0 r1 r2 r3 r4 e0 e1 e2 e3 e4 i2 i3 hgr kr8 lc bc HJ6 HS6 HL6 HZ6 HN6 HR6 HW6
          gi_wp2_with (
            gi_at_builtin
            refine wp_catInO (l2 := [(rx, am), (lx, a)]) elemN encN_len encN_one rfl _ _ rfl rfl HLc.out rfl rfl HLC.out (by rw [HN1.out]; simp; omega) HZC.out ?_
            intro v5 w9 hS5 hg5 hb5
            obtain ⟨nn, hnn⟩ : ∃ y, (L' ++ [(rx, am), (lx, a)]).length = y := ⟨_, rfl⟩
            obtain ⟨va5, vc5, rfl⟩ : ∃ a c, v5 = .slice a nn c := by obtain ⟨a, c, h⟩ := hS5.len; exact ⟨a, c, by rw [h, hnn]⟩
            have HKP := Lib.hid (HKC.out.trans (KpL.own (ts := PcT) HLc.out hg5 HZC.out (by simp)))
            have HL5 := Lib.hid hS5
            clear hS5 hg5 hb5 hnn)
          have hap : L' ++ [(rx, am), (lx, a)] = (L' ++ [(rx, am)]) ++ [(lx, a)] := by simp
          rw [hap] at HL5
          gi_roundg (wkN E ((L' ++ [(rx, am)]) ++ [(lx, a)]))
          case measure => exact HLT.out
          case rel => exact ⟨_, pre, _, _, _, rfl, rfl, HL5.out, HSK.out, HP2.out, HJ.out _ _ _ HJ8.out (by rw [HZ.out]; exact HKP.out), HS8.out.kpl HKP.out (by decide) (by decide), Nat.le_trans HZ8.out HKP.out.others.size⟩
        · have d3 : ¬ (f : Int) ≤ (a : Int) := by omega
          gi_wp2_with fail
          refine ⟨(fun h => by cases h), callsIn_wide.2 (HWX.out.mono ?_)⟩
          rintro e' w3 ⟨rfl, b3⟩
          obtain ⟨wz4, w4, hz4, hs4, ka, ba, ⟨s0, s1, s2, s3, s4, s5⟩, v0, v1, v2, v3, v4, v5⟩ := newWt w3 u
          obtain ⟨ga, hga⟩ : ∃ g, w3.heap.size = g := ⟨_, rfl⟩
          rw [hga] at hs4 ka s0 s1 s2 s3 s4 s5 v0 v1 v2 v3 v4 v5
          obtain ⟨j0, -, -, -, -, -⟩ := ka.cells
          have b4 := Below.after b3 ba
          have HN4 := Lib.hid (HND.out.below b4)
          obtain ⟨y0, y1⟩ := HN4.out.cells
          dsimp only at y0 y1
          have HJ4 := Lib.hid (HJ.out _ _ _ HJ1.out (by rw [HZ.out]; exact KpL.of b4 HZ1.out))
          have HS4 := Lib.hid (HS1.out.kpl (KpL.of (ts := []) b4 (Nat.le_refl _)) (by decide) (by decide))
          have HL4 := Lib.hid (SlA.below HL1.out b4)
          have HZ4 : Hid (z ≤ w4.heap.size) := Lib.hid (Nat.le_trans HZ1.out b4.size)
          clear b3 ba ka b4 hz1 hs1 p0 p1 f0 f1 x0 x1
          have hru := HRU.out w4 HS4.out.st
          have HRW := Lib.hid hru
          clear hru
          gi_wp2_with fail
          refine ⟨(fun h => by cases h), callsIn_wide.2 (HRW.out.mono ?_)⟩
          rintro e' w5 ⟨rfl, b5⟩
          obtain ⟨wz6, w6, hz6, hs6, kr, br, ⟨r0, r1, r2, r3, r4⟩, e0, e1, e2, e3, e4⟩ := newRu w5 r
          obtain ⟨gr, hgr⟩ : ∃ g, w5.heap.size = g := ⟨_, rfl⟩
          rw [hgr] at hs6 kr r0 r1 r2 r3 r4 e0 e1 e2 e3 e4
          obtain ⟨-, -, i2, i3, -⟩ := kr.cells
          have b6 := Below.after b5 br
          have HN6 := Lib.hid (HN4.out.below b6); have HR6 := Lib.hid kr
          have HJ6 := Lib.hid (HJ.out _ _ _ HJ4.out (by rw [HZ.out]; exact KpL.of b6 HZ4.out))
          have HS6 := Lib.hid (HS4.out.kpl (KpL.of (ts := []) b6 (Nat.le_refl _)) (by decide) (by decide))
          have HL6 := Lib.hid (SlA.below HL4.out b6)
          have HZ6 : Hid (z ≤ w6.heap.size) := Lib.hid (Nat.le_trans HZ4.out b6.size)
          have HW6 := Lib.hid (HWL.out w6 HS6.out.st)
          rw [← HRL.out] at HW6
          clear b5 br kr b6 hz4 hs4 s0 s1 s2 s3 s4 s5 v0 v1 v2 v3 v4 v5 j0 y0 y1 hga HRW HJ4 HS4 HL4 HZ4 HN4
          gi_wp2_with fail
          refine ⟨(fun h => by cases h), callsIn_wide.2 (HW6.out.mono ?_)⟩
          rintro e' w7 ⟨rfl, b7⟩
          obtain ⟨wz8, w8, hz8, hs8, ka, ba, ⟨s0, s1, s2, s3, s4, s5⟩, v0, v1, v2, v3, v4, v5⟩ := newWt w7 ul
          obtain ⟨ga2, hga⟩ : ∃ g, w7.heap.size = g := ⟨_, rfl⟩
          rw [hga] at hs8 ka s0 s1 s2 s3 s4 s5 v0 v1 v2 v3 v4 v5
          obtain ⟨j0, -, -, -, -, -⟩ := ka.cells
          have b8 := Below.after b7 ba
          obtain ⟨y0, y1⟩ := (HN6.out.below b8).cells
          dsimp only at y0 y1
          have kr8 := below_block b8 HR6.out
          obtain ⟨-, -, o2, o3, -⟩ := RuC.cells kr8
          have HJ8 := Lib.hid (HJ.out _ _ _ HJ6.out (by rw [HZ.out]; exact KpL.of b8 HZ6.out))
          have HS8 := Lib.hid (HS6.out.kpl (KpL.of (ts := []) b8 (Nat.le_refl _)) (by decide) (by decide))
          have HL8 := Lib.hid (SlA.below HL6.out b8)
          have HZ8 : Hid (z ≤ w8.heap.size) := Lib.hid (Nat.le_trans HZ6.out b8.size)
          rw [HRL.out] at o2
          rw [HRR.out] at o3
          obtain ⟨Wc, hWc⟩ : ∃ w, w8.alloc (.cells #[.int .i64 rx, .int .i64 am, .int .i64 lx, .int .i64 a] 149) = w := ⟨_, rfl⟩
          have lc : Nds w8.heap.size Wc (.slice (some ⟨w8.heap.size, 0, none⟩) 2 2) [(rx, am), (lx, a)] := by rw [← hWc]; exact SlA.lit (l := [(rx, am), (lx, a)]) encN_len rfl (by simp; unfold maxLen; omega)
          have bc : Below w8.heap.size w8 Wc := by rw [← hWc]; exact (Below.refl _ _).alloc (Nat.le_refl _) _
          have HLC := Lib.hid lc
          have HLc := Lib.hid (SlA.below HL8.out bc)
          have HZC : Hid (z ≤ Wc.heap.size) := Lib.hid (Nat.le_trans HZ8.out bc.size)
          have HKC : Hid (KpL PcT z w8 Wc) := Lib.hid (KpL.of bc HZ8.out)
          clear b7 ba ka b8 hz6 hs6 r0 r1 r2 r3 r4 e0 e1 e2 e3 e4 i2 i3 hgr kr8 lc bc HJ6 HS6 HL6 HZ6 HN6 HR6 HW6
          gi_wp2_with (
            gi_at_builtin
            refine wp_catInO (l2 := [(rx, am), (lx, a)]) elemN encN_len encN_one rfl _ _ rfl rfl HLc.out rfl rfl HLC.out (by rw [HN1.out]; simp; omega) HZC.out ?_
            intro v5 w9 hS5 hg5 hb5
            obtain ⟨nn, hnn⟩ : ∃ y, (L' ++ [(rx, am), (lx, a)]).length = y := ⟨_, rfl⟩
            obtain ⟨va5, vc5, rfl⟩ : ∃ a c, v5 = .slice a nn c := by obtain ⟨a, c, h⟩ := hS5.len; exact ⟨a, c, by rw [h, hnn]⟩
            have HKP := Lib.hid (HKC.out.trans (KpL.own (ts := PcT) HLc.out hg5 HZC.out (by simp)))
            have HL5 := Lib.hid hS5
            clear hS5 hg5 hb5 hnn)
          have hap : L' ++ [(rx, am), (lx, a)] = (L' ++ [(rx, am)]) ++ [(lx, a)] := by simp
          rw [hap] at HL5
          gi_roundg (wkN E ((L' ++ [(rx, am)]) ++ [(lx, a)]))
          case measure => exact HLT.out
          case rel => exact ⟨_, pre, _, _, _, rfl, rfl, HL5.out, HSK.out, HP2.out, HJ.out _ _ _ HJ8.out (by rw [HZ.out]; exact HKP.out), HS8.out.kpl HKP.out (by decide) (by decide), Nat.le_trans HZ8.out HKP.out.others.size⟩
end M
end Go.Proofs.Ytpjcfepngjpfbaa
