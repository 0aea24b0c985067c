/- The cursor: Read. -/
import Derived.Test.YtjbllcakaljpgaaSpell
import Derived.Test.YtjbllcakaljpgaaAccW
import Derived.Test.YtjbllcakaljpgaaMake
import Derived.Test.YtjbllcakaljpgaaCur1
import Derived.Test.YtjbllcakaljpgaaMoves
namespace Go.Proofs.Ytjbllcakaljpgaa
open Go.RowKit Go.Lib
namespace M
attribute [local go_sem] Oper.semAt_some
/-- append within the room. -/
theorem wp_room {ops : Array Oper} {rest : List Oper} {o : Oper} {a : Act} {Q : Exit → Act → World → Prop} {b0 g n : Nat} {w : World} {l l2 : List Nat} (hgd : o.guard = none) (s x : Operand) (ho : o.op = .call { callee := .builtin .append, args := #[s, x], argTypes := #[37, 37] })
    (h : Bys b0 w (.slice (some ⟨g, 0, none⟩) l.length n) l) {ad : Addr} {c m k : Nat} (hk : l.length = k) (hs : a.eval s = .slice (some ⟨g, 0, none⟩) k n) (hx : a.eval x = .slice (some ad) m c) (hm : l2.length = m) (hc : ∀ (j x : Nat), l2[j]? = some x → w.cell? (ad.add j) = some (.int .u8 x)) (hr : k + m ≤ n)
    (hK : ∀ w', Bys b0 w' (.slice (some ⟨g, 0, none⟩) (l ++ l2).length n) (l ++ l2) → w.grownBy w' (some g) → wpList Try.prog ops Q rest (a.put o.dst (.slice (some ⟨g, 0, none⟩) (k + m) n)) w') : wpList Try.prog ops Q (o :: rest) a w := by
  subst hk hm
  obtain ⟨ht, i, z, hi, hz, hsz, hby, hzs, h0, hb0⟩ := elemB
  refine wpList_append_own_spare w hgd s x 37 ho b0 5 i 1 ht hi hsz g l.length n (l.flatMap encB) hs h ad l2.length c (l2.flatMap encB) hx (flatMap_len encB_len l2) ?_ ?_ hr ?_
  · intro j u hu
    have hjl : j < l2.length := by have := (List.getElem?_eq_some_iff.1 hu).1; rwa [flatMap_len encB_len, Nat.mul_one] at this
    have h1 := flatMap_get encB_len l2 j 0 hjl (by omega)
    rw [Nat.mul_one, Nat.add_zero, hu] at h1
    have h2 := hc j l2[j] (List.getElem?_eq_getElem hjl)
    rw [h2, h1]; rfl
  · intro u hu
    obtain ⟨y, -, hy⟩ := List.mem_flatMap.1 hu
    exact encB_one y u hy
  · intro w' hown hg
    have := SlA.append (l2 := l2) hown rfl rfl rfl
    exact hK w' (by rwa [List.length_append]) hg
theorem rep_snoc (k : Nat) (t : List Nat) : rep k t ++ t = rep (k + 1) t := by
  rw [rep_add, rep_one]
theorem Tb.at {b0 gb g n : Nat} {W : World} {l : List Nat} (h : Tb b0 W gb g n l) {i x : Nat} (hi : l[i]? = some x) : W.cell? ⟨g, i, none⟩ = some (.int .u8 x) := by
  obtain ⟨hlt, rfl⟩ := List.getElem?_eq_some_iff.1 hi
  have := SlA.cell encB_len h.row hlt (j := 0) (by omega)
  rw [Nat.mul_one, Nat.add_zero] at this
  exact this
set_option maxRecDepth 100000 in
set_option maxHeartbeats 4000000 in
theorem evisit_any {n0 B most : Nat} {E : List En} {W : World} (hs : StAt n0 W B most E) (hwf : Wf E) (hE : E.length ≤ 1048576) {gs b0 gb g n : Nat} {acc : List Nat} (hgs : PsC W gs B) (hT : Tb b0 W gb g n acc) {x m : Nat} (hx0 : 0 < x) (hx : x ≤ E.length) (hm : 0 < m) (hl : acc.length + m * (txt E x).length ≤ n) :
    Calls Try.prog 43 #[.int .i64 x, .int .i64 m, .pointer (some ⟨gb, 0, none⟩), .pointer (some ⟨gs, 0, none⟩)] W fun e w' => e = .returned .nilIface ∧ Tb b0 w' gb g n (acc ++ rep m (txt E x)) ∧ B2 gb g W w' := by
  have hpos : 0 < (txt E x).length := (hwf.get x hx0 hx).2.2.1
  have hm1 : (txt E x).length ≤ m * (txt E x).length := Nat.le_mul_of_pos_left _ hm
  have hm2 : m ≤ m * (txt E x).length := Nat.le_mul_of_pos_right _ hpos
  have hnm := hT.room.2
  unfold maxLen at hnm
  have HSP := Lib.hid (spell_any hs hwf hE hT hx0 hx (by omega))
  obtain ⟨t, ht⟩ : ∃ t, txt E x = t := ⟨_, rfl⟩
  rw [ht] at HSP hl hpos hm1 hm2 ⊢
  have c0 := hT.cell.1
  have d0 := hgs.cell
  obtain ⟨al, hal⟩ : ∃ k, acc.length = k := ⟨_, rfl⟩
  rw [hal] at c0 hl
  obtain ⟨tl, htl⟩ : ∃ k, t.length = k := ⟨_, rfl⟩
  rw [htl] at hl hpos hm1 hm2
  have HAL := Lib.hid hal; have HTL := Lib.hid htl; have HL := Lib.hid hl
  have HGG := Lib.hid hT.lt
  have hmw : IntKind.i64.wrap ((m : Int) - 1) = ((m - 1 : Nat) : Int) := by rw [IntKind.wrap_i64]; omega
  obtain ⟨m1, hm1e⟩ : ∃ k, m - 1 = k := ⟨_, rfl⟩
  rw [hm1e] at hmw
  have HM1 : Hid (m = m1 + 1) := Lib.hid (by omega)
  have hmb : m1 ≤ 9223372036854775806 := by omega
  have hln : al + tl ≤ n := by omega
  obtain ⟨l1, hl1⟩ : ∃ k, al + tl = k := ⟨_, rfl⟩
  rw [hl1] at hln
  have hall : al ≤ l1 := by omega
  have hli : (al : Int) ≤ (l1 : Int) := by omega
  have hlj : (l1 : Int) ≤ (n : Int) := by omega
  have HL1 := Lib.hid hl1
  have hsub : l1 - al = tl := by omega
  clear hs hwf hT hgs ht hal htl hl hm1 hm2 hm1e hl1 hm hx0 hx
  go_enter Try.func43, Try.ntmps43
  go_wp2_with fail
  refine HSP.out.mono ?_
  rintro e w1 ⟨rfl, t1, b1⟩
  have HB1 := Lib.hid b1; have HT1 := Lib.hid t1
  have c1 := t1.cell.1
  rw [List.length_append, HAL.out, HTL.out, HL1.out] at c1
  clear b1 t1 c0 d0
  go_wp2_with fail
  clear c1
  go_loopw [23] (fun iv wr => ∃ i : Nat, iv = .int .i64 i ∧ i ≤ m1 ∧ Tb b0 wr gb g n (acc ++ rep (i + 1) t) ∧ B2 gb g W wr) (fun iv _ => m1 + 1 - (intOf iv).toNat)
  case atStart => exact ⟨0, rfl, Nat.zero_le _, by rw [rep_one]; exact HT1.out, HB1.out⟩
  case round =>
    clear HT1 HB1
    obtain ⟨i, rfl, hi, hT, hB⟩ := hrel
    have HT := Lib.hid hT; have HB := Lib.hid hB
    by_cases hlt : i < m1
    · have hlt2 : (i : Int) < (m1 : Int) := by omega
      obtain ⟨q, hq⟩ : ∃ q, (acc ++ rep (i + 1) t).length = q := ⟨_, rfl⟩
      have hqe : q = al + (i + 1) * tl := by rw [← hq, List.length_append, rep_length, HAL.out, HTL.out]
      have hqn : q + tl ≤ n := by
        have h1 : (i + 2) * tl ≤ m * tl := Nat.mul_le_mul_right _ (by have := HM1.out; omega)
        have h2 := HL.out
        rw [show i + 2 = (i + 1) + 1 by omega, Nat.succ_mul] at h1
        omega
      obtain ⟨c2, f2⟩ := hT.cell
      rw [hq] at c2
      have HC : Hid (∀ (j x : Nat), t[j]? = some x → wr.cell? ((⟨g, al, none⟩ : Addr).add j) = some (.int .u8 x)) := Lib.hid (fun j x hx => by
        have e1 : (⟨g, al, none⟩ : Addr).add j = ⟨g, al + j, none⟩ := by unfold Addr.add; split <;> simp_all
        rw [e1]
        refine HT.out.at ?_
        rw [List.getElem?_append_right (by rw [HAL.out]; omega), HAL.out, Nat.add_sub_cancel_left, rep_succ, List.getElem?_append_left (List.getElem?_eq_some_iff.1 hx).1]
        exact hx)
      have HQ := Lib.hid (And.intro hq hqn)
      clear hT hB hqe
      go_wp2_with (
        at_builtin
        refine wp_room (l := acc ++ rep (i + 1) t) (l2 := t) (k := q) (m := tl) rfl _ _ rfl HT.out.row HQ.out.1 rfl rfl HTL.out HC.out HQ.out.2 ?_
        intro w5 hr5 hg5
        have hb5 : w5.heap[gb]? = some (.cells #[.slice (some ⟨g, 0, none⟩) (acc ++ rep (i + 1) t).length n] 37 (0, 0)) := (hg5.block gb HT.out.lt.1 (fun e => HT.out.lt.2.2 (Option.some.inj e))).trans HT.out.box
        have c5 : w5.cell? ⟨gb, 0, none⟩ = some (.slice (some ⟨g, 0, none⟩) q n) := by simp [World.cell?, hb5, HQ.out.1]
        have f5 : w5.frozen? ⟨gb, 0, none⟩ = false := by simp [World.frozen?, hb5]
        have HX1 : Hid (Tb b0 (w5.setCell ⟨gb, 0, none⟩ (.slice (some ⟨g, 0, none⟩) (q + tl) n)) gb g n (acc ++ rep (i + 1 + 1) t)) := Lib.hid (by
          have h := Tb.told (l' := (acc ++ rep (i + 1) t) ++ t) hb5 HT.out.lt.2.2 hr5
          rw [List.append_assoc, rep_snoc] at h
          rwa [show (acc ++ rep (i + 1 + 1) t).length = q + tl by rw [← rep_snoc, ← List.append_assoc, List.length_append, HQ.out.1, HTL.out]] at h)
        have HX2 := Lib.hid ((HB.out.grown hg5 (.inr rfl)).set (p := ⟨gb, 0, none⟩) (.inr (.inl rfl)) (.slice (some ⟨g, 0, none⟩) (q + tl) n))
        clear hr5 hg5 hb5)
      clear c2 f2
      go_roundw
      case rel => exact ⟨i + 1, by go_num, by omega, HX1.out, HX2.out⟩
      case measure => first | (simp [intOf]; omega) | simp [intOf]
    · have hlt2 : ¬ (i : Int) < (m1 : Int) := by omega
      have e : i + 1 = m := by have := HM1.out; omega
      rw [e] at HT
      clear hT hB e
      go_wp2_with fail
      go_ret
      exact ⟨rfl, HT.out, HB.out⟩
theorem Tb.grow {b0 gb g n : Nat} {W W' : World} {l : List Nat} (h : Tb b0 W gb g n l) (hk : KeepT 37 W W') (hk2 : KeepT 5 W W') : Tb b0 W' gb g n l := ⟨hk _ _ _ h.box, SlA.keep h.row hk2⟩
/-- What the text's visitor keeps. -/
def IE (n0 B most : Nat) (E : List En) (n1 gs b0 gb g n : Nat) (W0 : World) (acc : List Nat) (w : World) : Prop := StAt n0 w B most E ∧ PsC w gs B ∧ Tb b0 w gb g n acc ∧ Below n1 W0 w
set_option maxRecDepth 100000 in
set_option maxHeartbeats 4000000 in
theorem extract_any {n0 B most : Nat} {E : List En} {W : World} (hs : StAt n0 W B most E) (hwf : Wf E) (hE : E.length ≤ 1048576) {id frm n : Nat} (hid : id ≤ E.length) (hr : frm + n ≤ (txt E id).length) (hn : n ≤ 65536) :
    Calls Try.prog 19 #[.pointer (some ⟨B, 0, none⟩), .int .i64 id, .int .i64 frm, .int .i64 n] W fun e w' => ∃ v, e = .returned (.tuple #[v, .nilIface]) ∧ Bys W.heap.size w' v (((txt E id).drop frm).take n) ∧ Below W.heap.size W w' := by
  have hmf : ∀ (fn : Fn) (first cap : Array Value) (w : World), (Instr.makeFunc fn first cap).run Try.prog w = .ok (.func fn first cap) w := fun _ _ _ _ => rfl
  have hmk : ∀ w : World, (Instr.makeSlice 37 (.int .i64 0) (.int .i64 (n : Int))).run Try.prog w = .ok (.slice (some ⟨w.heap.size, 0, none⟩) 0 n) (w.alloc (.cells (madeCells #[.int .u8 0] n) 5)) := fun w => by
    have h := mk_run (P := Try.prog) (t := 37) (e := 5) (z := .int .u8 0) (size := 1) (bytes := 1) (by kernel_rfl) (by kernel_rfl) 0 n (by omega) (by omega) (by omega) w
    have hz : (Value.int .u8 0).cells = #[Value.int .u8 0] := rfl
    rw [hz] at h
    simpa using h
  obtain ⟨hw, hlen⟩ := hwf.len hid
  have H := Lib.hid hs; have HWF := Lib.hid hwf; have HR := Lib.hid hr
  obtain ⟨W1, hW1⟩ : ∃ w, W.alloc (.cells #[.pointer (some ⟨B, 0, none⟩)] 24) = w := ⟨_, rfl⟩
  have k1 : PsC W1 W.heap.size B := by rw [← hW1]; exact heap_new' W _
  have b1 : Below W.heap.size W W1 := by rw [← hW1]; exact (Below.refl _ W).alloc (Nat.le_refl _) _
  have hz1 : W1.heap.size = W.heap.size + 1 := by rw [← hW1]; simp
  have HW := Lib.hid (weight_any (hs.below b1) hid hE)
  rw [hw] at HW
  obtain ⟨t, ht⟩ : ∃ t, txt E id = t := ⟨_, rfl⟩
  rw [ht] at HW hr hlen ⊢
  have HT := Lib.hid ht
  obtain ⟨u, hu⟩ : ∃ u, wt t = u := ⟨_, rfl⟩
  have hul : u.len = t.length := by rw [← hu]; rfl
  rw [hu] at HW
  unfold wtV at HW
  have HRG := Lib.hid (fun w : World => range_yes w (f := frm) (n := n) (l := u.len) (by omega) (by omega))
  have K1 := Lib.hid k1; have B1 := Lib.hid b1; have HZ1 := Lib.hid hz1
  have c0 := k1.cell
  have hnb : ¬ (n : Int) > 65536 := by omega
  have hnc : (0 : Int) ≤ (n : Int) := by omega
  clear hs hwf hw k1 b1 hz1 ht hu hul hr hlen
  go_enter Try.func19, Try.ntmps19
  go_wp2_with fail
  refine HW.out.mono ?_; rintro e w1 ⟨rfl, b2⟩
  obtain ⟨wz, w2, hz, hs, kw, bw, ⟨p0, p1, p2, p3, p4, p5⟩, q0, q1, q2, q3, q4, q5⟩ := newWt w1 u
  obtain ⟨x0, x1, x2, x3, x4, x5⟩ := kw.cells
  have B2' := Lib.hid (Below.after b2 bw)
  clear b2 kw bw c0
  go_wp2_with fail
  refine (HRG.out w2).mono ?_; rintro e w ⟨rfl, h⟩; rw [h]; clear h w
  clear hW1 hz hs p0 p1 p2 p3 p4 p5 q0 q1 q2 q3 q4 q5 x0 x1 x2 x3 x4 x5
  obtain ⟨gz, hgz⟩ : ∃ g, w2.heap.size = g := ⟨_, rfl⟩
  obtain ⟨w3, hw3⟩ : ∃ w, w2.alloc (.cells (madeCells #[.int .u8 0] n) 5) = w := ⟨_, rfl⟩
  have hz3 : w3.heap.size = gz + 1 := by rw [← hw3]; simp [hgz]
  obtain ⟨w4, hw4⟩ : ∃ w, w3.alloc (.cells #[.slice (some ⟨gz, 0, none⟩) 0 n] 37) = w := ⟨_, rfl⟩
  have b3 : Below w2.heap.size w2 w3 := by rw [← hw3]; exact (Below.refl _ _).alloc (Nat.le_refl _) _
  have b4 : Below w3.heap.size w3 w4 := by rw [← hw4]; exact (Below.refl _ _).alloc (Nat.le_refl _) _
  have t4 : Tb W.heap.size w4 (gz + 1) gz n [] := by
    refine ⟨?_, ?_⟩
    · have := heap_new' w3 (.cells #[.slice (some ⟨gz, 0, none⟩) 0 n] 37)
      rw [hw4, hz3] at this
      exact this
    · have h3 : w3.heap[gz]? = some (.cells (madeCells #[.int .u8 0] n) 5 (0, 0)) := by
        have := heap_new' w2 (.cells (madeCells #[.int .u8 0] n) 5)
        rwa [hw3, hgz] at this
      have h4 := below_block b4 h3
      refine ⟨by simp, .inr ⟨gz, n, _, rfl, ?_, h4, Nat.zero_le _, by unfold maxLen; omega, by simp [madeCells], by simp⟩⟩
      rw [← hgz]
      exact (Below.after B1.out B2'.out).size
  have B4 := Lib.hid (Below.after B2'.out (Below.after b3 b4))
  have c4 := PsC.cell (show PsC w4 W.heap.size B from below_block B4.out K1.out)
  have HI4 : Hid (IE n0 B most E W.heap.size W.heap.size W.heap.size (gz + 1) gz n W [] w4) := Lib.hid ⟨H.out.below (Below.after B1.out B4.out), below_block B4.out K1.out, t4, Below.after B1.out B4.out⟩
  have hgl : W.heap.size ≤ gz := by rw [← hgz]; exact (Below.after B1.out B2'.out).size
  have HGL := Lib.hid hgl
  have HPA : Hid (Calls Try.prog 42 #[.pointer (some ⟨B, 0, none⟩), .int .i64 id, .int .i64 frm, .int .i64 n, .func (.func 43) #[] #[.pointer (some ⟨gz + 1, 0, none⟩), .pointer (some ⟨W.heap.size, 0, none⟩)]] w4 fun e w' => e = .returned .nilIface ∧ IE n0 B most E W.heap.size W.heap.size W.heap.size (gz + 1) gz n W ([] ++ ((txt E id).drop frm).take n) w') := Lib.hid (by
    refine parts_any HWF.out hE 43 (fun _ _ => by kernel_rfl) _ _ (IE n0 B most E W.heap.size W.heap.size W.heap.size (gz + 1) gz n W) [] (fun acc w h => h.1) ?_ ?_ HI4.out hid HR.out
    · rintro acc w w' ⟨h1, h2, h3, h5⟩ hk
      exact ⟨h1.kps hk, hk.cells _ (by decide) _ _ _ h2, h3.grow (hk.cells _ (by decide)) (hk.cells _ (by decide)), h5.trans (hk.below.mono (Nat.le_trans (Below.after B1.out B4.out).size (Nat.le_refl _)))⟩
    · rintro acc w x m ⟨h1, h2, h3, h5⟩ hx0 hx hm hl
      refine (evisit_any h1 HWF.out hE h2 h3 hx0 hx hm (by simpa using hl)).mono ?_
      rintro e w' ⟨rfl, t1, b1⟩
      exact ⟨rfl, ⟨h1.b2 h3 b1, h3.keepT b1 (by decide) (by decide) _ _ _ h2, t1, b1.under h5 (by have := HGL.out; omega) HGL.out h5.size⟩, h3.keepT b1 (by decide) (by decide), b1.size⟩)
  clear t4 b3 b4 hgl
  go_wp2_with fail
  refine HPA.out.mono ?_
  rintro e w5 ⟨rfl, i1, i2, i3, i4⟩
  rw [List.nil_append, HT.out] at i3
  clear hw3 hw4 hz3 hgz c4 HPA
  have HI3 := Lib.hid i3; have HI4' := Lib.hid i4
  obtain ⟨c5, -⟩ := i3.cell
  clear i1 i2 i3 i4
  go_wp2_with fail
  exact bodyPost_ret (v := .tuple #[.slice (some ⟨gz, 0, none⟩) ((t.drop frm).take n).length n, .nilIface]) (by simp [results, Try.results19, go_sem]) rfl ⟨_, rfl, HI3.out.row, HI4'.out⟩
end M
end Go.Proofs.Ytjbllcakaljpgaa
namespace Go.Proofs.Ytjbllcakaljpgaa
open Go.RowKit Go.Lib
namespace M
attribute [local go_sem] Oper.semAt_some
/-- How many letters a Read takes. -/
def rdN (len k : Nat) (n : Int) : Nat := min (if n < 0 then 0 else if n > 65536 then 65536 else n).toNat (len - k)
theorem rdN_le (len k : Nat) (n : Int) : rdN len k n ≤ 65536 ∧ rdN len k n ≤ len - k := by
  unfold rdN
  refine ⟨Nat.le_trans (Nat.min_le_left _ _) ?_, Nat.min_le_right _ _⟩
  split
  · omega
  · split <;> omega
set_option maxRecDepth 100000 in
set_option maxHeartbeats 4000000 in
theorem read_any {n0 B most : Nat} {W : World} {E : List En} (hs : StAt n0 W B most E) (hwf : Wf E) (hE : E.length ≤ 1048576) {c id len k : Nat} (h : CuC W c B id len k) (hid : id ≤ E.length) (hlen : (txt E id).length = len) (hk : k ≤ len) (n : Int) :
    Calls Try.prog 21 #[.pointer (some ⟨c, 0, none⟩), .int .i64 n] W fun e w' => ∃ v, e = .returned v ∧ Bys W.heap.size w' v (((txt E id).drop k).take (rdN len k n)) ∧ CuC w' c B id len (k + rdN len k n) ∧ BC c W w' := by
  have HF : ∀ f, Fence.wide.fn f := fun _ => trivial
  have hlb := (hwf.len hid).2
  rw [hlen] at hlb
  have m0 : ∀ w, Below W.heap.size W w → w.cell? ⟨c, 0, none⟩ = some (.pointer (some ⟨B, 0, none⟩)) := fun w hw => (CuC.cells (below_block hw h)).1
  have m1 : ∀ w, Below W.heap.size W w → w.cell? ⟨c, 1, none⟩ = some (.int .i64 id) := fun w hw => (CuC.cells (below_block hw h)).2.1
  have m2 : ∀ w, Below W.heap.size W w → w.cell? ⟨c, 2, none⟩ = some (.int .i64 len) := fun w hw => (CuC.cells (below_block hw h)).2.2.1
  have m3 : ∀ w, Below W.heap.size W w → w.cell? ⟨c, 3, none⟩ = some (.int .i64 k) := fun w hw => (CuC.cells (below_block hw h)).2.2.2.1
  obtain ⟨hq1, hq2⟩ := rdN_le len k n
  obtain ⟨q, hq⟩ : ∃ q, rdN len k n = q := ⟨_, rfl⟩
  rw [hq] at hq1 hq2 ⊢
  have H := Lib.hid h
  have HEX : Hid (∀ w, Below W.heap.size W w → Calls Try.prog 19 #[.pointer (some ⟨B, 0, none⟩), .int .i64 id, .int .i64 k, .int .i64 q] w fun e w' => ∃ v, e = .returned (.tuple #[v, .nilIface]) ∧ Bys w.heap.size w' v (((txt E id).drop k).take q) ∧ Below w.heap.size w w') := Lib.hid (fun w hw => extract_any (hs.below hw) hwf hE hid (by rw [hlen]; omega) hq1)
  have hw1 : IntKind.i64.wrap ((len : Int) - (k : Int)) = (len : Int) - (k : Int) := by rw [IntKind.wrap_i64]; omega
  have hw2 : IntKind.i64.wrap ((k : Int) + (q : Int)) = ((k + q : Nat) : Int) := by rw [IntKind.wrap_i64]; omega
  have hwq : IntKind.i64.wrap (q : Int) = (q : Int) := by rw [IntKind.wrap_i64]; omega
  have HW2 := Lib.hid hw2
  have hmin : ∀ y : Int, y = (if n < 0 then 0 else if n > 65536 then 65536 else n) → 0 ≤ y ∧ ((¬ (len : Int) - (k : Int) < y ∧ y = (q : Int)) ∨ ((len : Int) - (k : Int) < y ∧ (len : Int) - (k : Int) = (q : Int))) := by
    intro y hy
    unfold rdN at hq
    rw [← hy] at hq
    have hy0 : 0 ≤ y := by
      rw [hy]
      split
      · omega
      · split <;> omega
    refine ⟨hy0, ?_⟩
    by_cases g : ¬ (len : Int) - (k : Int) < y
    · left; refine ⟨g, ?_⟩; rw [Nat.min_eq_left (by omega)] at hq; omega
    · right; refine ⟨by omega, ?_⟩; rw [Nat.min_eq_right (by omega)] at hq; omega
  obtain ⟨y, hy⟩ : ∃ y : Int, y = (if n < 0 then 0 else if n > 65536 then 65536 else n) := ⟨_, rfl⟩
  have hmin := hmin y hy
  have HY := Lib.hid hy.symm
  clear h hs hwf hq hlen hy hlb hw2
  obtain ⟨hy0, hmin⟩ := hmin
  rcases hmin with ⟨g1, g2⟩ | ⟨g1, g2⟩
  all_goals
    try have g3 : (q : Int) < y := by omega
    go_enter Try.func21, Try.ntmps21
    go_wp2_with fail
    refine wp_region_anyH (Below W.heap.size W) (by kernel_rfl) ?_
    obtain ⟨wa, hwa⟩ : ∃ w, W.drew = w := ⟨_, rfl⟩
    have S0 : Below W.heap.size W wa := by rw [← hwa]; exact (Below.refl _ _).drew
    rw [hwa]
    clear hwa
    refine AnyH.take (i := 0) (d := some 9) (v := ?_) (by kernel_rfl) rfl rfl HF (fun _ _ _ h => h) (.inl ⟨by rfl, ?_⟩) (by first | assumption | rfl) ?_
    rotate_left
    · intro w hS; try subst hS
      go_simp; try with_reducible rfl
    try simp only [Act.put, List.setIfInBounds_toArray, List.set_cons_zero, List.set_cons_succ]
    refine AnyH.take (i := 2) (d := some 11) (v := ?_) (by kernel_rfl) rfl rfl HF (fun _ _ _ h => h) (.inl ⟨by rfl, ?_⟩) (by first | assumption | rfl) ?_
    rotate_left
    · intro w hS; try subst hS
      go_simp; try with_reducible rfl
    try simp only [Act.put, List.setIfInBounds_toArray, List.set_cons_zero, List.set_cons_succ]
    refine AnyH.take (i := 3) (d := some 12) (v := ?_) (by kernel_rfl) rfl rfl HF (fun _ _ _ h => h) (.inl ⟨by rfl, ?_⟩) (by first | assumption | rfl) ?_
    rotate_left
    · intro w hS; try subst hS
      go_simp; try with_reducible rfl
    try simp only [Act.put, List.setIfInBounds_toArray, List.set_cons_zero, List.set_cons_succ]
    refine AnyH.take (i := 4) (d := some 13) (v := ?_) (by kernel_rfl) rfl rfl HF (fun _ _ _ h => h) (.inl ⟨by rfl, ?_⟩) (by first | assumption | rfl) ?_
    rotate_left
    · intro w hS; try subst hS
      go_simp; try with_reducible rfl
    try simp only [Act.put, List.setIfInBounds_toArray, List.set_cons_zero, List.set_cons_succ]
    refine AnyH.take (i := 5) (d := some 14) (v := ?_) (by kernel_rfl) rfl rfl HF (fun _ _ _ h => h) (.inl ⟨by rfl, ?_⟩) (by first | assumption | rfl) ?_
    rotate_left
    · intro w hS; try subst hS
      go_simp; try with_reducible rfl
    try simp only [Act.put, List.setIfInBounds_toArray, List.set_cons_zero, List.set_cons_succ]
    refine AnyH.take (i := 6) (d := some 15) (v := ?_) (by kernel_rfl) rfl rfl HF (fun _ _ _ h => h) (.inl ⟨by rfl, ?_⟩) (by first | assumption | rfl) ?_
    rotate_left
    · intro w hS; try subst hS
      go_simp; try with_reducible rfl
    try simp only [Act.put, List.setIfInBounds_toArray, List.set_cons_zero, List.set_cons_succ]
    refine AnyH.take (i := 7) (d := some 16) (v := ?_) (by kernel_rfl) rfl rfl HF (fun _ _ _ h => h) (.inl ⟨by rfl, ?_⟩) (by first | assumption | rfl) ?_
    rotate_left
    · intro w hS; try subst hS
      go_simp; try with_reducible rfl
    try simp only [Act.put, List.setIfInBounds_toArray, List.set_cons_zero, List.set_cons_succ]
    refine AnyH.take (i := 8) (d := some 17) (v := ?_) (by kernel_rfl) rfl rfl HF (fun _ _ _ h => h) (.inl ⟨by rfl, ?_⟩) (by first | assumption | rfl) ?_
    rotate_left
    · intro w hS; try subst hS
      go_simp; try with_reducible rfl
    try simp only [Act.put, List.setIfInBounds_toArray, List.set_cons_zero, List.set_cons_succ]
    refine AnyH.take (i := 9) (d := some 18) (v := ?_) (by kernel_rfl) rfl rfl HF (fun _ _ _ h => h) (.inl ⟨by rfl, ?_⟩) (by first | assumption | rfl) ?_
    rotate_left
    · intro w hS; try subst hS
      go_simp; try with_reducible rfl
    try simp only [Act.put, List.setIfInBounds_toArray, List.set_cons_zero, List.set_cons_succ]
    refine AnyH.take (i := 10) (d := some 19) (v := ?_) (by kernel_rfl) rfl rfl HF (fun _ _ _ h => h) (.inl ⟨by rfl, ?_⟩) (by first | assumption | rfl) ?_
    rotate_left
    · intro w hS; try subst hS
      go_simp; try with_reducible rfl
    try simp only [Act.put, List.setIfInBounds_toArray, List.set_cons_zero, List.set_cons_succ]
    refine AnyH.one (i := 1) (by kernel_rfl) (by kernel_rfl) rfl HF (by rfl) (fun K hK => ?_)
    go_simp
    first | ((with_reducible refine And.intro ?hdep ?_); (case hdep => first | rfl | (intro h; cases h))) | skip
    refine callsIn_wide.2 ((clip_any wa n 0 65536).mono ?_)
    rintro e w ⟨rfl, h⟩; rw [h]; clear h w
    have hy : (if n < 0 then (0 : Int) else if n > 65536 then 65536 else n) = y := HY.out
    rw [hy]
    clear hy
    refine hK _ _ S0 ?_
    clear hK K
    try simp only [Act.put, List.setIfInBounds_toArray, List.set_cons_zero, List.set_cons_succ]
    refine AnyH.take (i := 11) (d := some 20) (v := ?_) (by kernel_rfl) rfl rfl HF (fun _ _ _ h => h) (.inl ⟨by rfl, ?_⟩) (by first | assumption | rfl) ?_
    rotate_left
    · intro w hS; try subst hS
      go_simp; try with_reducible rfl
    try simp only [Act.put, List.setIfInBounds_toArray, List.set_cons_zero, List.set_cons_succ]
    refine AnyH.take (i := 12) (d := some 1) (v := ?_) (by kernel_rfl) rfl rfl HF (fun _ _ _ h => h) (.inl ⟨by rfl, ?_⟩) (by first | assumption | rfl) ?_
    rotate_left
    · intro w hS; try subst hS
      go_simp; try with_reducible rfl
    try simp only [Act.put, List.setIfInBounds_toArray, List.set_cons_zero, List.set_cons_succ]
    refine AnyH.done (by kernel_rfl) ?_
    try rw [g2]
    clear g1 g2
    try clear g3
    go_wp2_with fail
    refine wp_region_anyH (Below W.heap.size W) (by kernel_rfl) ?_
    obtain ⟨wb, hwb⟩ : ∃ w, wa.drew = w := ⟨_, rfl⟩
    have S1 : Below W.heap.size W wb := by rw [← hwb]; exact S0.drew
    rw [hwb]
    clear hwb S0
    refine AnyH.take (i := 0) (d := some 22) (v := ?_) (by kernel_rfl) rfl rfl HF (fun _ _ _ h => h) (.inl ⟨by rfl, ?_⟩) (by first | assumption | rfl) ?_
    rotate_left
    · intro w hS; try subst hS
      go_simp; try with_reducible rfl
    try simp only [Act.put, List.setIfInBounds_toArray, List.set_cons_zero, List.set_cons_succ]
    refine AnyH.take (i := 1) (d := some 23) (v := ?_) (by kernel_rfl) rfl rfl HF (fun _ _ _ h => h) (.inl ⟨by rfl, ?_⟩) (by first | assumption | rfl) ?_
    rotate_left
    · intro w hS; try subst hS
      go_simp; try with_reducible rfl
    try simp only [Act.put, List.setIfInBounds_toArray, List.set_cons_zero, List.set_cons_succ]
    refine AnyH.take (i := 2) (d := some 24) (v := ?_) (by kernel_rfl) rfl rfl HF (fun _ _ _ h => h) (.inl ⟨by rfl, ?_⟩) (by first | assumption | rfl) ?_
    rotate_left
    · intro w hS; try subst hS
      go_simp; try with_reducible rfl
    try simp only [Act.put, List.setIfInBounds_toArray, List.set_cons_zero, List.set_cons_succ]
    refine AnyH.take (i := 3) (d := some 25) (v := ?_) (by kernel_rfl) rfl rfl HF (fun _ _ _ h => h) (.inl ⟨by rfl, ?_⟩) (by first | assumption | rfl) ?_
    rotate_left
    · intro w hS; try subst hS
      go_simp; try with_reducible rfl
    try simp only [Act.put, List.setIfInBounds_toArray, List.set_cons_zero, List.set_cons_succ]
    refine AnyH.take (i := 4) (d := some 26) (v := ?_) (by kernel_rfl) rfl rfl HF (fun _ _ _ h => h) (.inl ⟨by rfl, ?_⟩) (by first | assumption | rfl) ?_
    rotate_left
    · intro w hS; try subst hS
      go_simp; try with_reducible rfl
    try simp only [Act.put, List.setIfInBounds_toArray, List.set_cons_zero, List.set_cons_succ]
    refine AnyH.take (i := 5) (d := some 27) (v := ?_) (by kernel_rfl) rfl rfl HF (fun _ _ _ h => h) (.inl ⟨by rfl, ?_⟩) (by first | assumption | rfl) ?_
    rotate_left
    · intro w hS; try subst hS
      go_simp; try with_reducible rfl
    try simp only [Act.put, List.setIfInBounds_toArray, List.set_cons_zero, List.set_cons_succ]
    refine AnyH.take (i := 6) (d := some 28) (v := ?_) (by kernel_rfl) rfl rfl HF (fun _ _ _ h => h) (.inl ⟨by rfl, ?_⟩) (by first | assumption | rfl) ?_
    rotate_left
    · intro w hS; try subst hS
      go_simp; try with_reducible rfl
    try simp only [Act.put, List.setIfInBounds_toArray, List.set_cons_zero, List.set_cons_succ]
    refine AnyH.take (i := 7) (d := some 29) (v := ?_) (by kernel_rfl) rfl rfl HF (fun _ _ _ h => h) (.inl ⟨by rfl, ?_⟩) (by first | assumption | rfl) ?_
    rotate_left
    · intro w hS; try subst hS
      go_simp; try with_reducible rfl
    try simp only [Act.put, List.setIfInBounds_toArray, List.set_cons_zero, List.set_cons_succ]
    refine AnyH.take (i := 8) (d := some 30) (v := ?_) (by kernel_rfl) rfl rfl HF (fun _ _ _ h => h) (.inl ⟨by rfl, ?_⟩) (by first | assumption | rfl) ?_
    rotate_left
    · intro w hS; try subst hS
      go_simp; try with_reducible rfl
    try simp only [Act.put, List.setIfInBounds_toArray, List.set_cons_zero, List.set_cons_succ]
    refine AnyH.take (i := 9) (d := some 31) (v := ?_) (by kernel_rfl) rfl rfl HF (fun _ _ _ h => h) (.inl ⟨by rfl, ?_⟩) (by first | assumption | rfl) ?_
    rotate_left
    · intro w hS; try subst hS
      go_simp; try with_reducible rfl
    try simp only [Act.put, List.setIfInBounds_toArray, List.set_cons_zero, List.set_cons_succ]
    refine AnyH.take (i := 10) (d := some 32) (v := ?_) (by kernel_rfl) rfl rfl HF (fun _ _ _ h => h) (.inl ⟨by rfl, ?_⟩) (by first | assumption | rfl) ?_
    rotate_left
    · intro w hS; try subst hS
      go_simp; try with_reducible rfl
    try simp only [Act.put, List.setIfInBounds_toArray, List.set_cons_zero, List.set_cons_succ]
    refine AnyH.take (i := 11) (d := some 33) (v := ?_) (by kernel_rfl) rfl rfl HF (fun _ _ _ h => h) (.inl ⟨by rfl, ?_⟩) (by first | assumption | rfl) ?_
    rotate_left
    · intro w hS; try subst hS
      go_simp; try with_reducible rfl
    try simp only [Act.put, List.setIfInBounds_toArray, List.set_cons_zero, List.set_cons_succ]
    refine AnyH.take (i := 12) (d := some 34) (v := ?_) (by kernel_rfl) rfl rfl HF (fun _ _ _ h => h) (.inl ⟨by rfl, ?_⟩) (by first | assumption | rfl) ?_
    rotate_left
    · intro w hS; try subst hS
      go_simp; try with_reducible rfl
    try simp only [Act.put, List.setIfInBounds_toArray, List.set_cons_zero, List.set_cons_succ]
    refine AnyH.one (i := 13) (by kernel_rfl) (by kernel_rfl) rfl HF (by rfl) (fun K hK => ?_)
    go_simp
    first | ((with_reducible refine And.intro ?hdep ?_); (case hdep => first | rfl | (intro h; cases h))) | skip
    refine callsIn_wide.2 ((HEX.out wb S1).mono ?_)
    rintro e w4 ⟨v, rfl, y4, b4⟩
    have S4 : Below W.heap.size W w4 := Below.after S1 b4
    have HY4 : Hid (Bys W.heap.size w4 v (((txt E id).drop k).take q)) := Lib.hid (SlA.mono y4 S1.size)
    clear b4 y4
    refine hK _ _ S4 ?_
    clear hK K
    try simp only [Act.put, List.setIfInBounds_toArray, List.set_cons_zero, List.set_cons_succ]
    refine AnyH.take (i := 14) (d := some 21) (v := ?_) (by kernel_rfl) rfl rfl HF (fun _ _ _ h => h) (.inl ⟨by rfl, ?_⟩) (by first | assumption | rfl) ?_
    rotate_left
    · intro w hS; try subst hS
      go_simp; try with_reducible rfl
    try simp only [Act.put, List.setIfInBounds_toArray, List.set_cons_zero, List.set_cons_succ]
    refine AnyH.take (i := 15) (d := some 36) (v := ?_) (by kernel_rfl) rfl rfl HF (fun _ _ _ h => h) (.inl ⟨by rfl, ?_⟩) (by first | assumption | rfl) ?_
    rotate_left
    · intro w hS; try subst hS
      go_simp; try with_reducible rfl
    try simp only [Act.put, List.setIfInBounds_toArray, List.set_cons_zero, List.set_cons_succ]
    refine AnyH.take (i := 16) (d := some 37) (v := ?_) (by kernel_rfl) rfl rfl HF (fun _ _ _ h => h) (.inl ⟨by rfl, ?_⟩) (by first | assumption | rfl) ?_
    rotate_left
    · intro w hS; try subst hS
      go_simp; try with_reducible rfl
    try simp only [Act.put, List.setIfInBounds_toArray, List.set_cons_zero, List.set_cons_succ]
    refine AnyH.take (i := 17) (d := some 5) (v := ?_) (by kernel_rfl) rfl rfl HF (fun _ _ _ h => h) (.inl ⟨by rfl, ?_⟩) (by first | assumption | rfl) ?_
    rotate_left
    · intro w hS; try subst hS
      go_simp; try with_reducible rfl
    try simp only [Act.put, List.setIfInBounds_toArray, List.set_cons_zero, List.set_cons_succ]
    refine AnyH.take (i := 18) (d := some 6) (v := ?_) (by kernel_rfl) rfl rfl HF (fun _ _ _ h => h) (.inl ⟨by rfl, ?_⟩) (by first | assumption | rfl) ?_
    rotate_left
    · intro w hS; try subst hS
      go_simp; try with_reducible rfl
    try simp only [Act.put, List.setIfInBounds_toArray, List.set_cons_zero, List.set_cons_succ]
    refine AnyH.done (by kernel_rfl) ?_
    have k4 : CuC w4 c B id len k := below_block S4 H.out
    obtain ⟨-, -, -, c3, f3⟩ := k4.cells
    have HB4 := Lib.hid S4; have K4 := Lib.hid k4
    have hw2 := HW2.out
    clear m0 m1 m2 m3 S1 S4 k4
    go_wp2_with fail
    go_ret
    exact ⟨_, rfl, SlA.setCell HY4.out (a := ⟨c, 3, none⟩) _ K4.out (by decide), CuC.move K4.out (k + q), (BC.of HB4.out).set (p := ⟨c, 3, none⟩) (.inr rfl) _⟩
end M
end Go.Proofs.Ytjbllcakaljpgaa
