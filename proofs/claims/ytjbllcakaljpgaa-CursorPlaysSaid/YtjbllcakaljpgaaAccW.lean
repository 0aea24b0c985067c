/- access.Weight: the weight of a range. -/
import Derived.Test.YtjbllcakaljpgaaParts0
import Derived.Test.YtjbllcakaljpgaaAccJoin
import Derived.Test.YtjbllcakaljpgaaWRep
namespace Go.Proofs.Ytjbllcakaljpgaa
open Go.RowKit Go.Lib
namespace M
attribute [local go_sem] Oper.semAt_some
/-- A range that has nothing, or lies in its text. -/
def Ok1 (E : List En) (s : Sp) : Prop := s.n = 0 ∨ OkS E s
def bnd (C : Nat) (L : List Sp) : Prop := ∀ (k : Nat) (s : Sp), L[k]? = some s → k + 1 + 2 * s.id ≤ C
theorem bnd.pop {C : Nat} {L : List Sp} {s : Sp} (h : bnd C (L ++ [s])) : bnd C L := fun k x hx => h k x (by rw [List.getElem?_append_left (List.getElem?_eq_some_iff.1 hx).1]; exact hx)
theorem bnd.push {C : Nat} {L M : List Sp} {s : Sp} (h : bnd C (L ++ [s])) (hM : ∀ x ∈ M, x.id < s.id) (hl : M.length ≤ 3) : bnd C (L ++ M) := fun k x hx => by
  by_cases hk : k < L.length
  · rw [List.getElem?_append_left hk] at hx
    exact h.pop k x hx
  · rw [List.getElem?_append_right (by omega)] at hx
    have h1 := h L.length s (by rw [List.getElem?_append_right (Nat.le_refl _)]; simp)
    have h2 := hM x (List.mem_of_getElem? hx)
    have h3 := (List.getElem?_eq_some_iff.1 hx).1
    omega
theorem bnd.len {C : Nat} {L : List Sp} (h : bnd C L) : L.length ≤ C := by
  rcases List.eq_nil_or_concat L with rfl | ⟨L', s, rfl⟩
  · simp
  · have := h L'.length s (by rw [List.concat_eq_append, List.getElem?_append_right (Nat.le_refl _)]; simp)
    rw [List.concat_eq_append, List.length_append, List.length_singleton]; omega
theorem denS_none {E : List En} {s : Sp} (h : s.n = 0 ∨ s.times = 0) : denS E s = [] := by
  unfold denS
  rcases h with h | h
  · rw [h, List.take_zero]
    simp [rep]
  · rw [h]; rfl
theorem denS_whole {E : List En} {s : Sp} (h : OkS E s) (hn : s.n = (txt E s.id).length) : denS E s = rep s.times (txt E s.id) := by
  unfold denS
  have h0 : s.frm = 0 := by have := h.rng; omega
  rw [h0, List.drop_zero, List.take_of_length_le (by omega)]
theorem den_append (E : List En) (L M : List Sp) : den E (L ++ M) = den E M ++ den E L := by
  induction L with
  | nil => show den E M = den E M ++ []; rw [List.append_nil]
  | cons a L ih => show den E (L ++ M) ++ denS E a = den E M ++ (den E L ++ denS E a); rw [ih, List.append_assoc]
/-- What holds ahead of each round. -/
def Parting (W : World) (E : List En) (I : List Nat → World → Prop) (tot : List Nat) (k : Nat) (tv : Value) (wr : World) : Prop :=
  ∃ (L : List Sp) (acc : List Nat), mu L = k ∧ Sps W.heap.size wr tv L ∧ I acc wr ∧ (∀ s ∈ L, Ok1 E s) ∧ bnd (3 + 2 * E.length) L ∧ acc ++ den E L = tot ∧ W.heap.size ≤ wr.heap.size
set_option maxRecDepth 100000 in
set_option maxHeartbeats 8000000 in
theorem parts_any {n0 B most : Nat} {E : List En} (hwf : Wf E) (hE : E.length ≤ 1048576) (F : FuncId) (hcf : ∀ (args : Array Value) (w : World), (callFunc F args).run Try.prog w = .ok (.enter F args) w) (c1 c2 : Value) (I : List Nat → World → Prop) {W : World} {id frm n : Nat} (acc0 : List Nat)
    (hSt : ∀ acc w, I acc w → StAt n0 w B most E) (hIk : ∀ acc w w', I acc w → KpS W.heap.size w w' → I acc w')
    (hV : ∀ acc w x m, I acc w → 0 < x → x ≤ E.length → 0 < m → acc.length + m * (txt E x).length ≤ acc0.length + n → Calls Try.prog F #[.int .i64 (x : Nat), .int .i64 (m : Nat), c1, c2] w fun e w' => e = .returned .nilIface ∧ I (acc ++ rep m (txt E x)) w' ∧ KeepT 135 w w' ∧ w.heap.size ≤ w'.heap.size)
    (hI : I acc0 W) (hid : id ≤ E.length) (hr : frm + n ≤ (txt E id).length) :
    Calls Try.prog 42 #[.pointer (some ⟨B, 0, none⟩), .int .i64 id, .int .i64 frm, .int .i64 n, .func (.func F) #[] #[c1, c2]] W fun e w' => e = .returned .nilIface ∧ I (acc0 ++ ((txt E id).drop frm).take n) w' := by
  have HF : ∀ f, Fence.wide.fn f := fun _ => trivial
  have HWF := Lib.hid hwf; have HST := Lib.hid hSt; have HIK := Lib.hid hIk; have HV := Lib.hid hV
  obtain ⟨tot, htot⟩ : ∃ t, acc0 ++ ((txt E id).drop frm).take n = t := ⟨_, rfl⟩
  have htl : tot.length = acc0.length + n := by rw [← htot, List.length_append, List.length_take, List.length_drop]; omega
  have hlen := (hwf.len hid).2
  rw [htot]
  obtain ⟨W1, hW1⟩ : ∃ w, W.alloc (.cells #[.int .i64 id, .int .i64 frm, .int .i64 n, .int .i64 1] 135) = w := ⟨_, rfl⟩
  have l1 : Sps W.heap.size W1 (.slice (some ⟨W.heap.size, 0, none⟩) 1 1) [⟨id, frm, n, 1⟩] := by rw [← hW1]; exact SlA.lit (l := [⟨id, frm, n, 1⟩]) encSp_len rfl (by simp; unfold maxLen; omega)
  have b1 : Below W.heap.size W W1 := by rw [← hW1]; exact (Below.refl _ _).alloc (Nat.le_refl _) _
  have HP : Hid (Parting W E I tot (mu [⟨id, frm, n, 1⟩]) (.slice (some ⟨W.heap.size, 0, none⟩) 1 1) W1) := Lib.hid ⟨[⟨id, frm, n, 1⟩], acc0, rfl, l1, hIk _ _ _ hI (KpS.of b1 (Nat.le_refl _)), by
    intro s hs
    simp only [List.mem_singleton] at hs
    subst hs
    rcases Nat.eq_zero_or_pos n with h0 | h0
    · exact .inl h0
    · refine .inr ⟨?_, hid, hr, fun _ => Nat.le_refl _⟩
      rcases Nat.eq_zero_or_pos id with h1 | h1
      · subst h1; rw [txt_zero] at hr; simp at hr; omega
      · exact h1, by
    intro k s hs
    cases k with
    | zero => simp at hs; subst hs; dsimp only; omega
    | succ k => simp at hs, by rw [← htot]; show acc0 ++ ([] ++ denS E ⟨id, frm, n, 1⟩) = _; unfold denS; rw [rep_one, List.nil_append], b1.size⟩
  have HTL := Lib.hid htl
  clear hwf hSt hIk hV htot l1 b1 hI htl hr hid hlen
  go_enter Try.func42, Try.ntmps42
  go_wp2_with fail
  clear hW1
  go_loopg [11] (mu [⟨id, frm, n, 1⟩]) (fun k tv wr => Parting W E I tot k tv wr)
  case atStart => exact HP.out
  case round =>
    clear HP
    obtain ⟨L, acc, hk, hS, hI, hOk, hBd, hDen, hsz⟩ := hrel
    rcases List.eq_nil_or_concat L with rfl | ⟨L', s, rfl⟩
    · obtain ⟨ta, tc, rfl⟩ := hS.len
      have hD : acc = tot := by rw [← hDen]; simp [den]
      have HI := Lib.hid hI
      rw [hD] at HI
      clear hk hS hI hOk hBd hDen hsz hD
      go_wp2_with fail
      go_ret
      exact ⟨rfl, HI.out⟩
    · rw [List.concat_eq_append] at hk hS hOk hBd hDen
      obtain ⟨ta, tc, rfl⟩ := hS.len
      rw [List.length_append, List.length_singleton] at hS ⊢
      obtain ⟨j, hj⟩ : ∃ j, L'.length = j := ⟨_, rfl⟩
      rw [hj] at hS ⊢
      have hjb : j ≤ 4000000 := by have := hBd.len; rw [List.length_append, List.length_singleton] at this; omega
      have hsh := hS.shape
      rw [List.length_append, List.length_singleton, hj] at hsh
      obtain ⟨g, rfl, hjc⟩ : ∃ g, ta = some ⟨g, 0, none⟩ ∧ j + 1 ≤ tc := by
        rcases hsh with ⟨-, h⟩ | ⟨g, cap, h, h1, h2⟩
        · simp at h
        · simp only [Value.slice.injEq] at h
          obtain ⟨rfl, -, rfl⟩ := h
          exact ⟨g, rfl, h1⟩
      have hjn : j < (L' ++ [s]).length := by simp [hj]
      have hsj : (L' ++ [s])[j] = s := by simp [← hj]
      have q0 := SlA.cell encSp_len hS hjn (j := 0) (by omega)
      have q1 := SlA.cell encSp_len hS hjn (j := 1) (by omega)
      have q2 := SlA.cell encSp_len hS hjn (j := 2) (by omega)
      have q3 := SlA.cell encSp_len hS hjn (j := 3) (by omega)
      rw [hsj] at q0 q1 q2 q3
      replace q0 : wr.cell? ⟨g, j * 4, none⟩ = some (.int .i64 s.id) := q0
      replace q1 : wr.cell? ⟨g, j * 4 + 1, none⟩ = some (.int .i64 s.frm) := q1
      replace q2 : wr.cell? ⟨g, j * 4 + 2, none⟩ = some (.int .i64 s.n) := q2
      replace q3 : wr.cell? ⟨g, j * 4 + 3, none⟩ = some (.int .i64 s.times) := q3
      have HS := Lib.hid (SlA.pop encSp_len hS hj)
      have HOK := Lib.hid hOk; have HBD := Lib.hid hBd; have HSZ := Lib.hid hsz; have HJ := Lib.hid hj
      have HOS := Lib.hid (hOk s (by simp))
      have hk2 : mu L' + 4 ^ s.id = mu (L' ++ [s]) := by rw [mu_append]; rfl
      have HMU := Lib.hid (hk2.trans hk)
      clear hk2
      rw [den_snoc] at hDen
      have HDEN := Lib.hid hDen
      obtain ⟨wz, w1, hz1, hs1, kt, b1, ⟨p0, p1, p2, p3⟩, f0, f1, f2, f3⟩ := newSp wr s
      obtain ⟨x0, x1, x2, x3⟩ := kt.cells
      have HI1 := Lib.hid (HIK.out _ _ _ hI (KpS.of b1 hsz))
      have B1 := Lib.hid b1; have KT := Lib.hid kt
      have hj1 : (j : Int) < ((j + 1 : Nat) : Int) := by omega
      have hj2 : (j : Int) ≤ (tc : Int) := by omega
      have hj3 : j ≤ tc := by omega
      have hj4 : IntKind.i64.wrap (((j + 1 : Nat) : Int) - 1) = (j : Int) := by rw [IntKind.wrap_i64]; omega
      clear hk hS hI hOk hBd hDen hsz hsh hjn hsj hj b1 kt
      have HS1 := Lib.hid (SlA.below HS.out B1.out)
      by_cases hn0 : s.n = 0
      · have HSK : Hid (s.n = 0 ∨ s.times = 0) := Lib.hid (.inl hn0)
        have hnb : ((s.n : Int) == 0) = true := by simp [hn0]
        clear hn0
        go_wp2_with fail
        go_roundg (mu L')
        case measure => have := HMU.out; have : 0 < 4 ^ s.id := Nat.pow_pos (by omega); omega
        case rel => exact ⟨L', acc, rfl, HS1.out, HI1.out, fun x hx => HOK.out x (List.mem_append_left _ hx), HBD.out.pop, by have h := HDEN.out; rw [denS_none HSK.out, List.nil_append] at h; exact h, Nat.le_trans HSZ.out B1.out.size⟩
      · have hnb : ((s.n : Int) == 0) = false := by simp [hn0]
        by_cases ht0 : s.times = 0
        · have HSK : Hid (s.n = 0 ∨ s.times = 0) := Lib.hid (.inr ht0)
          have htb : ((s.times : Int) == 0) = true := by simp [ht0]
          clear hn0 ht0
          go_wp2_with fail
          go_roundg (mu L')
          case measure => have := HMU.out; have : 0 < 4 ^ s.id := Nat.pow_pos (by omega); omega
          case rel => exact ⟨L', acc, rfl, HS1.out, HI1.out, fun x hx => HOK.out x (List.mem_append_left _ hx), HBD.out.pop, by have h := HDEN.out; rw [denS_none HSK.out, List.nil_append] at h; exact h, Nat.le_trans HSZ.out B1.out.size⟩
        · have htb : ((s.times : Int) == 0) = false := by simp [ht0]
          obtain ⟨hsp, hsl, hsr, hs1'⟩ : OkS E s := by
            rcases HOS.out with h | h
            · exact absurd h hn0
            · exact h
          have HOKS : Hid (OkS E s) := Lib.hid ⟨hsp, hsl, hsr, hs1'⟩
          obtain ⟨hw, hlen⟩ := HWF.out.len hsl
          have HW : Hid (∀ w, Below w1.heap.size w1 w → Calls Try.prog 30 #[.pointer (some ⟨B, 0, none⟩), .int .i64 s.id] w fun e w' => e = .returned (.tuple #[wtV (wt (txt E s.id)), .nilIface]) ∧ Below w.heap.size w w') := Lib.hid (fun w hw' => by
            have := weight_any ((HST.out _ _ HI1.out).below hw') hsl hE
            rwa [hw] at this)
          obtain ⟨u, hu⟩ : ∃ u, wt (txt E s.id) = u := ⟨_, rfl⟩
          have hul : u.len = (txt E s.id).length := by rw [← hu]; rfl
          rw [hu] at HW
          unfold wtV at HW
          have HUL := Lib.hid hul; have HN0 := Lib.hid hn0; have HT0 := Lib.hid ht0
          have hnu : s.n ≤ u.len := by omega
          rw [← hul] at hlen
          clear hw hu hul hsp hsr hs1' ht0 hn0
          by_cases hwh : s.n = u.len
          · have hwb : ((s.n : Int) == (u.len : Int)) = true := by simp [hwh]
            have HDW : Hid (denS E s = rep s.times (txt E s.id)) := Lib.hid (denS_whole HOKS.out (by rw [hwh]; exact HUL.out))
            have HVS : Hid (∀ w, I acc w → Calls Try.prog F #[.int .i64 (s.id : Nat), .int .i64 (s.times : Nat), c1, c2] w fun e w' => e = .returned .nilIface ∧ I (acc ++ rep s.times (txt E s.id)) w' ∧ KeepT 135 w w' ∧ w.heap.size ≤ w'.heap.size) := Lib.hid (fun w hI => HV.out acc w s.id s.times hI HOKS.out.pos HOKS.out.le (by have := HT0.out; omega) (by
              have h1 := congrArg List.length HDEN.out
              rw [HDW.out, List.length_append, List.length_append, rep_length, HTL.out] at h1
              omega))
            clear hwh
            go_wp2_with fail
            refine (HW.out w1 (Below.refl _ _)).mono ?_; rintro e w2 ⟨rfl, b2⟩
            obtain ⟨wz2, w3, hz2, hs2, kw, bw, ⟨r0, r1, r2, r3, r4, r5⟩, e0, e1, e2, e3, e4, e5⟩ := newWt w2 u
            obtain ⟨y0, y1, y2, y3, y4, y5⟩ := kw.cells
            have b3 := Below.after b2 bw
            obtain ⟨z0, z1, z2, z3⟩ := SpC.cells (below_block b3 KT.out)
            have HI3 := Lib.hid (HIK.out _ _ _ HI1.out (KpS.of b3 (Nat.le_trans HSZ.out B1.out.size)))
            have HS3 := Lib.hid (SlA.below HS1.out b3)
            have HZ3 : Hid (W.heap.size ≤ w3.heap.size) := Lib.hid (Nat.le_trans (Nat.le_trans HSZ.out B1.out.size) b3.size)
            clear kw bw b2 b3
            go_wp2_with fail
            refine (HVS.out w3 HI3.out).mono ?_
            rintro e w4 ⟨rfl, i4, k4, g4⟩
            have HI4 := Lib.hid i4
            have HS4 := Lib.hid (SlA.keep HS3.out k4)
            have HZ4 : Hid (W.heap.size ≤ w4.heap.size) := Lib.hid (Nat.le_trans HZ3.out g4)
            clear i4 k4 g4 hz1 hs1 hz2 hs2 p0 p1 p2 p3 f0 f1 f2 f3 x0 x1 x2 x3 r0 r1 r2 r3 r4 r5 e0 e1 e2 e3 e4 e5 y0 y1 y2 y3 y4 y5 z0 z1 z2 z3 q0 q1 q2 q3
            go_wp2_with fail
            go_roundg (mu L')
            case measure => have := HMU.out; have : 0 < 4 ^ s.id := Nat.pow_pos (by omega); omega
            case rel => exact ⟨L', acc ++ rep s.times (txt E s.id), rfl, HS4.out, HI4.out, fun x hx => HOK.out x (List.mem_append_left _ hx), HBD.out.pop, by have h := HDEN.out; rw [HDW.out] at h; rw [List.append_assoc]; exact h, HZ4.out⟩
          · have hwb : ((s.n : Int) == (u.len : Int)) = false := by simp; omega
            have hlt : s.n < (txt E s.id).length := by have := HUL.out; omega
            have HRL := Lib.hid (HWF.out.rule s.id HOKS.out.pos HOKS.out.le).cases
            have HSO := Lib.hid (splitS_ok HWF.out HOKS.out (by have := HN0.out; omega) (by have := HT0.out; omega) hlt)
            have HRU : Hid (∀ w, Below w1.heap.size w1 w → Calls Try.prog 60 #[.pointer (some ⟨B, 0, none⟩), .int .i64 s.id] w fun e w' => e = .returned (.tuple #[ruV (entAt E s.id).ru, .nilIface]) ∧ Below w.heap.size w w') := Lib.hid (fun w hw' => rule_any ((HST.out _ _ HI1.out).below hw') HOKS.out.pos hsl hE)
            obtain ⟨r, hr⟩ : ∃ r, (entAt E s.id).ru = r := ⟨_, rfl⟩
            rw [hr] at HRU HSO HRL
            unfold ruV at HRU
            have hk : r.kind = 2 ∨ r.kind = 3 := by
              rcases HRL.out with ⟨-, -, -, -, -, g⟩ | ⟨a, -⟩ | ⟨a, -⟩
              · rw [g] at hlt; have := HN0.out; simp at hlt; omega
              · exact .inl a
              · exact .inr a
            have hll : 0 < r.left ∧ r.left < s.id := by
              rcases HRL.out with ⟨-, -, -, -, -, g⟩ | ⟨-, -, c, d, -⟩ | ⟨-, -, c, d, -⟩
              · rw [g] at hlt; have := HN0.out; simp at hlt; omega
              · exact ⟨c, d⟩
              · exact ⟨c, d⟩
            obtain ⟨hw2, hlen2⟩ := HWF.out.len (show r.left ≤ E.length by omega)
            have hpos : 0 < (txt E r.left).length := (HWF.out.get r.left hll.1 (by omega)).2.2.1
            have HWL : Hid (∀ w, Below w1.heap.size w1 w → Calls Try.prog 30 #[.pointer (some ⟨B, 0, none⟩), .int .i64 r.left] w fun e w' => e = .returned (.tuple #[wtV (wt (txt E r.left)), .nilIface]) ∧ Below w.heap.size w w') := Lib.hid (fun w hw => by
              have := weight_any ((HST.out _ _ HI1.out).below hw) (i := r.left) (by omega) hE
              rwa [hw2] at this)
            have HHD : Hid (r.kind = 3 → (txt E r.left).length < s.frm % (txt E r.left).length + s.n → ((txt E r.left).length - s.frm % (txt E r.left).length) % (txt E r.left).length ≤ s.n) := Lib.hid (fun h3 h4 => by
              rcases HRL.out with ⟨a, -⟩ | ⟨a, -⟩ | ⟨a, -, -, -, -, -, -, g⟩
              · omega
              · omega
              · have hR := HOKS.out.rng
                rw [g, rep_length] at hR
                exact (rep_out _ _ _ _ hpos hR h4).2)
            obtain ⟨ul, hul2⟩ : ∃ u, wt (txt E r.left) = u := ⟨_, rfl⟩
            have hull : ul.len = (txt E r.left).length := by rw [← hul2]; rfl
            rw [hul2] at HWL
            unfold wtV at HWL
            rw [← hull] at HSO HHD hpos hlen2
            have hfb : s.frm ≤ 1152921504606846976 := by have := HOKS.out.rng; have := HUL.out; omega
            have hnb2 : s.n ≤ 1152921504606846976 := by omega
            clear hwh hr hw2 hul2 hull hlt hll
            go_wp2_with fail
            refine (HW.out w1 (Below.refl _ _)).mono ?_; rintro e w2 ⟨rfl, b2⟩
            obtain ⟨wz2, w3, hz2, hs2, kw, bw, ⟨r0, r1, r2, r3, r4, r5⟩, e0, e1, e2, e3, e4, e5⟩ := newWt w2 u
            obtain ⟨y0, y1, y2, y3, y4, y5⟩ := kw.cells
            have b3 := Below.after b2 bw
            obtain ⟨z0, z1, z2, z3⟩ := SpC.cells (below_block b3 KT.out)
            have HB3 := Lib.hid b3
            clear kw bw b2 b3
            go_wp2_with fail
            refine (HRU.out w3 HB3.out).mono ?_; rintro e w4 ⟨rfl, b4⟩
            clear hz2 hs2 r0 r1 r2 r3 r4 r5 e0 e1 e2 e3 e4 e5 y0 y1 y2 y3 y4 y5 z0 z1 z2 z3
            obtain ⟨wz5, w5, hz5, hs5, kr, br, ⟨r0, r1, r2, r3, r4⟩, e0, e1, e2, e3, e4⟩ := newRu w4 r
            obtain ⟨y0, y1, y2, y3, y4⟩ := kr.cells
            have HB5 := Lib.hid (Below.after HB3.out (Below.after b4 br)); have KR := Lib.hid kr
            clear kr br b4
            go_wp2_with fail
            refine (HWL.out w5 HB5.out).mono ?_; rintro e w6 ⟨rfl, b6⟩
            clear hz5 hs5 r0 r1 r2 r3 r4 e0 e1 e2 e3 e4 y0 y1 y2 y3 y4
            obtain ⟨wz7, w7, hz6, hs6, kw, bw, ⟨o0, o1, o2, o3, o4, o5⟩, i0, i1, i2, i3, i4, i5⟩ := newWt w6 ul
            obtain ⟨m0, m1, m2, m3, m4, m5⟩ := kw.cells
            have b7 := Below.after b6 bw
            obtain ⟨l0, l1, l2, l3, l4⟩ := RuC.cells (below_block b7 KR.out)
            obtain ⟨t0, t1, t2, t3⟩ := SpC.cells (below_block (Below.after HB5.out b7) KT.out)
            have HB7 := Lib.hid (Below.after HB5.out b7)
            have HS7 := Lib.hid (SlA.below HS1.out HB7.out)
            have HZ7 : Hid (W.heap.size ≤ w7.heap.size) := Lib.hid (Nat.le_trans (Nat.le_trans HSZ.out B1.out.size) HB7.out.size)
            have HI7 := Lib.hid (HIK.out _ _ _ HI1.out (KpS.of HB7.out (Nat.le_trans HSZ.out B1.out.size)))
            have HL' : Hid (L'.length ≤ 4000000) := Lib.hid (by have := HJ.out; omega)
            clear kw bw b6 b7
            rcases hk with hk2 | hk3
            · have hkb : ((r.kind : Int) == 2) = true := by simp [hk2]
              have HK2 := Lib.hid hk2
              clear hk2
              go_wp2_with fail
              refine (halve_any HS7.out HZ7.out r s hlen2 hfb hnb2 HL'.out).mono ?_
              rintro e w8 ⟨v8, rfl, s8, kp8⟩
              have HS8 : Hid (Sps W.heap.size w8 v8 (L' ++ splitS r ul.len s)) := Lib.hid (by unfold splitS; rw [if_pos HK2.out]; exact s8)
              have HI8 := Lib.hid (HIK.out _ _ _ HI7.out kp8)
              have HZ8 : Hid (W.heap.size ≤ w8.heap.size) := Lib.hid (Nat.le_trans HZ7.out kp8.below.size)
              clear s8 kp8 hz1 hs1 p0 p1 p2 p3 f0 f1 f2 f3 x0 x1 x2 x3 q0 q1 q2 q3
              clear hz6 hs6 o0 o1 o2 o3 o4 o5 i0 i1 i2 i3 i4 i5 t0 t1 t2 t3 l0 l1 l2 l3 l4 m0 m1 m2 m3 m4 m5
              go_wp2_with fail
              go_roundg (mu (L' ++ splitS r ul.len s))
              case measure => have h1 := HMU.out; have h2 := mu_small (fun x hx => (HSO.out.1 x hx).2) HSO.out.2.1 HOKS.out.pos; rw [mu_append]; omega
              case rel => exact ⟨L' ++ splitS r ul.len s, acc, rfl, HS8.out, HI8.out, by
                intro x hx
                rcases List.mem_append.1 hx with h | h
                · exact HOK.out x (List.mem_append_left _ h)
                · exact .inr (HSO.out.1 x h).1, HBD.out.push (fun x hx => (HSO.out.1 x hx).2) HSO.out.2.1, by rw [den_append, HSO.out.2.2]; exact HDEN.out, HZ8.out⟩
            · have hkb : ((r.kind : Int) == 2) = false := by simp [hk3]
              have HK3 := Lib.hid hk3
              clear hk3
              go_wp2_with fail
              refine (divide_any HS7.out HZ7.out r s hpos hlen2 hfb hnb2 (HHD.out HK3.out) HL'.out).mono ?_
              rintro e w8 ⟨v8, rfl, s8, kp8⟩
              have HS8 : Hid (Sps W.heap.size w8 v8 (L' ++ splitS r ul.len s)) := Lib.hid (by unfold splitS; rw [if_neg (by have := HK3.out; omega)]; exact s8)
              have HI8 := Lib.hid (HIK.out _ _ _ HI7.out kp8)
              have HZ8 : Hid (W.heap.size ≤ w8.heap.size) := Lib.hid (Nat.le_trans HZ7.out kp8.below.size)
              clear s8 kp8 hz1 hs1 p0 p1 p2 p3 f0 f1 f2 f3 x0 x1 x2 x3 q0 q1 q2 q3
              clear hz6 hs6 o0 o1 o2 o3 o4 o5 i0 i1 i2 i3 i4 i5 t0 t1 t2 t3 l0 l1 l2 l3 l4 m0 m1 m2 m3 m4 m5
              go_wp2_with fail
              go_roundg (mu (L' ++ splitS r ul.len s))
              case measure => have h1 := HMU.out; have h2 := mu_small (fun x hx => (HSO.out.1 x hx).2) HSO.out.2.1 HOKS.out.pos; rw [mu_append]; omega
              case rel => exact ⟨L' ++ splitS r ul.len s, acc, rfl, HS8.out, HI8.out, by
                intro x hx
                rcases List.mem_append.1 hx with h | h
                · exact HOK.out x (List.mem_append_left _ h)
                · exact .inr (HSO.out.1 x h).1, HBD.out.push (fun x hx => (HSO.out.1 x hx).2) HSO.out.2.1, by rw [den_append, HSO.out.2.2]; exact HDEN.out, HZ8.out⟩
end M
end Go.Proofs.Ytjbllcakaljpgaa
namespace Go.Proofs.Ytjbllcakaljpgaa
open Go.RowKit Go.Lib
namespace M
attribute [local go_sem] Oper.semAt_some
set_option maxRecDepth 100000 in
theorem range_yes (W : World) {f n l : Nat} (hl : l ≤ 1152921504606846976) (h : f + n ≤ l) : Calls Try.prog 41 #[.int .i64 f, .int .i64 n, .int .i64 l] W fun e w' => e = .returned .nilIface ∧ w' = W := by
  have h1 : ¬ (f : Int) < 0 := by omega
  have h2 : ¬ (n : Int) < 0 := by omega
  have h3 : ¬ (f : Int) > (l : Int) := by omega
  have h4 : ¬ (n : Int) > (l : Int) - (f : Int) := by omega
  have h5 : ¬ l < f := by omega
  have HV := Lib.hid (valid_yes W hl)
  go_enter Try.func41, Try.ntmps41
  go_wp2_with fail
  refine HV.out.mono ?_; rintro e w ⟨rfl, h⟩; rw [h]; clear h w
  go_wp2_with fail
  go_ret
  exact ⟨rfl, rfl⟩
def PsC (W : World) (g B : Nat) : Prop := W.heap[g]? = some (.cells #[.pointer (some ⟨B, 0, none⟩)] 24 (0, 0))
theorem PsC.cell {W : World} {g B : Nat} (h : PsC W g B) : W.cell? ⟨g, 0, none⟩ = some (.pointer (some ⟨B, 0, none⟩)) := by
  unfold PsC at h
  simp [World.cell?, h]
set_option maxRecDepth 100000 in
set_option maxHeartbeats 4000000 in
theorem wvisit_any {n0 B most : Nat} {E : List En} {W : World} (hs : StAt n0 W B most E) (hwf : Wf E) (hE : E.length ≤ 1048576) {gs gm : Nat} (hgs : PsC W gs B) {acc : List Nat} (hsum : WtC W gm (wt acc)) {x m : Nat} (hx0 : 0 < x) (hx : x ≤ E.length) (hm : 0 < m) (hl : acc.length + m * (txt E x).length ≤ 1152921504606846976) :
    Calls Try.prog 46 #[.int .i64 x, .int .i64 m, .pointer (some ⟨gs, 0, none⟩), .pointer (some ⟨gm, 0, none⟩)] W fun e w' => e = .returned .nilIface ∧ ∃ w1, Below W.heap.size W w1 ∧ w' = setW w1 gm (wt (acc ++ rep m (txt E x))) := by
  obtain ⟨t, ht⟩ : ∃ t, txt E x = t := ⟨_, rfl⟩
  obtain ⟨hw, -, hpos, -⟩ := hwf.get x hx0 hx
  have HW := Lib.hid (weight_any hs hx hE)
  rw [hw, ht] at HW
  rw [ht] at hl hpos
  rw [ht]
  have hmt : t.length * m ≤ 1152921504606846976 := by rw [Nat.mul_comm]; omega
  have hm63 : m ≤ 9223372036854775807 := by
    have := Nat.mul_le_mul_left m hpos
    omega
  have HJ : Hid (∀ w, Calls Try.prog 48 #[wtV (wt acc), wtV (wt (rep m t))] w fun e w' => e = .returned (wtV (wt (acc ++ rep m t))) ∧ Below w.heap.size w w') := Lib.hid (fun w => by
    have h := ajoin_any w (a := wt acc) (b := wt (rep m t)) (wt_ok (by omega)) (wt_ok (by rw [rep_length]; omega)) (by show acc.length + (rep m t).length ≤ _; rw [rep_length]; exact hl)
    rwa [← wt_append] at h)
  obtain ⟨z, hz⟩ : ∃ z, wt (acc ++ rep m t) = z := ⟨_, rfl⟩
  obtain ⟨sa, hsa⟩ : ∃ z, wt acc = z := ⟨_, rfl⟩
  rw [hz, hsa] at HJ
  rw [hsa] at hsum
  rw [hz]
  have KS := Lib.hid hsum; have KP := Lib.hid hgs
  have c0 := hgs.cell
  clear hs hwf hgs hsum hw ht hz hsa
  by_cases h1 : m = 1
  · subst h1
    rw [rep_one] at HJ
    obtain ⟨u, hu⟩ : ∃ u, wt t = u := ⟨_, rfl⟩
    rw [hu] at HJ HW
    unfold wtV at HJ HW
    clear hu
    go_enter Try.func46, Try.ntmps46
    go_wp2_with fail
    refine HW.out.mono ?_; rintro e w1 ⟨rfl, b1⟩
    obtain ⟨wz, w2, hz, hs, kw, bw, ⟨p0, p1, p2, p3, p4, p5⟩, q0, q1, q2, q3, q4, q5⟩ := newWt w1 u
    obtain ⟨x0, x1, x2, x3, x4, x5⟩ := kw.cells
    have B2 := Lib.hid (Below.after b1 bw)
    obtain ⟨y0, y1, y2, y3, y4, y5⟩ := WtC.cells (below_block B2.out KS.out)
    clear b1 kw bw c0
    go_wp2_with fail
    refine (HJ.out w2).mono ?_; rintro e w3 ⟨rfl, b3⟩
    have B3 := Lib.hid (Below.after B2.out b3)
    have k3 : WtC w3 gm sa := below_block B3.out KS.out
    clear hz hs p0 p1 p2 p3 p4 p5 q0 q1 q2 q3 q4 q5 x0 x1 x2 x3 x4 x5 y0 y1 y2 y3 y4 y5 b3
    obtain ⟨y0, y1, y2, y3, y4, y5⟩ := k3.cells
    have f0 := k3.free 0; have f1 := k3.free 1; have f2 := k3.free 2; have f3 := k3.free 3; have f4 := k3.free 4; have f5 := k3.free 5
    clear k3
    go_wp2_with fail
    go_ret
    exact ⟨rfl, w3, B3.out, rfl⟩
  · have h1i : (m : Int) > 1 := by omega
    have HR := Lib.hid (fun w : World => wrep_any w (t := t) hm hm63 hpos hmt)
    obtain ⟨u, hu⟩ : ∃ u, wt t = u := ⟨_, rfl⟩
    obtain ⟨v, hv⟩ : ∃ u, wt (rep m t) = u := ⟨_, rfl⟩
    simp only [hu, hv] at HR
    rw [hu] at HW
    rw [hv] at HJ
    unfold wtV at HJ HW HR
    clear hu hv h1
    go_enter Try.func46, Try.ntmps46
    go_wp2_with fail
    refine HW.out.mono ?_; rintro e w1 ⟨rfl, b1⟩
    obtain ⟨wz, w2, hz, hs, kw, bw, ⟨p0, p1, p2, p3, p4, p5⟩, q0, q1, q2, q3, q4, q5⟩ := newWt w1 u
    obtain ⟨x0, x1, x2, x3, x4, x5⟩ := kw.cells
    have B2 := Lib.hid (Below.after b1 bw); have KW := Lib.hid kw
    have HB1 : Hid (W.heap.size ≤ w1.heap.size) := Lib.hid b1.size
    clear b1 kw bw c0
    go_wp2_with fail
    refine (HR.out w2).mono ?_; rintro e w3 ⟨rfl, b3⟩
    have B3 := Lib.hid (Below.after B2.out b3)
    have k3 : WtC w3 w1.heap.size u := below_block b3 KW.out
    clear hz hs p0 p1 p2 p3 p4 p5 q0 q1 q2 q3 q4 q5 x0 x1 x2 x3 x4 x5 b3
    obtain ⟨y0, y1, y2, y3, y4, y5⟩ := k3.cells
    have f0 := k3.free 0; have f1 := k3.free 1; have f2 := k3.free 2; have f3 := k3.free 3; have f4 := k3.free 4; have f5 := k3.free 5
    obtain ⟨w4, hw4⟩ : ∃ w, setW w3 w1.heap.size v = w := ⟨_, rfl⟩
    have k4 : WtC w4 w1.heap.size v := by rw [← hw4]; exact k3.set v
    have b4 : Below W.heap.size W w4 := by rw [← hw4]; exact setW_below B3.out HB1.out v
    simp only [setW] at hw4
    obtain ⟨x0, x1, x2, x3, x4, x5⟩ := k4.cells
    have B4 := Lib.hid b4
    obtain ⟨z0, z1, z2, z3, z4, z5⟩ := WtC.cells (below_block b4 KS.out)
    clear k3 k4 b4
    go_wp2_with fail
    refine (HJ.out w4).mono ?_; rintro e w5 ⟨rfl, b5⟩
    have B5 := Lib.hid (Below.after B4.out b5)
    have k5 : WtC w5 gm sa := below_block B5.out KS.out
    clear hw4 x0 x1 x2 x3 x4 x5 y0 y1 y2 y3 y4 y5 z0 z1 z2 z3 z4 z5 f0 f1 f2 f3 f4 f5 b5
    obtain ⟨y0, y1, y2, y3, y4, y5⟩ := k5.cells
    have f0 := k5.free 0; have f1 := k5.free 1; have f2 := k5.free 2; have f3 := k5.free 3; have f4 := k5.free 4; have f5 := k5.free 5
    clear k5
    go_wp2_with fail
    go_ret
    exact ⟨rfl, w5, B5.out, rfl⟩
theorem setW_other {W : World} {g k : Nat} {o : Obj} (v : Wt) (hk : k ≠ g) (h : W.heap[k]? = some o) : (setW W g v).heap[k]? = some o := set_other hk (set_other hk (set_other hk (set_other hk (set_other hk (set_other hk h)))))
theorem ne_type {W : World} {g k : Nat} {cs cs' : Array Value} {t t' : TypeId} {fz fz' : Nat × Nat} (h : W.heap[k]? = some (.cells cs t fz)) (h' : W.heap[g]? = some (.cells cs' t' fz')) (ht : t ≠ t') : k ≠ g := fun e => by
  subst e; rw [h] at h'; simp at h'; exact ht h'.2.1
theorem setW_keep {W : World} {g : Nat} {u : Wt} (h : WtC W g u) (v : Wt) {t : TypeId} (ht : t ≠ 52) : KeepT t W (setW W g v) := fun k cs fz hk => setW_other v (ne_type hk h ht) hk
theorem setW_stat {n0 B most : Nat} {W : World} {E : List En} (hs : StAt n0 W B most E) {g : Nat} {u : Wt} (h : WtC W g u) (v : Wt) : StAt n0 (setW W g v) B most E := by
  obtain ⟨lv, mb, k1, k2, k3, k4⟩ := hs
  refine ⟨lv, mb, setW_keep h v (by decide) _ _ _ k1, SlA.keep k2 (setW_keep h v (by decide)), ?_, k4⟩
  obtain ⟨es, c, h5, h6⟩ := k3
  refine ⟨es, c, setW_other v (fun e => ?_) h5, h6⟩
  subst e; unfold WtC at h; rw [h] at h5; cases h5
theorem StAt.kps {n n0 B most : Nat} {A C : World} {E : List En} (hs : StAt n0 A B most E) (h : KpS n A C) : StAt n0 C B most E := by
  obtain ⟨lv, mb, k1, k2, k3, k4⟩ := hs
  refine ⟨lv, mb, h.cells _ (by decide) _ _ _ k1, SlA.keep k2 (h.cells _ (by decide)), ?_, k4⟩
  obtain ⟨es, c, h5, h6⟩ := k3
  exact ⟨es, c, h.others.same _ _ h5 rfl, h6⟩
theorem setW_size (W : World) (g : Nat) (v : Wt) : (setW W g v).heap.size = W.heap.size := by simp [setW]
/-- What the sum's visitor keeps. -/
def IW (n0 B most : Nat) (E : List En) (n1 gs gm gr : Nat) (W0 : World) (acc : List Nat) (w : World) : Prop := StAt n0 w B most E ∧ PsC w gs B ∧ WtC w gm (wt acc) ∧ WtC w gr w0 ∧ Below n1 W0 w
set_option maxRecDepth 100000 in
set_option maxHeartbeats 4000000 in
theorem aweight_any {n0 B most : Nat} {E : List En} {W : World} (hs : StAt n0 W B most E) (hwf : Wf E) (hE : E.length ≤ 1048576) {id frm n : Nat} (hid : id ≤ E.length) (hr : frm + n ≤ (txt E id).length) :
    Calls Try.prog 24 #[.pointer (some ⟨B, 0, none⟩), .int .i64 id, .int .i64 frm, .int .i64 n] W fun e w' => e = .returned (.tuple #[wtV (wt (((txt E id).drop frm).take n)), .nilIface]) ∧ Below W.heap.size W w' := by
  have hmf : ∀ (fn : Fn) (first cap : Array Value) (w : World), (Instr.makeFunc fn first cap).run Try.prog w = .ok (.func fn first cap) w := fun _ _ _ _ => rfl
  obtain ⟨hw, hlen⟩ := hwf.len hid
  have H := Lib.hid hs; have HWF := Lib.hid hwf; have HR := Lib.hid hr
  obtain ⟨W1, hW1⟩ : ∃ w, (W.alloc (.cells #[.pointer (some ⟨B, 0, none⟩)] 24)).alloc (.cells #[.int .i64 0, .int .i64 0, .int .i64 0, .int .i64 0, .int .u64 0, .int .u64 0] 52) = w := ⟨_, rfl⟩
  have k1 : PsC W1 W.heap.size B := by rw [← hW1]; exact below_block ((Below.refl _ _).alloc (Nat.le_refl _) _) (heap_new' W _)
  have k2 : WtC W1 (W.heap.size + 1) w0 := by
    rw [← hW1]
    have := heap_new' (W.alloc (.cells #[.pointer (some ⟨B, 0, none⟩)] 24)) (.cells #[.int .i64 0, .int .i64 0, .int .i64 0, .int .i64 0, .int .u64 0, .int .u64 0] 52)
    rw [World.size_alloc] at this
    exact this
  have b1 : Below W.heap.size W W1 := by rw [← hW1]; exact ((Below.refl _ W).alloc (Nat.le_refl _) _).alloc (by simp) _
  have hz1 : W1.heap.size = W.heap.size + 2 := by rw [← hW1]; simp
  have HW := Lib.hid (weight_any (hs.below b1) hid hE)
  rw [hw] at HW
  obtain ⟨t, ht⟩ : ∃ t, txt E id = t := ⟨_, rfl⟩
  rw [ht] at HW hr hlen ⊢
  have HT := Lib.hid ht
  obtain ⟨u, hu⟩ : ∃ u, wt t = u := ⟨_, rfl⟩
  have hul : u.len = t.length := by rw [← hu]; rfl
  rw [hu] at HW
  unfold wtV at HW
  have HRG := Lib.hid (fun w : World => range_yes w (f := frm) (n := n) (l := u.len) (by omega) (by omega))
  have K1 := Lib.hid k1; have K2 := Lib.hid k2; have B1 := Lib.hid b1; have HZ1 := Lib.hid hz1
  have c0 := k1.cell
  have hnb : n ≤ 1152921504606846976 := by omega
  clear hs hwf hw k1 k2 b1 hz1 ht hu hul hr hlen
  go_enter Try.func24, Try.ntmps24
  go_wp2_with fail
  refine HW.out.mono ?_; rintro e w1 ⟨rfl, b2⟩
  obtain ⟨wz, w2, hz, hs, kw, bw, ⟨p0, p1, p2, p3, p4, p5⟩, q0, q1, q2, q3, q4, q5⟩ := newWt w1 u
  obtain ⟨x0, x1, x2, x3, x4, x5⟩ := kw.cells
  have B2 := Lib.hid (Below.after b2 bw)
  clear b2 kw bw c0
  go_wp2_with fail
  refine (HRG.out w2).mono ?_; rintro e w ⟨rfl, h⟩; rw [h]; clear h w
  clear hW1 hz hs p0 p1 p2 p3 p4 p5 q0 q1 q2 q3 q4 q5 x0 x1 x2 x3 x4 x5
  go_wp2_with fail
  refine (wunit_any w2).mono ?_; rintro e w3 ⟨rfl, b3⟩
  obtain ⟨u0, hu0⟩ : ∃ u, wt [] = u := ⟨_, rfl⟩
  have HU0 := Lib.hid hu0
  rw [hu0]
  unfold wtV
  obtain ⟨wz, w4, hz, hs, kw, bw, ⟨p0, p1, p2, p3, p4, p5⟩, q0, q1, q2, q3, q4, q5⟩ := newWt w3 u0
  obtain ⟨x0, x1, x2, x3, x4, x5⟩ := kw.cells
  have B4 := Lib.hid (Below.after B2.out (Below.after b3 bw))
  have c4 := PsC.cell (show PsC w4 W.heap.size B from below_block B4.out K1.out)
  obtain ⟨gm, hgm⟩ : ∃ g, w3.heap.size = g := ⟨_, rfl⟩
  have HGM : Hid (W.heap.size + 2 ≤ gm) := Lib.hid (by have h1 := B2.out.size; have h2 := b3.size; have h3 := HZ1.out; omega)
  have HI4 : Hid (IW n0 B most E W.heap.size W.heap.size gm (W.heap.size + 1) W [] w4) := Lib.hid (by
    refine ⟨H.out.below (Below.after B1.out B4.out), below_block B4.out K1.out, ?_, below_block B4.out K2.out, Below.after B1.out B4.out⟩
    rw [← hgm, HU0.out]; exact kw)
  have HPA : Hid (Calls Try.prog 42 #[.pointer (some ⟨B, 0, none⟩), .int .i64 id, .int .i64 frm, .int .i64 n, .func (.func 46) #[] #[.pointer (some ⟨W.heap.size, 0, none⟩), .pointer (some ⟨gm, 0, none⟩)]] w4 fun e w' => e = .returned .nilIface ∧ IW n0 B most E W.heap.size W.heap.size gm (W.heap.size + 1) W ([] ++ ((txt E id).drop frm).take n) w') := Lib.hid (by
    refine parts_any HWF.out hE 46 (fun _ _ => by kernel_rfl) _ _ (IW n0 B most E W.heap.size W.heap.size gm (W.heap.size + 1) W) [] (fun acc w h => h.1) ?_ ?_ HI4.out hid HR.out
    · rintro acc w w' ⟨h1, h2, h3, h4, h5⟩ hk
      exact ⟨h1.kps hk, hk.cells _ (by decide) _ _ _ h2, hk.cells _ (by decide) _ _ _ h3, hk.cells _ (by decide) _ _ _ h4, h5.trans (hk.below.mono (Nat.le_trans (Nat.le_trans (Nat.le_add_right _ 2) (by rw [← HZ1.out]; exact Nat.le_refl _)) B4.out.size))⟩
    · rintro acc w x m ⟨h1, h2, h3, h4, h5⟩ hx0 hx hm hl
      refine (wvisit_any h1 HWF.out hE h2 h3 hx0 hx hm (by simp at hl; omega)).mono ?_
      rintro e w' ⟨rfl, w1, b1, rfl⟩
      have k3 : WtC w1 gm (wt acc) := below_block b1 h3
      have k4 : WtC w1 (W.heap.size + 1) w0 := below_block b1 h4
      refine ⟨rfl, ⟨setW_stat (h1.below b1) k3 _, setW_keep k3 _ (by decide) _ _ _ (below_block b1 h2), k3.set _, setW_other _ (by have := HGM.out; omega) k4, ?_⟩, (KeepT.below b1).trans (setW_keep k3 _ (by decide)), by rw [setW_size]; exact b1.size⟩
      exact setW_below (h5.trans (b1.mono h5.size)) (by have := HGM.out; omega) _)
  rw [hgm] at hs p0 p1 p2 p3 p4 p5 q0 q1 q2 q3 q4 q5
  clear x0 x1 x2 x3 x4 x5 kw bw b3 hu0
  go_wp2_with fail
  refine HPA.out.mono ?_
  rintro e w5 ⟨rfl, i1, i2, i3, i4, i5⟩
  rw [List.nil_append, HT.out] at i3
  obtain ⟨v, hv⟩ : ∃ v, wt ((t.drop frm).take n) = v := ⟨_, rfl⟩
  have HV := Lib.hid hv
  rw [hv] at i3
  clear hz hs p0 p1 p2 p3 p4 p5 q0 q1 q2 q3 q4 q5 c4 hgm hv
  obtain ⟨y0, y1, y2, y3, y4, y5⟩ := i3.cells
  obtain ⟨r0, r1, r2, r3, r4, r5⟩ := i4.cells
  simp only [w0] at r0 r1 r2 r3 r4 r5
  have f0 := i4.free 0; have f1 := i4.free 1; have f2 := i4.free 2; have f3 := i4.free 3; have f4 := i4.free 4; have f5 := i4.free 5
  obtain ⟨w6, hw6⟩ : ∃ w, setW w5 (W.heap.size + 1) v = w := ⟨_, rfl⟩
  have k6 : WtC w6 (W.heap.size + 1) v := by rw [← hw6]; exact i4.set v
  have B6 : Hid (Below W.heap.size W w6) := Lib.hid (by rw [← hw6]; exact setW_below i5 (by omega) v)
  simp only [setW] at hw6
  obtain ⟨s0, s1, s2, s3, s4, s5⟩ := k6.cells
  clear i1 i2 i3 i4 i5 k6
  go_wp2_with fail
  exact bodyPost_ret (v := .tuple #[.agg #[.int .i64 v.len, .int .i64 v.lines, .int .i64 v.head, .int .i64 v.tail, .int .u64 v.d.v, .int .u64 v.d.s], .nilIface]) (by simp [results, Try.results24, go_sem, s0, s1, s2, s3, s4, s5]) rfl ⟨by rw [HV.out], B6.out⟩
end M
end Go.Proofs.Ytjbllcakaljpgaa
