/- access.parts: the visitor sees the parts of a range, from left to right. -/
import Derived.Test.YtpjcfepngjpfbaaParts0
set_option linter.unusedVariables false
set_option linter.unusedSimpArgs false
namespace Go.Proofs.Ytpjcfepngjpfbaa
open Go.RowKit Go.Lib
namespace M
attribute [local go_sem] Oper.semAt_some
/-- A range that has nothing, or lies in its text. -/
def Ok1 (E : List En) (s : Sp) : Prop := s.n = 0 ∨ OkS E s
def bnd (C : Nat) (L : List Sp) : Prop := ∀ (k : Nat) (s : Sp), L[k]? = some s → k + 1 + 2 * s.id ≤ C
theorem bnd.pop {C : Nat} {L : List Sp} {s : Sp} (h : bnd C (L ++ [s])) : bnd C L := fun k x hx => h k x (by rw [List.getElem?_append_left (List.getElem?_eq_some_iff.1 hx).1]; exact hx)
theorem bnd.push {C : Nat} {L M : List Sp} {s : Sp} (h : bnd C (L ++ [s])) (hM : ∀ x ∈ M, x.id < s.id) (hl : M.length ≤ 3) : bnd C (L ++ M) := fun k x hx => by
  by_cases hk : k < L.length
  · rw [List.getElem?_append_left hk] at hx
    exact h.pop k x hx
  · rw [List.getElem?_append_right (by omega)] at hx
    have h1 := h L.length s (by rw [List.getElem?_append_right (Nat.le_refl _)]; simp)
    have h2 := hM x (List.mem_of_getElem? hx)
    have h3 := (List.getElem?_eq_some_iff.1 hx).1
    omega
theorem bnd.len {C : Nat} {L : List Sp} (h : bnd C L) : L.length ≤ C := by
  rcases List.eq_nil_or_concat L with rfl | ⟨L', s, rfl⟩
  · simp
  · have := h L'.length s (by rw [List.concat_eq_append, List.getElem?_append_right (Nat.le_refl _)]; simp)
    rw [List.concat_eq_append, List.length_append, List.length_singleton]; omega
theorem denS_none {E : List En} {s : Sp} (h : s.n = 0 ∨ s.times = 0) : denS E s = [] := by
  unfold denS
  rcases h with h | h
  · rw [h, List.take_zero]
    simp [rep]
  · rw [h]; rfl
theorem denS_whole {E : List En} {s : Sp} (h : OkS E s) (hn : s.n = (txt E s.id).length) : denS E s = rep s.times (txt E s.id) := by
  unfold denS
  have h0 : s.frm = 0 := by have := h.rng; omega
  rw [h0, List.drop_zero, List.take_of_length_le (by omega)]
theorem den_append (E : List En) (L M : List Sp) : den E (L ++ M) = den E M ++ den E L := by
  induction L with
  | nil => show den E M = den E M ++ []; rw [List.append_nil]
  | cons a L ih => show den E (L ++ M) ++ denS E a = den E M ++ (den E L ++ denS E a); rw [ih, List.append_assoc]
/-- What holds ahead of each round. -/
def Parting (W : World) (E : List En) (I : List Nat → World → Prop) (tot : List Nat) (k : Nat) (tv : Value) (wr : World) : Prop :=
  ∃ (L : List Sp) (acc : List Nat), mu L = k ∧ Sps W.heap.size wr tv L ∧ I acc wr ∧ (∀ s ∈ L, Ok1 E s) ∧ bnd (3 + 2 * E.length) L ∧ acc ++ den E L = tot ∧ W.heap.size ≤ wr.heap.size
set_option maxRecDepth 100000 in
set_option maxHeartbeats 8000000 in
theorem parts_any {n0 B most : Nat} {E : List En} (hwf : Wf E) (hE : E.length ≤ 1048576) (F : FuncId) (hcf : ∀ (args : Array Value) (w : World), (callFunc F args).run Try.prog w = .ok (.enter F args) w) (c1 c2 : Value) (I : List Nat → World → Prop) {W : World} {id frm n : Nat} (acc0 : List Nat)
    (hSt : ∀ acc w, I acc w → StAt n0 w B most E) (hIk : ∀ acc w w', I acc w → KpS W.heap.size w w' → I acc w')
    (hV : ∀ acc w x m, I acc w → 0 < x → x ≤ E.length → 0 < m → acc.length + m * (txt E x).length ≤ acc0.length + n → Calls Try.prog F #[.int .i64 (x : Nat), .int .i64 (m : Nat), c1, c2] w fun e w' => e = .returned .nilIface ∧ I (acc ++ rep m (txt E x)) w' ∧ KeepT 158 w w' ∧ w.heap.size ≤ w'.heap.size)
    (hI : I acc0 W) (hid : id ≤ E.length) (hr : frm + n ≤ (txt E id).length) :
    Calls Try.prog 76 #[.pointer (some ⟨B, 0, none⟩), .int .i64 id, .int .i64 frm, .int .i64 n, .func (.func F) #[] #[c1, c2]] W fun e w' => e = .returned .nilIface ∧ I (acc0 ++ ((txt E id).drop frm).take n) w' := by
  have HF : ∀ f, Fence.wide.fn f := fun _ => trivial
  have HWF := Lib.hid hwf; have HST := Lib.hid hSt; have HIK := Lib.hid hIk; have HV := Lib.hid hV
  obtain ⟨tot, htot⟩ : ∃ t, acc0 ++ ((txt E id).drop frm).take n = t := ⟨_, rfl⟩
  have htl : tot.length = acc0.length + n := by rw [← htot, List.length_append, List.length_take, List.length_drop]; omega
  have hlen := (hwf.len hid).2
  rw [htot]
  obtain ⟨W1, hW1⟩ : ∃ w, W.alloc (.cells #[.int .i64 id, .int .i64 frm, .int .i64 n, .int .i64 1] 158) = w := ⟨_, rfl⟩
  have l1 : Sps W.heap.size W1 (.slice (some ⟨W.heap.size, 0, none⟩) 1 1) [⟨id, frm, n, 1⟩] := by rw [← hW1]; exact SlA.lit (l := [⟨id, frm, n, 1⟩]) encSp_len rfl (by simp; unfold maxLen; omega)
  have b1 : Below W.heap.size W W1 := by rw [← hW1]; exact (Below.refl _ _).alloc (Nat.le_refl _) _
  have HP : Hid (Parting W E I tot (mu [⟨id, frm, n, 1⟩]) (.slice (some ⟨W.heap.size, 0, none⟩) 1 1) W1) := Lib.hid ⟨[⟨id, frm, n, 1⟩], acc0, rfl, l1, hIk _ _ _ hI (KpS.of b1 (Nat.le_refl _)), by
    intro s hs
    simp only [List.mem_singleton] at hs
    subst hs
    rcases Nat.eq_zero_or_pos n with h0 | h0
    · exact .inl h0
    · refine .inr ⟨?_, hid, hr, fun _ => Nat.le_refl _⟩
      rcases Nat.eq_zero_or_pos id with h1 | h1
      · subst h1; rw [txt_zero] at hr; simp at hr; omega
      · exact h1, by
    intro k s hs
    cases k with
    | zero => simp at hs; subst hs; dsimp only; omega
    | succ k => simp at hs, by rw [← htot]; show acc0 ++ ([] ++ denS E ⟨id, frm, n, 1⟩) = _; unfold denS; rw [rep_one, List.nil_append], b1.size⟩
  have HTL := Lib.hid htl
  clear hwf hSt hIk hV htot l1 b1 hI htl hr hid hlen
  go_enter Try.func76, Try.ntmps76
  go_wp2_with fail
  clear hW1
  go_loopg [11] (mu [⟨id, frm, n, 1⟩]) (fun k tv wr => Parting W E I tot k tv wr)
  case atStart => exact HP.out
  case round =>
    clear HP
    obtain ⟨L, acc, hk, hS, hI, hOk, hBd, hDen, hsz⟩ := hrel
    rcases List.eq_nil_or_concat L with rfl | ⟨L', s, rfl⟩
    · obtain ⟨ta, tc, rfl⟩ := hS.len
      have hD : acc = tot := by rw [← hDen]; simp [den]
      have HI := Lib.hid hI
      rw [hD] at HI
      clear hk hS hI hOk hBd hDen hsz hD
      go_wp2_with fail
      go_ret
      exact ⟨rfl, HI.out⟩
    · rw [List.concat_eq_append] at hk hS hOk hBd hDen
      obtain ⟨ta, tc, rfl⟩ := hS.len
      rw [List.length_append, List.length_singleton] at hS ⊢
      obtain ⟨j, hj⟩ : ∃ j, L'.length = j := ⟨_, rfl⟩
      rw [hj] at hS ⊢
      have hjb : j ≤ 4000000 := by have := hBd.len; rw [List.length_append, List.length_singleton] at this; omega
      have hsh := hS.shape
      rw [List.length_append, List.length_singleton, hj] at hsh
      obtain ⟨g, rfl, hjc⟩ : ∃ g, ta = some ⟨g, 0, none⟩ ∧ j + 1 ≤ tc := by
        rcases hsh with ⟨-, h⟩ | ⟨g, cap, h, h1, h2⟩
        · simp at h
        · simp only [Value.slice.injEq] at h
          obtain ⟨rfl, -, rfl⟩ := h
          exact ⟨g, rfl, h1⟩
      have hjn : j < (L' ++ [s]).length := by simp [hj]
      have hsj : (L' ++ [s])[j] = s := by simp [← hj]
      have q0 := SlA.cell encSp_len hS hjn (j := 0) (by omega)
      have q1 := SlA.cell encSp_len hS hjn (j := 1) (by omega)
      have q2 := SlA.cell encSp_len hS hjn (j := 2) (by omega)
      have q3 := SlA.cell encSp_len hS hjn (j := 3) (by omega)
      rw [hsj] at q0 q1 q2 q3
      replace q0 : wr.cell? ⟨g, j * 4, none⟩ = some (.int .i64 s.id) := q0
      replace q1 : wr.cell? ⟨g, j * 4 + 1, none⟩ = some (.int .i64 s.frm) := q1
      replace q2 : wr.cell? ⟨g, j * 4 + 2, none⟩ = some (.int .i64 s.n) := q2
      replace q3 : wr.cell? ⟨g, j * 4 + 3, none⟩ = some (.int .i64 s.times) := q3
      have HS := Lib.hid (SlA.pop encSp_len hS hj)
      have HOK := Lib.hid hOk; have HBD := Lib.hid hBd; have HSZ := Lib.hid hsz; have HJ := Lib.hid hj
      have HOS := Lib.hid (hOk s (by simp))
      have hk2 : mu L' + 4 ^ s.id = mu (L' ++ [s]) := by rw [mu_append]; rfl
      have HMU := Lib.hid (hk2.trans hk)
      clear hk2
      rw [den_snoc] at hDen
      have HDEN := Lib.hid hDen
      obtain ⟨wz, w1, hz1, hs1, kt, b1, ⟨p0, p1, p2, p3⟩, f0, f1, f2, f3⟩ := newSp wr s
      obtain ⟨x0, x1, x2, x3⟩ := kt.cells
      have HI1 := Lib.hid (HIK.out _ _ _ hI (KpS.of b1 hsz))
      have B1 := Lib.hid b1; have KT := Lib.hid kt
      have hj1 : (j : Int) < ((j + 1 : Nat) : Int) := by omega
      have hj2 : (j : Int) ≤ (tc : Int) := by omega
      have hj3 : j ≤ tc := by omega
      have hj4 : IntKind.i64.wrap (((j + 1 : Nat) : Int) - 1) = (j : Int) := by rw [IntKind.wrap_i64]; omega
      clear hk hS hI hOk hBd hDen hsz hsh hjn hsj hj b1 kt
      have HS1 := Lib.hid (SlA.below HS.out B1.out)
      by_cases hn0 : s.n = 0
      · have HSK : Hid (s.n = 0 ∨ s.times = 0) := Lib.hid (.inl hn0)
        have hnb : ((s.n : Int) == 0) = true := by simp [hn0]
        clear hn0
        go_wp2_with fail
        go_roundg (mu L')
        case measure => have := HMU.out; have : 0 < 4 ^ s.id := Nat.pow_pos (by omega); omega
        case rel => exact ⟨L', acc, rfl, HS1.out, HI1.out, fun x hx => HOK.out x (List.mem_append_left _ hx), HBD.out.pop, by have h := HDEN.out; rw [denS_none HSK.out, List.nil_append] at h; exact h, Nat.le_trans HSZ.out B1.out.size⟩
      · have hnb : ((s.n : Int) == 0) = false := by simp [hn0]
        by_cases ht0 : s.times = 0
        · have HSK : Hid (s.n = 0 ∨ s.times = 0) := Lib.hid (.inr ht0)
          have htb : ((s.times : Int) == 0) = true := by simp [ht0]
          clear hn0 ht0
          go_wp2_with fail
          go_roundg (mu L')
          case measure => have := HMU.out; have : 0 < 4 ^ s.id := Nat.pow_pos (by omega); omega
          case rel => exact ⟨L', acc, rfl, HS1.out, HI1.out, fun x hx => HOK.out x (List.mem_append_left _ hx), HBD.out.pop, by have h := HDEN.out; rw [denS_none HSK.out, List.nil_append] at h; exact h, Nat.le_trans HSZ.out B1.out.size⟩
        · have htb : ((s.times : Int) == 0) = false := by simp [ht0]
          obtain ⟨hsp, hsl, hsr, hs1'⟩ : OkS E s := by
            rcases HOS.out with h | h
            · exact absurd h hn0
            · exact h
          have HOKS : Hid (OkS E s) := Lib.hid ⟨hsp, hsl, hsr, hs1'⟩
          obtain ⟨hw, hlen⟩ := HWF.out.len hsl
          have HW : Hid (∀ w, Below w1.heap.size w1 w → Calls Try.prog 39 #[.pointer (some ⟨B, 0, none⟩), .int .i64 s.id] w fun e w' => e = .returned (.tuple #[wtV (wt (txt E s.id)), .nilIface]) ∧ Below w.heap.size w w') := Lib.hid (fun w hw' => by
            have := weight_any ((HST.out _ _ HI1.out).below hw') hsl hE
            rwa [hw] at this)
          obtain ⟨u, hu⟩ : ∃ u, wt (txt E s.id) = u := ⟨_, rfl⟩
          have hul : u.len = (txt E s.id).length := by rw [← hu]; rfl
          rw [hu] at HW
          unfold wtV at HW
          have HUL := Lib.hid hul; have HN0 := Lib.hid hn0; have HT0 := Lib.hid ht0
          have hnu : s.n ≤ u.len := by omega
          rw [← hul] at hlen
          clear hw hu hul hsp hsr hs1' ht0 hn0
          by_cases hwh : s.n = u.len
          · have hwb : ((s.n : Int) == (u.len : Int)) = true := by simp [hwh]
            have HDW : Hid (denS E s = rep s.times (txt E s.id)) := Lib.hid (denS_whole HOKS.out (by rw [hwh]; exact HUL.out))
            have HVS : Hid (∀ w, I acc w → Calls Try.prog F #[.int .i64 (s.id : Nat), .int .i64 (s.times : Nat), c1, c2] w fun e w' => e = .returned .nilIface ∧ I (acc ++ rep s.times (txt E s.id)) w' ∧ KeepT 158 w w' ∧ w.heap.size ≤ w'.heap.size) := Lib.hid (fun w hI => HV.out acc w s.id s.times hI HOKS.out.pos HOKS.out.le (by have := HT0.out; omega) (by
              have h1 := congrArg List.length HDEN.out
              rw [HDW.out, List.length_append, List.length_append, rep_length, HTL.out] at h1
              omega))
            clear hwh
            go_wp2_with fail
            refine (HW.out w1 (Below.refl _ _)).mono ?_; rintro e w2 ⟨rfl, b2⟩
            obtain ⟨wz2, w3, hz2, hs2, kw, bw, ⟨r0, r1, r2, r3, r4, r5⟩, e0, e1, e2, e3, e4, e5⟩ := newWt w2 u
            obtain ⟨y0, y1, y2, y3, y4, y5⟩ := kw.cells
            have b3 := Below.after b2 bw
            obtain ⟨z0, z1, z2, z3⟩ := SpC.cells (below_block b3 KT.out)
            have HI3 := Lib.hid (HIK.out _ _ _ HI1.out (KpS.of b3 (Nat.le_trans HSZ.out B1.out.size)))
            have HS3 := Lib.hid (SlA.below HS1.out b3)
            have HZ3 : Hid (W.heap.size ≤ w3.heap.size) := Lib.hid (Nat.le_trans (Nat.le_trans HSZ.out B1.out.size) b3.size)
            clear kw bw b2 b3
            go_wp2_with fail
            refine (HVS.out w3 HI3.out).mono ?_
            rintro e w4 ⟨rfl, i4, k4, g4⟩
            have HI4 := Lib.hid i4
            have HS4 := Lib.hid (SlA.keep HS3.out k4)
            have HZ4 : Hid (W.heap.size ≤ w4.heap.size) := Lib.hid (Nat.le_trans HZ3.out g4)
            clear i4 k4 g4 hz1 hs1 hz2 hs2 p0 p1 p2 p3 f0 f1 f2 f3 x0 x1 x2 x3 r0 r1 r2 r3 r4 r5 e0 e1 e2 e3 e4 e5 y0 y1 y2 y3 y4 y5 z0 z1 z2 z3 q0 q1 q2 q3
            go_wp2_with fail
            go_roundg (mu L')
            case measure => have := HMU.out; have : 0 < 4 ^ s.id := Nat.pow_pos (by omega); omega
            case rel => exact ⟨L', acc ++ rep s.times (txt E s.id), rfl, HS4.out, HI4.out, fun x hx => HOK.out x (List.mem_append_left _ hx), HBD.out.pop, by have h := HDEN.out; rw [HDW.out] at h; rw [List.append_assoc]; exact h, HZ4.out⟩
          · have hwb : ((s.n : Int) == (u.len : Int)) = false := by simp; omega
            have hlt : s.n < (txt E s.id).length := by have := HUL.out; omega
            have HRL := Lib.hid (HWF.out.rule s.id HOKS.out.pos HOKS.out.le).cases
            have HSO := Lib.hid (splitS_ok HWF.out HOKS.out (by have := HN0.out; omega) (by have := HT0.out; omega) hlt)
            have HRU : Hid (∀ w, Below w1.heap.size w1 w → Calls Try.prog 23 #[.pointer (some ⟨B, 0, none⟩), .int .i64 s.id] w fun e w' => e = .returned (.tuple #[ruV (entAt E s.id).ru, .nilIface]) ∧ Below w.heap.size w w') := Lib.hid (fun w hw' => rule_any ((HST.out _ _ HI1.out).below hw') HOKS.out.pos hsl hE)
            obtain ⟨r, hr⟩ : ∃ r, (entAt E s.id).ru = r := ⟨_, rfl⟩
            rw [hr] at HRU HSO HRL
            unfold ruV at HRU
            have hk : r.kind = 2 ∨ r.kind = 3 := by
              rcases HRL.out with ⟨-, -, -, -, -, g⟩ | ⟨a, -⟩ | ⟨a, -⟩
              · rw [g] at hlt; have := HN0.out; simp at hlt; omega
              · exact .inl a
              · exact .inr a
            have hll : 0 < r.left ∧ r.left < s.id := by
              rcases HRL.out with ⟨-, -, -, -, -, g⟩ | ⟨-, -, c, d, -⟩ | ⟨-, -, c, d, -⟩
              · rw [g] at hlt; have := HN0.out; simp at hlt; omega
              · exact ⟨c, d⟩
              · exact ⟨c, d⟩
            obtain ⟨hw2, hlen2⟩ := HWF.out.len (show r.left ≤ E.length by omega)
            have hpos : 0 < (txt E r.left).length := (HWF.out.get r.left hll.1 (by omega)).2.2.1
            have HWL : Hid (∀ w, Below w1.heap.size w1 w → Calls Try.prog 39 #[.pointer (some ⟨B, 0, none⟩), .int .i64 r.left] w fun e w' => e = .returned (.tuple #[wtV (wt (txt E r.left)), .nilIface]) ∧ Below w.heap.size w w') := Lib.hid (fun w hw => by
              have := weight_any ((HST.out _ _ HI1.out).below hw) (i := r.left) (by omega) hE
              rwa [hw2] at this)
            have HHD : Hid (r.kind = 3 → (txt E r.left).length < s.frm % (txt E r.left).length + s.n → ((txt E r.left).length - s.frm % (txt E r.left).length) % (txt E r.left).length ≤ s.n) := Lib.hid (fun h3 h4 => by
              rcases HRL.out with ⟨a, -⟩ | ⟨a, -⟩ | ⟨a, -, -, -, -, -, -, g⟩
              · omega
              · omega
              · have hR := HOKS.out.rng
                rw [g, rep_length] at hR
                exact (rep_out _ _ _ _ hpos hR h4).2)
            obtain ⟨ul, hul2⟩ : ∃ u, wt (txt E r.left) = u := ⟨_, rfl⟩
            have hull : ul.len = (txt E r.left).length := by rw [← hul2]; rfl
            rw [hul2] at HWL
            unfold wtV at HWL
            rw [← hull] at HSO HHD hpos hlen2
            have hfb : s.frm ≤ 1152921504606846976 := by have := HOKS.out.rng; have := HUL.out; omega
            have hnb2 : s.n ≤ 1152921504606846976 := by omega
            clear hwh hr hw2 hul2 hull hlt hll
            go_wp2_with fail
            refine (HW.out w1 (Below.refl _ _)).mono ?_; rintro e w2 ⟨rfl, b2⟩
            obtain ⟨wz2, w3, hz2, hs2, kw, bw, ⟨r0, r1, r2, r3, r4, r5⟩, e0, e1, e2, e3, e4, e5⟩ := newWt w2 u
            obtain ⟨y0, y1, y2, y3, y4, y5⟩ := kw.cells
            have b3 := Below.after b2 bw
            obtain ⟨z0, z1, z2, z3⟩ := SpC.cells (below_block b3 KT.out)
            have HB3 := Lib.hid b3
            clear kw bw b2 b3
            go_wp2_with fail
            refine (HRU.out w3 HB3.out).mono ?_; rintro e w4 ⟨rfl, b4⟩
            clear hz2 hs2 r0 r1 r2 r3 r4 r5 e0 e1 e2 e3 e4 e5 y0 y1 y2 y3 y4 y5 z0 z1 z2 z3
            obtain ⟨wz5, w5, hz5, hs5, kr, br, ⟨r0, r1, r2, r3, r4⟩, e0, e1, e2, e3, e4⟩ := newRu w4 r
            obtain ⟨y0, y1, y2, y3, y4⟩ := kr.cells
            have HB5 := Lib.hid (Below.after HB3.out (Below.after b4 br)); have KR := Lib.hid kr
            clear kr br b4
            go_wp2_with fail
            refine (HWL.out w5 HB5.out).mono ?_; rintro e w6 ⟨rfl, b6⟩
            clear hz5 hs5 r0 r1 r2 r3 r4 e0 e1 e2 e3 e4 y0 y1 y2 y3 y4
            obtain ⟨wz7, w7, hz6, hs6, kw, bw, ⟨o0, o1, o2, o3, o4, o5⟩, i0, i1, i2, i3, i4, i5⟩ := newWt w6 ul
            obtain ⟨m0, m1, m2, m3, m4, m5⟩ := kw.cells
            have b7 := Below.after b6 bw
            obtain ⟨l0, l1, l2, l3, l4⟩ := RuC.cells (below_block b7 KR.out)
            obtain ⟨t0, t1, t2, t3⟩ := SpC.cells (below_block (Below.after HB5.out b7) KT.out)
            have HB7 := Lib.hid (Below.after HB5.out b7)
            have HS7 := Lib.hid (SlA.below HS1.out HB7.out)
            have HZ7 : Hid (W.heap.size ≤ w7.heap.size) := Lib.hid (Nat.le_trans (Nat.le_trans HSZ.out B1.out.size) HB7.out.size)
            have HI7 := Lib.hid (HIK.out _ _ _ HI1.out (KpS.of HB7.out (Nat.le_trans HSZ.out B1.out.size)))
            have HL' : Hid (L'.length ≤ 4000000) := Lib.hid (by have := HJ.out; omega)
            clear kw bw b6 b7
            rcases hk with hk2 | hk3
            · have hkb : ((r.kind : Int) == 2) = true := by simp [hk2]
              have HK2 := Lib.hid hk2
              clear hk2
              go_wp2_with fail
              refine (halve_any HS7.out HZ7.out r s hlen2 hfb hnb2 HL'.out).mono ?_
              rintro e w8 ⟨v8, rfl, s8, kp8⟩
              have HS8 : Hid (Sps W.heap.size w8 v8 (L' ++ splitS r ul.len s)) := Lib.hid (by unfold splitS; rw [if_pos HK2.out]; exact s8)
              have HI8 := Lib.hid (HIK.out _ _ _ HI7.out kp8)
              have HZ8 : Hid (W.heap.size ≤ w8.heap.size) := Lib.hid (Nat.le_trans HZ7.out kp8.below.size)
              clear s8 kp8 hz1 hs1 p0 p1 p2 p3 f0 f1 f2 f3 x0 x1 x2 x3 q0 q1 q2 q3
              clear hz6 hs6 o0 o1 o2 o3 o4 o5 i0 i1 i2 i3 i4 i5 t0 t1 t2 t3 l0 l1 l2 l3 l4 m0 m1 m2 m3 m4 m5
              go_wp2_with fail
              go_roundg (mu (L' ++ splitS r ul.len s))
              case measure => have h1 := HMU.out; have h2 := mu_small (fun x hx => (HSO.out.1 x hx).2) HSO.out.2.1 HOKS.out.pos; rw [mu_append]; omega
              case rel => exact ⟨L' ++ splitS r ul.len s, acc, rfl, HS8.out, HI8.out, by
                intro x hx
                rcases List.mem_append.1 hx with h | h
                · exact HOK.out x (List.mem_append_left _ h)
                · exact .inr (HSO.out.1 x h).1, HBD.out.push (fun x hx => (HSO.out.1 x hx).2) HSO.out.2.1, by rw [den_append, HSO.out.2.2]; exact HDEN.out, HZ8.out⟩
            · have hkb : ((r.kind : Int) == 2) = false := by simp [hk3]
              have HK3 := Lib.hid hk3
              clear hk3
              go_wp2_with fail
              refine (divide_any HS7.out HZ7.out r s hpos hlen2 hfb hnb2 (HHD.out HK3.out) HL'.out).mono ?_
              rintro e w8 ⟨v8, rfl, s8, kp8⟩
              have HS8 : Hid (Sps W.heap.size w8 v8 (L' ++ splitS r ul.len s)) := Lib.hid (by unfold splitS; rw [if_neg (by have := HK3.out; omega)]; exact s8)
              have HI8 := Lib.hid (HIK.out _ _ _ HI7.out kp8)
              have HZ8 : Hid (W.heap.size ≤ w8.heap.size) := Lib.hid (Nat.le_trans HZ7.out kp8.below.size)
              clear s8 kp8 hz1 hs1 p0 p1 p2 p3 f0 f1 f2 f3 x0 x1 x2 x3 q0 q1 q2 q3
              clear hz6 hs6 o0 o1 o2 o3 o4 o5 i0 i1 i2 i3 i4 i5 t0 t1 t2 t3 l0 l1 l2 l3 l4 m0 m1 m2 m3 m4 m5
              go_wp2_with fail
              go_roundg (mu (L' ++ splitS r ul.len s))
              case measure => have h1 := HMU.out; have h2 := mu_small (fun x hx => (HSO.out.1 x hx).2) HSO.out.2.1 HOKS.out.pos; rw [mu_append]; omega
              case rel => exact ⟨L' ++ splitS r ul.len s, acc, rfl, HS8.out, HI8.out, by
                intro x hx
                rcases List.mem_append.1 hx with h | h
                · exact HOK.out x (List.mem_append_left _ h)
                · exact .inr (HSO.out.1 x h).1, HBD.out.push (fun x hx => (HSO.out.1 x hx).2) HSO.out.2.1, by rw [den_append, HSO.out.2.2]; exact HDEN.out, HZ8.out⟩
end M
end Go.Proofs.Ytpjcfepngjpfbaa
