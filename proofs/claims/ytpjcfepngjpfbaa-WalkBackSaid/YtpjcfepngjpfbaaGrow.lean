/- The specification's Plain; the laws' grow. -/
import Derived.Test.YtpjcfepngjpfbaaPlain11
import Derived.Test.YtpjcfepngjpfbaaLen11
set_option linter.unusedVariables false
set_option linter.unusedSimpArgs false
namespace Go.Proofs.Ytpjcfepngjpfbaa
open Go.RowKit Go.Lib
namespace M
attribute [local go_sem] Oper.semAt_some
set_option maxRecDepth 100000 in
set_option maxHeartbeats 8000000 in
theorem plain59_any {W : World} {v : Value} {L : List RuI} (hL : RowRu W v L) (hbig : L.length * 8 ≤ 140737488355328) :
    Calls Try.prog 59 #[v, .int .i64 L.length] W fun e w' => ∃ (a : Option Addr) (l c : Nat) (ok : Bool), e = .returned (.tuple #[.slice a l c, .bool ok]) ∧ (ok = true → Bys W.heap.size w' (.slice a l c) (tx (gT L) L.length)) ∧ Below W.heap.size W w' := by
  have HF : ∀ f, Fence.wide.fn f := fun _ => trivial
  have HLE := Lib.hid (lengths11_any hL hbig)
  have HL := Lib.hid hL
  have HBG := Lib.hid hbig
  obtain ⟨a0, cap0, rfl, hc1, hc2, -, -⟩ := hL
  obtain ⟨n, hn⟩ : ∃ n, L.length = n := ⟨_, rfl⟩
  have HN := Lib.hid hn
  rw [hn] at HL HLE ⊢
  clear hbig hc1 hc2 hn
  have d1 : decide ((n : Int) < 0) = false := decide_eq_false (by omega)
  have d1' : ¬ (n : Int) < 0 := by omega
  have d2 : decide ((n : Int) < (n : Int)) = false := decide_eq_false (by omega)
  have d2' : ¬ (n : Int) < (n : Int) := by omega
  go_enter Try.func59, Try.ntmps59
  go_wp2_with fail
  refine HLE.out.mono ?_; rintro e w2 ⟨lv, c, rfl, hc, b2⟩
  have HB2 := Lib.hid b2
  clear HLE b2
  by_cases hc0 : c = 0
  case neg =>
    have b0 : (c != 0) = true := by simp [hc0]
    clear hc hc0
    go_wp2_with fail
    go_ret2
    exact ⟨_, _, _, _, rfl, (fun h => by cases h), HB2.out⟩
  obtain ⟨hok, hlen, hl⟩ := hc hc0
  have b0 : (c != 0) = false := by simp [hc0]
  have HOK := Lib.hid hok
  clear hc hc0 hok hlen
  by_cases h0 : n = 0
  · have d3 : decide ((0 : Int) < (n : Int)) = false := decide_eq_false (by omega)
    have d3' : ¬ (0 : Int) < (n : Int) := by omega
    have HPL := Lib.hid (plain_any HOK.out L.length (Nat.le_refl _) (HL.out.under HB2.out (Nat.le_refl _)) (by rw [HN.out, h0]; exact Nat.zero_le _))
    rw [HN.out] at HPL
    clear h0 hl
    go_wp2_with fail
    refine HPL.out.mono ?_; rintro e w3 ⟨u, rfl, hu, b3⟩
    obtain ⟨ua, ul, uc, rfl⟩ : ∃ a l c, u = .slice a l c := by obtain ⟨a, c, h⟩ := hu.len; exact ⟨a, _, c, h⟩
    have HU := Lib.hid (SlA.mono hu HB2.out.size); have HB3 := Lib.hid (Below.after HB2.out b3)
    clear hu b3 HPL
    go_wp2_with fail
    go_ret2
    exact ⟨_, _, _, _, rfl, fun _ => HU.out, HB3.out⟩
  have d3 : decide ((0 : Int) < (n : Int)) = true := decide_eq_true (by omega)
  have d3' : (0 : Int) < (n : Int) := by omega
  have hml : ((gT L).map List.length).length = n := by rw [List.length_map, gT_len, HN.out]
  obtain ⟨gl, lc, rfl⟩ : ∃ g c, lv = .slice (some ⟨g, 0, none⟩) n c := by
    rcases hl.shape with ⟨-, h⟩ | ⟨g, c, h, -⟩
    · rw [h] at hml; simp at hml; omega
    · exact ⟨g, c, by rw [h, hml]⟩
  obtain ⟨i, hi⟩ : ∃ i, n - 1 = i := ⟨_, rfl⟩
  have hiw : IntKind.i64.wrap ((n : Int) - 1) = (i : Int) := by rw [IntKind.wrap_i64]; have h1 := HBG.out; have h2 := HN.out; omega
  have j1 : (i : Int) < (n : Int) := by omega
  have q0 := SlA.cell encLn_len hl (i := i) (by rw [hml]; omega) (j := 0) (by omega)
  have he : ((gT L).map List.length)[i]'(by rw [hml]; omega) = (tx (gT L) L.length).length := by
    rw [tx_get (by rw [HN.out]; omega) (by rw [gT_len]; exact Nat.le_refl _), List.getElem_map]
    congr 2
    rw [HN.out, hi]
  rw [he, Nat.mul_one, Nat.add_zero] at q0
  obtain ⟨y, hy⟩ : ∃ y, (tx (gT L) L.length).length = y := ⟨_, rfl⟩
  rw [hy] at q0
  replace q0 : w2.cell? ⟨gl, i, none⟩ = some (.int .i64 y) := q0
  have HY := Lib.hid hy
  clear h0 hl hml he hi hy
  by_cases hb : 4096 < y
  · have d4 : decide ((4096 : Int) < (y : Int)) = true := decide_eq_true (by omega)
    have d4' : (4096 : Int) < (y : Int) := by omega
    clear hb
    go_wp2_with fail
    go_ret2
    exact ⟨_, _, _, _, rfl, (fun h => by cases h), HB2.out⟩
  · have d4 : decide ((4096 : Int) < (y : Int)) = false := decide_eq_false (by omega)
    have d4' : ¬ (4096 : Int) < (y : Int) := by omega
    have HPL := Lib.hid (plain_any HOK.out L.length (Nat.le_refl _) (HL.out.under HB2.out (Nat.le_refl _)) (by rw [HY.out]; omega))
    rw [HN.out] at HPL
    clear hb
    go_wp2_with fail
    refine HPL.out.mono ?_; rintro e w3 ⟨u, rfl, hu, b3⟩
    obtain ⟨ua, ul, uc, rfl⟩ : ∃ a l c, u = .slice a l c := by obtain ⟨a, c, h⟩ := hu.len; exact ⟨a, _, c, h⟩
    have HU := Lib.hid (SlA.mono hu HB2.out.size); have HB3 := Lib.hid (Below.after HB2.out b3)
    clear hu b3 HPL
    go_wp2_with fail
    go_ret2
    exact ⟨_, _, _, _, rfl, fun _ => HU.out, HB3.out⟩
/-- What grow answers. -/
def GrowP (n0 B most : Nat) (W : World) (e : Ending) (w' : World) : Prop := ∃ (id : Nat) (a : Option Addr) (l c : Nat) (ok : Bool), e = .returned (.tuple #[.int .i64 id, .slice a l c, .bool ok]) ∧ Below n0 W w' ∧ (ok = true → ∃ E, StAt n0 w' B most E ∧ WfD E ∧ E.length ≤ 40 ∧ id ≤ E.length ∧ Bys W.heap.size w' (.slice a l c) (txt E id) ∧ (txt E id).length ≤ 1500)
set_option maxRecDepth 100000 in
set_option maxHeartbeats 8000000 in
theorem grow_any {n0 B most : Nat} {W : World} (h : StAt n0 W B most []) (hm : 40 ≤ most) {v : Value} {L : List RuI} (hL : ∀ C, Below n0 W C → RowRu C v L) (hbig : L.length * 8 ≤ 140737488355328) :
    Calls Try.prog 25 #[.pointer (some ⟨B, 0, none⟩), v] W (GrowP n0 B most W) := by
  have HF : ∀ f, Fence.wide.fn f := fun _ => trivial
  have HLE := Lib.hid (lengths11_any (hL W (Below.refl _ _)) hbig)
  have HL := Lib.hid hL; have HS := Lib.hid h
  have HN0 : Hid (n0 ≤ W.heap.size) := Lib.hid h.lt
  have HBG := Lib.hid (And.intro hbig hm)
  obtain ⟨a0, cap0, rfl, hc1, hc2, -, -⟩ := hL W (Below.refl _ _)
  obtain ⟨n, hn⟩ : ∃ n, L.length = n := ⟨_, rfl⟩
  have HN := Lib.hid hn
  rw [hn] at HL HLE ⊢
  clear h hL hbig hc1 hc2 hn hm
  go_enter Try.func25, Try.ntmps25
  go_wp2_with fail
  refine HLE.out.mono ?_; rintro e w2 ⟨lv, c, rfl, hc, b2⟩
  have HB2 := Lib.hid b2
  clear HLE b2
  by_cases hc0 : c = 0
  case neg =>
    have b0 : (c != 0) = true := by simp [hc0]
    clear hc hc0
    go_wp2_with fail
    refine bodyPost_ret (results_tmp3 rfl _ _ _) rfl ?_
    exact ⟨0, _, _, _, _, rfl, HB2.out.mono HN0.out, fun h => by cases h⟩
  obtain ⟨hok, hlen, hl⟩ := hc hc0
  have b0 : (c != 0) = false := by simp [hc0]
  have HOK := Lib.hid hok; have HLN := Lib.hid hlen
  clear hc hc0 hok hlen
  by_cases h40 : 40 < n
  · have d2 : decide ((40 : Int) < (n : Int)) = true := decide_eq_true (by omega)
    have d2' : (40 : Int) < (n : Int) := by omega
    clear h40 hl
    go_wp2_with fail
    refine bodyPost_ret (results_tmp3 rfl _ _ _) rfl ?_
    exact ⟨0, _, _, _, _, rfl, HB2.out.mono HN0.out, fun h => by cases h⟩
  have d2 : decide ((40 : Int) < (n : Int)) = false := decide_eq_false (by omega)
  have d2' : ¬ (40 : Int) < (n : Int) := by omega
  have H40 : Hid (n ≤ 40) := Lib.hid (by omega)
  have hml : ((gT L).map List.length).length = n := by rw [List.length_map, gT_len, HN.out]
  obtain ⟨la, lc, rfl⟩ : ∃ a c, lv = .slice a n c := by obtain ⟨a, c, h⟩ := hl.len; exact ⟨a, c, by rw [h, hml]⟩
  have HPN := Lib.hid (plain59_any (HL.out w2 (HB2.out.mono HN0.out)) HBG.out.1)
  rw [HN.out] at HPN
  -- the end, once the lengths fit
  have HIM : Hid (∀ w3, Below w2.heap.size w2 w3 → Calls Try.prog 29 #[.pointer (some ⟨B, 0, none⟩), .slice a0 n cap0] w3 fun e w' => ∃ (id : Nat) (E' : List En), e = .returned (.tuple #[.int .i64 id, .nilIface]) ∧ StAt n0 w' B most E' ∧ WfD E' ∧ E'.length ≤ 40 ∧ id ≤ E'.length ∧ txt E' id = tx (gT L) n ∧ Below n0 W w' ∧ Kt w3 w') := Lib.hid (fun w3 b3 => by
    have bW := Below.after HB2.out b3
    refine (import_any (HS.out.below bW) .nil (fun C hC => HL.out C ((bW.mono HN0.out).trans hC)) HOK.out HLN.out (by have h1 := H40.out; have h2 := HBG.out.2; have h3 := HN.out; simp; omega) (by have h1 := H40.out; have h3 := HN.out; simp; omega)).mono ?_
    rintro e w' ⟨id, E', rfl, s, wd, -, hE, hid, ht, -, hb, hk⟩
    refine ⟨id, E', rfl, s, wd, ?_, hid, ?_, (bW.mono HN0.out).trans hb, hk⟩
    · have h1 := H40.out; have h3 := HN.out; simp at hE; omega
    · rw [ht, HN.out])
  clear h40
  have key : n = 0 ∨ 0 < n := by omega
  rcases key with h0 | h0
  · have d3 : decide ((0 : Int) < (n : Int)) = false := decide_eq_false (by omega)
    have d3' : ¬ (0 : Int) < (n : Int) := by omega
    have HTL : Hid ((tx (gT L) n).length ≤ 1500) := Lib.hid (by rw [h0]; exact Nat.zero_le _)
    clear h0 hl hml
    go_wp2_with fail
    refine HPN.out.mono ?_; rintro e w3 ⟨ua, ul, uc, ok, rfl, hu, b3⟩
    have HU := Lib.hid hu; have B3 := Lib.hid b3
    have HIQ := Lib.hid (HIM.out w3 b3)
    clear hu b3 HPN HIM
    cases ok
    case false =>
      go_wp2_with fail
      refine bodyPost_ret (results_tmp3 rfl _ _ _) rfl ?_
      exact ⟨0, _, _, _, _, rfl, (Below.after HB2.out B3.out).mono HN0.out, fun h => by cases h⟩
    case true =>
      go_wp2_with fail
      refine HIQ.out.mono ?_; rintro e w4 ⟨id, E, rfl, s4, wd4, hE4, hid4, ht4, b4, k4⟩
      have HFIN : Hid (Below n0 W w4 ∧ ∃ E, StAt n0 w4 B most E ∧ WfD E ∧ E.length ≤ 40 ∧ id ≤ E.length ∧ Bys W.heap.size w4 (.slice ua ul uc) (txt E id) ∧ (txt E id).length ≤ 1500) := Lib.hid ⟨b4, E, s4, wd4, hE4, hid4, by rw [ht4]; exact SlA.keep (SlA.mono (HU.out (by first | rfl | trivial)) HB2.out.size) (k4 _ (by decide) (by decide)), by rw [ht4]; exact HTL.out⟩
      clear s4 wd4 hE4 hid4 ht4 b4 k4 HIQ
      go_wp2_with fail
      refine wp_region_anyH (fun w => w = w4.drew) (by kernel_rfl) ?_
      obtain ⟨wd, hwd⟩ : ∃ y, w4.drew = y := ⟨_, rfl⟩
      have B0 : Below w4.heap.size w4 wd := by rw [← hwd]; exact (Below.refl _ _).drew
      have S0 : (fun w => w = wd) wd := rfl
      rw [hwd]
      have HDR := Lib.hid B0
      clear B0 hwd
      refine AnyH.take (i := 0) (d := some 54) (v := ?_) (by kernel_rfl) rfl rfl HF (fun _ _ _ h => h) (.inl ⟨by rfl, ?_⟩) (by first | assumption | rfl) ?_
      rotate_left
      · intro w hS; try subst hS
        go_simp; try with_reducible rfl
      try simp only [Act.put, List.setIfInBounds_toArray, List.set_cons_zero, List.set_cons_succ]
      refine AnyH.take (i := 1) (d := some 55) (v := ?_) (by kernel_rfl) rfl rfl HF (fun _ _ _ h => h) (.inl ⟨by rfl, ?_⟩) (by first | assumption | rfl) ?_
      rotate_left
      · intro w hS; try subst hS
        go_simp; try with_reducible rfl
      try simp only [Act.put, List.setIfInBounds_toArray, List.set_cons_zero, List.set_cons_succ]
      refine AnyH.take (i := 2) (d := some 56) (v := ?_) (by kernel_rfl) rfl rfl HF (fun _ _ _ h => h) (.inl ⟨by rfl, ?_⟩) (by first | assumption | rfl) ?_
      rotate_left
      · intro w hS; try subst hS
        go_simp; try with_reducible rfl
      try simp only [Act.put, List.setIfInBounds_toArray, List.set_cons_zero, List.set_cons_succ]
      refine AnyH.take (i := 3) (d := some 57) (v := ?_) (by kernel_rfl) rfl rfl HF (fun _ _ _ h => h) (.inl ⟨by rfl, ?_⟩) (by first | assumption | rfl) ?_
      rotate_left
      · intro w hS; try subst hS
        go_simp; try with_reducible rfl
      try simp only [Act.put, List.setIfInBounds_toArray, List.set_cons_zero, List.set_cons_succ]
      refine AnyH.take (i := 4) (d := some 4) (v := ?_) (by kernel_rfl) rfl rfl HF (fun _ _ _ h => h) (.inl ⟨by rfl, ?_⟩) (by first | assumption | rfl) ?_
      rotate_left
      · intro w hS; try subst hS
        go_simp; try with_reducible rfl
      try simp only [Act.put, List.setIfInBounds_toArray, List.set_cons_zero, List.set_cons_succ]
      refine AnyH.take (i := 5) (d := some 5) (v := ?_) (by kernel_rfl) rfl rfl HF (fun _ _ _ h => h) (.inl ⟨by rfl, ?_⟩) (by first | assumption | rfl) ?_
      rotate_left
      · intro w hS; try subst hS
        go_simp; try with_reducible rfl
      try simp only [Act.put, List.setIfInBounds_toArray, List.set_cons_zero, List.set_cons_succ]
      refine AnyH.take (i := 6) (d := some 6) (v := ?_) (by kernel_rfl) rfl rfl HF (fun _ _ _ h => h) (.inl ⟨by rfl, ?_⟩) (by first | assumption | rfl) ?_
      rotate_left
      · intro w hS; try subst hS
        go_simp; try with_reducible rfl
      try simp only [Act.put, List.setIfInBounds_toArray, List.set_cons_zero, List.set_cons_succ]
      refine AnyH.done (by kernel_rfl) ?_
      clear S0
      go_wp2_with fail
      refine bodyPost_ret (results_tmp3 rfl _ _ _) rfl ?_
      obtain ⟨h1, E, h2, h3, h4, h5, h6, h7⟩ := HFIN.out
      exact ⟨id, _, _, _, _, rfl, h1.trans (HDR.out.mono h2.lt), fun _ => ⟨E, h2.below HDR.out, h3, h4, h5, SlA.below h6 HDR.out, h7⟩⟩
  · have d3 : decide ((0 : Int) < (n : Int)) = true := decide_eq_true (by omega)
    have d3' : (0 : Int) < (n : Int) := by omega
    obtain ⟨gl, rfl⟩ : ∃ g, la = some ⟨g, 0, none⟩ := by
      rcases hl.shape with ⟨h, hz⟩ | ⟨g, c, h, -⟩
      · rw [hz] at hml; simp at hml; omega
      · simp only [Value.slice.injEq] at h; exact ⟨g, h.1⟩
    obtain ⟨i, hi⟩ : ∃ i, n - 1 = i := ⟨_, rfl⟩
    have hiw : IntKind.i64.wrap ((n : Int) - 1) = (i : Int) := by rw [IntKind.wrap_i64]; have h1 := H40.out; omega
    have j1 : (i : Int) < (n : Int) := by omega
    have q0 := SlA.cell encLn_len hl (i := i) (by rw [hml]; omega) (j := 0) (by omega)
    have he : ((gT L).map List.length)[i]'(by rw [hml]; omega) = (tx (gT L) n).length := by
      rw [tx_get (by omega) (by rw [gT_len, HN.out]; exact Nat.le_refl _), List.getElem_map]
      congr 2
      rw [hi]
    rw [he, Nat.mul_one, Nat.add_zero] at q0
    obtain ⟨y, hy⟩ : ∃ y, (tx (gT L) n).length = y := ⟨_, rfl⟩
    rw [hy] at q0
    replace q0 : w2.cell? ⟨gl, i, none⟩ = some (.int .i64 y) := q0
    have HY := Lib.hid hy
    clear h0 hl hml he hi hy
    by_cases hb : 1500 < y
    · have d4 : decide ((1500 : Int) < (y : Int)) = true := decide_eq_true (by omega)
      have d4' : (1500 : Int) < (y : Int) := by omega
      clear hb
      go_wp2_with fail
      refine bodyPost_ret (results_tmp3 rfl _ _ _) rfl ?_
      exact ⟨0, _, _, _, _, rfl, HB2.out.mono HN0.out, fun h => by cases h⟩
    have d4 : decide ((1500 : Int) < (y : Int)) = false := decide_eq_false (by omega)
    have d4' : ¬ (1500 : Int) < (y : Int) := by omega
    have HTL : Hid ((tx (gT L) n).length ≤ 1500) := Lib.hid (by rw [HY.out]; omega)
    clear hb
    go_wp2_with fail
    refine HPN.out.mono ?_; rintro e w3 ⟨ua, ul, uc, ok, rfl, hu, b3⟩
    have HU := Lib.hid hu; have B3 := Lib.hid b3
    have HIQ := Lib.hid (HIM.out w3 b3)
    clear hu b3 HPN HIM
    cases ok
    case false =>
      go_wp2_with fail
      refine bodyPost_ret (results_tmp3 rfl _ _ _) rfl ?_
      exact ⟨0, _, _, _, _, rfl, (Below.after HB2.out B3.out).mono HN0.out, fun h => by cases h⟩
    case true =>
      go_wp2_with fail
      refine HIQ.out.mono ?_; rintro e w4 ⟨id, E, rfl, s4, wd4, hE4, hid4, ht4, b4, k4⟩
      have HFIN : Hid (Below n0 W w4 ∧ ∃ E, StAt n0 w4 B most E ∧ WfD E ∧ E.length ≤ 40 ∧ id ≤ E.length ∧ Bys W.heap.size w4 (.slice ua ul uc) (txt E id) ∧ (txt E id).length ≤ 1500) := Lib.hid ⟨b4, E, s4, wd4, hE4, hid4, by rw [ht4]; exact SlA.keep (SlA.mono (HU.out (by first | rfl | trivial)) HB2.out.size) (k4 _ (by decide) (by decide)), by rw [ht4]; exact HTL.out⟩
      clear s4 wd4 hE4 hid4 ht4 b4 k4 HIQ
      go_wp2_with fail
      refine wp_region_anyH (fun w => w = w4.drew) (by kernel_rfl) ?_
      obtain ⟨wd, hwd⟩ : ∃ y, w4.drew = y := ⟨_, rfl⟩
      have B0 : Below w4.heap.size w4 wd := by rw [← hwd]; exact (Below.refl _ _).drew
      have S0 : (fun w => w = wd) wd := rfl
      rw [hwd]
      have HDR := Lib.hid B0
      clear B0 hwd
      refine AnyH.take (i := 0) (d := some 54) (v := ?_) (by kernel_rfl) rfl rfl HF (fun _ _ _ h => h) (.inl ⟨by rfl, ?_⟩) (by first | assumption | rfl) ?_
      rotate_left
      · intro w hS; try subst hS
        go_simp; try with_reducible rfl
      try simp only [Act.put, List.setIfInBounds_toArray, List.set_cons_zero, List.set_cons_succ]
      refine AnyH.take (i := 1) (d := some 55) (v := ?_) (by kernel_rfl) rfl rfl HF (fun _ _ _ h => h) (.inl ⟨by rfl, ?_⟩) (by first | assumption | rfl) ?_
      rotate_left
      · intro w hS; try subst hS
        go_simp; try with_reducible rfl
      try simp only [Act.put, List.setIfInBounds_toArray, List.set_cons_zero, List.set_cons_succ]
      refine AnyH.take (i := 2) (d := some 56) (v := ?_) (by kernel_rfl) rfl rfl HF (fun _ _ _ h => h) (.inl ⟨by rfl, ?_⟩) (by first | assumption | rfl) ?_
      rotate_left
      · intro w hS; try subst hS
        go_simp; try with_reducible rfl
      try simp only [Act.put, List.setIfInBounds_toArray, List.set_cons_zero, List.set_cons_succ]
      refine AnyH.take (i := 3) (d := some 57) (v := ?_) (by kernel_rfl) rfl rfl HF (fun _ _ _ h => h) (.inl ⟨by rfl, ?_⟩) (by first | assumption | rfl) ?_
      rotate_left
      · intro w hS; try subst hS
        go_simp; try with_reducible rfl
      try simp only [Act.put, List.setIfInBounds_toArray, List.set_cons_zero, List.set_cons_succ]
      refine AnyH.take (i := 4) (d := some 4) (v := ?_) (by kernel_rfl) rfl rfl HF (fun _ _ _ h => h) (.inl ⟨by rfl, ?_⟩) (by first | assumption | rfl) ?_
      rotate_left
      · intro w hS; try subst hS
        go_simp; try with_reducible rfl
      try simp only [Act.put, List.setIfInBounds_toArray, List.set_cons_zero, List.set_cons_succ]
      refine AnyH.take (i := 5) (d := some 5) (v := ?_) (by kernel_rfl) rfl rfl HF (fun _ _ _ h => h) (.inl ⟨by rfl, ?_⟩) (by first | assumption | rfl) ?_
      rotate_left
      · intro w hS; try subst hS
        go_simp; try with_reducible rfl
      try simp only [Act.put, List.setIfInBounds_toArray, List.set_cons_zero, List.set_cons_succ]
      refine AnyH.take (i := 6) (d := some 6) (v := ?_) (by kernel_rfl) rfl rfl HF (fun _ _ _ h => h) (.inl ⟨by rfl, ?_⟩) (by first | assumption | rfl) ?_
      rotate_left
      · intro w hS; try subst hS
        go_simp; try with_reducible rfl
      try simp only [Act.put, List.setIfInBounds_toArray, List.set_cons_zero, List.set_cons_succ]
      refine AnyH.done (by kernel_rfl) ?_
      clear S0
      go_wp2_with fail
      refine bodyPost_ret (results_tmp3 rfl _ _ _) rfl ?_
      obtain ⟨h1, E, h2, h3, h4, h5, h6, h7⟩ := HFIN.out
      exact ⟨id, _, _, _, _, rfl, h1.trans (HDR.out.mono h2.lt), fun _ => ⟨E, h2.below HDR.out, h3, h4, h5, SlA.below h6 HDR.out, h7⟩⟩
end M
end Go.Proofs.Ytpjcfepngjpfbaa
