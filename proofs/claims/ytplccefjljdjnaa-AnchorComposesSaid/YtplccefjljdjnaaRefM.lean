/- The reference: Map, Back. -/
import Derived.Test.YtplccefjljdjnaaRefB
import Derived.Test.YtplccefjljdjnaaAncP
set_option linter.unusedVariables false
set_option linter.unusedSimpArgs false
namespace Go.Proofs.Ytplccefjljdjnaa
open Go.RowKit Go.Lib
namespace M
attribute [local go_sem] Oper.semAt_some
def RcC (W : World) (g : Nat) (p n : Int) (l : Nat) : Prop := W.heap[g]? = some (.cells #[.int .i64 p, .int .i64 n, .int .i64 l] 93 (0, 0))
theorem RcC.cells {W : World} {g : Nat} {p n : Int} {l : Nat} (h : RcC W g p n l) : W.cell? ⟨g, 0, none⟩ = some (.int .i64 p) ∧ W.cell? ⟨g, 1, none⟩ = some (.int .i64 n) ∧ W.cell? ⟨g, 2, none⟩ = some (.int .i64 l) := by
  unfold RcC at h
  simp [World.cell?, h]
theorem RcC.free {W : World} {g : Nat} {p n : Int} {l : Nat} (h : RcC W g p n l) (i : Nat) : W.frozen? ⟨g, i, none⟩ = false := by
  unfold RcC at h
  simp [World.frozen?, h]
/-- A box into which the reference's change is laid. -/
theorem newRc (w : World) (p n : Int) (l : Nat) : ∃ wz w2, w.alloc (.cells #[.int .i64 0, .int .i64 0, .int .i64 0] 93) = wz ∧
    ((wz.setCell ⟨w.heap.size, 0, none⟩ (.int .i64 p)).setCell ⟨w.heap.size, 1, none⟩ (.int .i64 n)).setCell ⟨w.heap.size, 2, none⟩ (.int .i64 l) = w2 ∧ RcC w2 w.heap.size p n l ∧ Below w.heap.size w w2 ∧
    (wz.cell? ⟨w.heap.size, 0, none⟩ = some (.int .i64 0) ∧ wz.cell? ⟨w.heap.size, 1, none⟩ = some (.int .i64 0) ∧ wz.cell? ⟨w.heap.size, 2, none⟩ = some (.int .i64 0)) ∧ (wz.frozen? ⟨w.heap.size, 0, none⟩ = false ∧ wz.frozen? ⟨w.heap.size, 1, none⟩ = false ∧ wz.frozen? ⟨w.heap.size, 2, none⟩ = false) := by
  have k0 : RcC (w.alloc (.cells #[.int .i64 0, .int .i64 0, .int .i64 0] 93)) w.heap.size 0 0 0 := heap_new' _ _
  have b0 : Below w.heap.size w (w.alloc (.cells #[.int .i64 0, .int .i64 0, .int .i64 0] 93)) := (Below.refl _ _).alloc (Nat.le_refl _) _
  exact ⟨_, _, rfl, rfl, heap_set0 _ (heap_set0 _ (heap_set0 _ k0)), ((b0.setCell (p := ⟨w.heap.size, 0, none⟩) (Nat.le_refl _) _).setCell (p := ⟨w.heap.size, 1, none⟩) (Nat.le_refl _) _).setCell (p := ⟨w.heap.size, 2, none⟩) (Nat.le_refl _) _, k0.cells, k0.free 0, k0.free 1, k0.free 2⟩
set_option maxRecDepth 100000 in
set_option maxHeartbeats 4000000 in
theorem refMapR_any {b0 : Nat} {W : World} {E : List En} {v : Value} {L : List Chg} (hR : Rcs b0 W v (L.map (rcOf E))) (hLb : L.length ≤ 1000) {len x y : Int} (hy : 0 ≤ y ∧ y < len) (hx : y = x - 1) (hok : (lngF E len L).2 = 0) :
    Calls Try.prog 22 #[.int .i64 len, v, .int .i64 y, .bool true] W fun e w' => e = .returned (.tuple #[.int .i64 (mapF E y 0 L).2.1, .bool (mapF E y 0 L).2.2]) ∧ Below W.heap.size W w' := by
  obtain ⟨o1, o2, o3, -, -⟩ := lngF_ok hok
  have HR := Lib.hid hR; have HOK := Lib.hid hok; have HF := Lib.hid o3
  obtain ⟨va, vc, rfl⟩ := hR.len
  rw [List.length_map] at hR HR ⊢
  obtain ⟨res, hres⟩ : ∃ r, mapF E y 0 L = r := ⟨_, rfl⟩
  have HRS := Lib.hid hres
  rw [hres]
  obtain ⟨hy0, hy1⟩ := hy
  have hyw : IntKind.i64.wrap (x - 1) = y := by rw [IntKind.wrap_i64]; omega
  have hyl : (y == len) = false := by simp; omega
  have hyn : ¬ y < 0 := by omega
  have HX := Lib.hid hx
  have HFN : Hid (∀ s : Int, Ending.returned (.tuple #[.int .i64 (y + s), .bool true]) = Ending.returned (.tuple #[.int .i64 (y + s), .bool true])) := Lib.hid (fun s => by first | rfl | (show _ = Ending.returned (.tuple #[.int .i64 (y + s + 1), .bool true]); rw [show y + s + 1 = x + s by omega]))
  clear hR hres hok o3 hx
  go_enter Try.func22, Try.ntmps22
  go_wp2_with fail
  clear hyw
  go_loopw [13, 14] (fun sv iv wr => ∃ (j : Nat) (s : Int), iv = .int .i64 j ∧ sv = .int .i64 s ∧ j ≤ L.length ∧ s = moreF E 0 (L.take j) ∧ mapF E y s (L.drop j) = res ∧ Below W.heap.size W wr) (fun _ iv _ => L.length - (intOf iv).toNat)
  case atStart => exact ⟨0, 0, rfl, rfl, Nat.zero_le _, rfl, HRS.out, Below.refl _ _⟩
  case round =>
    obtain ⟨j, s, rfl, rfl, hj, hs, hm, hB⟩ := hrel
    have HB := Lib.hid hB; have HS := Lib.hid hs; have HM := Lib.hid hm
    have hsb := more_in HOK.out j
    rw [← hs] at hsb
    obtain ⟨hs1, hs2⟩ := hsb
    clear hB hs hm
    by_cases hlt : j < L.length
    · have hlt2 : (j : Int) < (L.length : Int) := by omega
      have hlt3 : (0 : Int) ≤ (j : Int) := by omega
      obtain ⟨g, cap, hv, -, -, hc⟩ := Rcs.at HR.out hlt
      simp only [Value.slice.injEq] at hv
      obtain ⟨rfl, -, rfl⟩ := hv
      obtain ⟨q0, q1, q2⟩ := hc wr HB.out j hlt
      obtain ⟨m1, m2, m3⟩ := formF_mem L _ HF.out L[j] (List.getElem_mem hlt)
      have htl := ins_in HOK.out (List.getElem_mem hlt)
      have hmd := HM.out
      rw [mapF_drop hlt] at hmd
      have HNX : Hid (moreF E 0 (L.take (j + 1)) = s + ((txt E L[j].id).length - L[j].n)) := Lib.hid (by rw [take_snoc hlt, moreF_snoc, ← HS.out])
      have hsn := more_in HOK.out (j + 1)
      rw [HNX.out] at hsn
      clear hc
      generalize L[j] = c at *
      obtain ⟨tl, htl2⟩ : ∃ n, (txt E c.id).length = n := ⟨_, rfl⟩
      rw [htl2] at q2 htl hmd HNX hsn
      have HMD := Lib.hid hmd
      obtain ⟨wz, w1, hz, hst, kc, bc, ⟨p0, p1, p2⟩, f0, f1, f2⟩ := newRc wr c.pos c.n tl
      obtain ⟨ga, hga⟩ : ∃ g, wr.heap.size = g := ⟨_, rfl⟩
      rw [hga] at hst p0 p1 p2 f0 f1 f2 kc
      obtain ⟨y0, y1, y2⟩ := kc.cells
      have HB1 := Lib.hid (Below.after HB.out bc)
      have a1 : IntKind.i64.wrap (c.pos + c.n) = c.pos + c.n := by rw [IntKind.wrap_i64]; omega
      have a2 : IntKind.i64.wrap (c.pos + s) = c.pos + s := by rw [IntKind.wrap_i64]; omega
      have a3 : IntKind.i64.wrap (c.pos + s + (tl : Int)) = c.pos + s + (tl : Int) := by rw [IntKind.wrap_i64]; omega
      have a4 : IntKind.i64.wrap ((tl : Int) - c.n) = (tl : Int) - c.n := by rw [IntKind.wrap_i64]; omega
      have a5 : IntKind.i64.wrap (s + ((tl : Int) - c.n)) = s + ((tl : Int) - c.n) := by rw [IntKind.wrap_i64]; omega
      have a6 : IntKind.i64.wrap (y + s) = y + s := by rw [IntKind.wrap_i64]; have := HX.out; omega
      clear kc bc hsn htl hmd htl2 m1 m2 m3 hs1 hs2
      by_cases h1 : c.pos > y
      · have HE : Hid (res = (y + s, y + s, true)) := Lib.hid (by rw [← HMD.out, if_pos h1])
        go_wp2_with fail
        go_ret2
        exact ⟨by rw [HE.out]; first | rfl | exact HFN.out s, HB1.out⟩
      · by_cases h2 : y < c.pos + c.n
        · have HE : Hid (res = (c.pos + s, c.pos + s + (tl : Int), false)) := Lib.hid (by rw [← HMD.out, if_neg h1, if_pos h2])
          go_wp2_with fail
          go_ret2
          exact ⟨by rw [HE.out]; rfl, HB1.out⟩
        · have HE : Hid (mapF E y (s + ((tl : Int) - c.n)) (L.drop (j + 1)) = res) := Lib.hid (by rw [← HMD.out, if_neg h1, if_neg h2])
          go_wp2_with fail
          clear hz hst p0 p1 p2 f0 f1 f2 q0 q1 q2 y0 y1 y2 hga a1 a2 a3 a4 a5 a6 h1 h2
          go_roundw
          case rel => exact ⟨j + 1, s + ((tl : Int) - c.n), by go_num, rfl, by omega, HNX.out.symm, HE.out, HB1.out⟩
          case measure => first | (simp [intOf]; omega) | simp [intOf]
    · have hlt2 : ¬ (j : Int) < (L.length : Int) := by omega
      have HE : Hid (res = (y + s, y + s, true)) := Lib.hid (by rw [← HM.out, List.drop_of_length_le (by omega)]; rfl)
      have a6 : IntKind.i64.wrap (y + s) = y + s := by rw [IntKind.wrap_i64]; have := HX.out; omega
      go_wp2_with fail
      go_ret2
      exact ⟨by rw [HE.out]; first | rfl | exact HFN.out s, HB.out⟩
set_option maxRecDepth 100000 in
set_option maxHeartbeats 4000000 in
theorem refMapL_any {b0 : Nat} {W : World} {E : List En} {v : Value} {L : List Chg} (hR : Rcs b0 W v (L.map (rcOf E))) (hLb : L.length ≤ 1000) {len x y : Int} (hy : 0 ≤ y ∧ y < len) (hx : y = x - 1) (hok : (lngF E len L).2 = 0) :
    Calls Try.prog 22 #[.int .i64 len, v, .int .i64 x, .bool false] W fun e w' => e = .returned (.tuple #[.int .i64 (plL (mapF E y 0 L)), .bool (mapF E y 0 L).2.2]) ∧ Below W.heap.size W w' := by
  obtain ⟨o1, o2, o3, -, -⟩ := lngF_ok hok
  have HR := Lib.hid hR; have HOK := Lib.hid hok; have HF := Lib.hid o3
  obtain ⟨va, vc, rfl⟩ := hR.len
  rw [List.length_map] at hR HR ⊢
  obtain ⟨res, hres⟩ : ∃ r, mapF E y 0 L = r := ⟨_, rfl⟩
  have HRS := Lib.hid hres
  rw [hres]
  obtain ⟨hy0, hy1⟩ := hy
  have hyw : IntKind.i64.wrap (x - 1) = y := by rw [IntKind.wrap_i64]; omega
  have hyl : (y == len) = false := by simp; omega
  have hyn : ¬ y < 0 := by omega
  have HX := Lib.hid hx
  have HFN : Hid (∀ s : Int, Ending.returned (.tuple #[.int .i64 (x + s), .bool true]) = Ending.returned (.tuple #[.int .i64 (plL (y + s, y + s, true)), .bool true])) := Lib.hid (fun s => by first | rfl | (show _ = Ending.returned (.tuple #[.int .i64 (y + s + 1), .bool true]); rw [show y + s + 1 = x + s by omega]))
  clear hR hres hok o3 hx
  go_enter Try.func22, Try.ntmps22
  go_wp2_with fail
  clear hyw
  go_loopw [13, 14] (fun sv iv wr => ∃ (j : Nat) (s : Int), iv = .int .i64 j ∧ sv = .int .i64 s ∧ j ≤ L.length ∧ s = moreF E 0 (L.take j) ∧ mapF E y s (L.drop j) = res ∧ Below W.heap.size W wr) (fun _ iv _ => L.length - (intOf iv).toNat)
  case atStart => exact ⟨0, 0, rfl, rfl, Nat.zero_le _, rfl, HRS.out, Below.refl _ _⟩
  case round =>
    obtain ⟨j, s, rfl, rfl, hj, hs, hm, hB⟩ := hrel
    have HB := Lib.hid hB; have HS := Lib.hid hs; have HM := Lib.hid hm
    have hsb := more_in HOK.out j
    rw [← hs] at hsb
    obtain ⟨hs1, hs2⟩ := hsb
    clear hB hs hm
    by_cases hlt : j < L.length
    · have hlt2 : (j : Int) < (L.length : Int) := by omega
      have hlt3 : (0 : Int) ≤ (j : Int) := by omega
      obtain ⟨g, cap, hv, -, -, hc⟩ := Rcs.at HR.out hlt
      simp only [Value.slice.injEq] at hv
      obtain ⟨rfl, -, rfl⟩ := hv
      obtain ⟨q0, q1, q2⟩ := hc wr HB.out j hlt
      obtain ⟨m1, m2, m3⟩ := formF_mem L _ HF.out L[j] (List.getElem_mem hlt)
      have htl := ins_in HOK.out (List.getElem_mem hlt)
      have hmd := HM.out
      rw [mapF_drop hlt] at hmd
      have HNX : Hid (moreF E 0 (L.take (j + 1)) = s + ((txt E L[j].id).length - L[j].n)) := Lib.hid (by rw [take_snoc hlt, moreF_snoc, ← HS.out])
      have hsn := more_in HOK.out (j + 1)
      rw [HNX.out] at hsn
      clear hc
      generalize L[j] = c at *
      obtain ⟨tl, htl2⟩ : ∃ n, (txt E c.id).length = n := ⟨_, rfl⟩
      rw [htl2] at q2 htl hmd HNX hsn
      have HMD := Lib.hid hmd
      obtain ⟨wz, w1, hz, hst, kc, bc, ⟨p0, p1, p2⟩, f0, f1, f2⟩ := newRc wr c.pos c.n tl
      obtain ⟨ga, hga⟩ : ∃ g, wr.heap.size = g := ⟨_, rfl⟩
      rw [hga] at hst p0 p1 p2 f0 f1 f2 kc
      obtain ⟨y0, y1, y2⟩ := kc.cells
      have HB1 := Lib.hid (Below.after HB.out bc)
      have a1 : IntKind.i64.wrap (c.pos + c.n) = c.pos + c.n := by rw [IntKind.wrap_i64]; omega
      have a2 : IntKind.i64.wrap (c.pos + s) = c.pos + s := by rw [IntKind.wrap_i64]; omega
      have a3 : IntKind.i64.wrap (c.pos + s + (tl : Int)) = c.pos + s + (tl : Int) := by rw [IntKind.wrap_i64]; omega
      have a4 : IntKind.i64.wrap ((tl : Int) - c.n) = (tl : Int) - c.n := by rw [IntKind.wrap_i64]; omega
      have a5 : IntKind.i64.wrap (s + ((tl : Int) - c.n)) = s + ((tl : Int) - c.n) := by rw [IntKind.wrap_i64]; omega
      have a6 : IntKind.i64.wrap (x + s) = x + s := by rw [IntKind.wrap_i64]; have := HX.out; omega
      clear kc bc hsn htl hmd htl2 m1 m2 m3 hs1 hs2
      by_cases h1 : c.pos > y
      · have HE : Hid (res = (y + s, y + s, true)) := Lib.hid (by rw [← HMD.out, if_pos h1])
        go_wp2_with fail
        go_ret2
        exact ⟨by rw [HE.out]; first | rfl | exact HFN.out s, HB1.out⟩
      · by_cases h2 : y < c.pos + c.n
        · have HE : Hid (res = (c.pos + s, c.pos + s + (tl : Int), false)) := Lib.hid (by rw [← HMD.out, if_neg h1, if_pos h2])
          go_wp2_with fail
          go_ret2
          exact ⟨by rw [HE.out]; rfl, HB1.out⟩
        · have HE : Hid (mapF E y (s + ((tl : Int) - c.n)) (L.drop (j + 1)) = res) := Lib.hid (by rw [← HMD.out, if_neg h1, if_neg h2])
          go_wp2_with fail
          clear hz hst p0 p1 p2 f0 f1 f2 q0 q1 q2 y0 y1 y2 hga a1 a2 a3 a4 a5 a6 h1 h2
          go_roundw
          case rel => exact ⟨j + 1, s + ((tl : Int) - c.n), by go_num, rfl, by omega, HNX.out.symm, HE.out, HB1.out⟩
          case measure => first | (simp [intOf]; omega) | simp [intOf]
    · have hlt2 : ¬ (j : Int) < (L.length : Int) := by omega
      have HE : Hid (res = (y + s, y + s, true)) := Lib.hid (by rw [← HM.out, List.drop_of_length_le (by omega)]; rfl)
      have a6 : IntKind.i64.wrap (x + s) = x + s := by rw [IntKind.wrap_i64]; have := HX.out; omega
      go_wp2_with fail
      go_ret2
      exact ⟨by rw [HE.out]; first | rfl | exact HFN.out s, HB.out⟩
end M
end Go.Proofs.Ytplccefjljdjnaa
