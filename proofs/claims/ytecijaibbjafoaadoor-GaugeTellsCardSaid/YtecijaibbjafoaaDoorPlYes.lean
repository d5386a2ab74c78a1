import Derived.Test.YtecijaibbjafoaaDoorPlNo
namespace Go.Proofs.YtecijaibbjafoaaDoor
open Go.RowKit Go.Proofs.YtecijaibbjafoaaDoorW.PrintWords Go.Proofs.YtecijaibbjafoaaDoorW.PrintLast Go.Proofs.YtecijaibbjafoaaDoorW.PrintMore Go.Proofs.YtecijaibbjafoaaDoor.PG
theorem RW.cells {w : World} {A : Option Addr} {c : Nat} {l : List Int} (h : RW w A c l) (hl : 0 < l.length) : ∃ b o, A = some ⟨b, o, none⟩ ∧ b < w.heap.size ∧ ∀ i, i < l.length → w.cell? ⟨b, o + i, none⟩ = some (.int .i64 (l.getD i 0)) := by
  obtain ⟨b, o, e, hb, _⟩ := h.at_ 0 hl
  subst e
  refine ⟨b, o, rfl, hb, fun i hi => ?_⟩
  obtain ⟨b', o', e, _, hc⟩ := h.at_ i hi
  injection e with e
  injection e with e1 e2
  subst e1; subst e2
  exact hc
theorem five_cells {w : World} {gb : Nat} {g : G5} (h : w.heap[gb]? = some (.cells #[.int .i64 g.c, .int .i64 g.d, .int .i64 g.m, .int .i64 g.s, .int .i64 g.q] 23 (0, 0))) : w.heap[gb]? = some (.cells #[.int .i64 g.c, .int .i64 g.d, .int .i64 g.m, .int .i64 g.s, .int .i64 g.q] 23 (0, 0)) := h
abbrev GB (w : World) (gb : Nat) (g : G5) : Prop := w.heap[gb]? = some (.cells #[.int .i64 g.c, .int .i64 g.d, .int .i64 g.m, .int .i64 g.s, .int .i64 g.q] 23 (0, 0))
theorem rt_pos {W H : Int} {n : Nat} (h : rtB W H n = true) : 0 < n ∧ n ≤ 1048576 := by
  unfold rtB at h
  simp only [Bool.and_eq_true, decide_eq_true_eq, beq_iff_eq] at h
  obtain ⟨h1, h2, h3, h4, h5⟩ := h
  have a : 1 * 1 ≤ W * H := Int.mul_le_mul h1 h3 (by omega) (by omega)
  have b : W * H ≤ 1024 * 1024 := Int.mul_le_mul h2 h4 (by omega) (by omega)
  unfold wrap64 at h5
  omega
theorem like_parts {W H W' H' : Int} {n n' : Nat} (h : likeB W H n W' H' n' = true) : rtB W H n = true ∧ rtB W' H' n' = true ∧ W = W' ∧ H = H' ∧ n = n' ∧ 0 < n ∧ n ≤ 1048576 := by
  unfold likeB at h
  simp only [Bool.and_eq_true, decide_eq_true_eq, beq_iff_eq] at h
  obtain ⟨h1, h2, rfl, rfl⟩ := h
  refine ⟨h1, h2, rfl, rfl, ?_, rt_pos h1⟩
  unfold rtB at h1 h2
  simp only [Bool.and_eq_true, decide_eq_true_eq, beq_iff_eq] at h1 h2
  omega
theorem range_at {l : List Int} (HR : ∀ x ∈ l, -9223372036854775808 ≤ x ∧ x ≤ 9223372036854775807) (i : Nat) (hi : i < l.length) : -9223372036854775808 ≤ l.getD i 0 ∧ l.getD i 0 ≤ 9223372036854775807 := by
  rw [List.getD_eq_getElem?_getD, List.getElem?_eq_getElem hi]
  exact HR _ (List.getElem_mem hi)
theorem f23_c (a b r : G5) (h : a.join b = r) (w : World) : Calls Tryd.prog 23 #[a.v, b.v] w fun e w' => e = .returned (.agg #[.int .i64 r.c, .int .i64 r.d, .int .i64 r.m, .int .i64 r.s, .int .i64 r.q]) ∧ Below w.heap.size w w' := by
  subst h; exact f23_any a b w
set_option maxHeartbeats 4000000 in
set_option maxRecDepth 100000 in
theorem f16_yes (W H : Int) (A : Option Addr) (c : Nat) (l : List Int) (A' : Option Addr) (c' : Nat) (l' : List Int) (w : World) (h : Hid (RW w A c l)) (h' : Hid (RW w A' c' l'))
    (hr1 : rtB W H l.length = true) (hr2 : rtB W H l'.length = true) (hn : Hid (l'.length = l.length)) (hl0 : 0 < l.length) (hl1 : l.length ≤ 1048576)
    (HR : Hid (∀ x ∈ l, -9223372036854775808 ≤ x ∧ x ≤ 9223372036854775807)) (HR' : Hid (∀ x ∈ l', -9223372036854775808 ≤ x ∧ x ≤ 9223372036854775807)) :
    Calls Tryd.prog 16 #[.agg #[.int .i64 W, .int .i64 H, .slice A l.length c], .agg #[.int .i64 W, .int .i64 H, .slice A' l'.length c']] w fun e w' => e = .returned (gp l l' l.length).v ∧ Below w.heap.size w w' := by
  obtain ⟨res, hres⟩ : ∃ res, gp l l' l.length = res := ⟨_, rfl⟩
  rw [hres]
  have HRES := Lib.hid hres
  clear hres
  obtain ⟨b1, o1, rfl, hb1, hc1⟩ := h.out.cells hl0
  obtain ⟨b2, o2, rfl, hb2, hc2⟩ := h'.out.cells (by rw [hn.out]; exact hl0)
  have HC1 := Lib.hid hc1
  have HC2 := Lib.hid hc2
  clear hc1 hc2
  obtain ⟨wb, hwb⟩ : ∃ wb, wb = ((w.alloc (.cells #[.int .i64 W, .int .i64 H, .slice (some ⟨b1, o1, none⟩) l.length c] 32)).alloc (.cells #[.int .i64 W, .int .i64 H, .slice (some ⟨b2, o2, none⟩) l'.length c'] 32)).alloc (.cells #[.int .i64 0, .int .i64 0, .int .i64 0, .int .i64 0, .int .i64 0] 23) := ⟨_, rfl⟩
  have HB : Hid (Below w.heap.size w wb) := by rw [hwb]; exact Lib.hid (by go_grown)
  have HPQ : Hid (PQ w.heap.size #[.int .i64 W, .int .i64 H, .slice (some ⟨b1, o1, none⟩) l.length c] #[.int .i64 W, .int .i64 H, .slice (some ⟨b2, o2, none⟩) l'.length c'] #[.int .i64 0, .int .i64 0, .int .i64 0, .int .i64 0, .int .i64 0] wb) := by
    rw [hwb]; exact Lib.hid (pq_start _ _ _)
  obtain ⟨B, hB⟩ : ∃ B, B = w.heap.size := ⟨_, rfl⟩
  go_enter Tryd.func16, Tryd.ntmps16
  go_wp2_with fail
  rw [← hwb, ← hB]
  rw [← hB] at HB HPQ hb1 hb2
  have H1 : Hid (RW wb (some ⟨b1, o1, none⟩) c l) := Lib.hid (h.out.below (hB ▸ HB.out))
  have H2 : Hid (RW wb (some ⟨b2, o2, none⟩) c' l') := Lib.hid (h'.out.below (hB ▸ HB.out))
  have HBB := Lib.hid hB
  clear hwb hB h h'
  refine (f30_any W H _ c l wb H1).mono ?_
  rintro e w1 ⟨rfl, hx1⟩
  have HQ1 := Lib.hid (HPQ.out.below hx1)
  have HS1 := Lib.hid (H2.out.below hx1)
  have HB1 := Lib.hid (HB.out.trans (hx1.mono (by have := HPQ.out.size; omega)))
  clear hx1 HPQ H1 H2 HB
  obtain ⟨p0, p1, p2, q0, q1, q2⟩ := HQ1.out.cells
  go_wp2_with fail
  refine (f30_any W H _ c' l' w1 HS1).mono ?_
  rintro e w2 ⟨rfl, hx2⟩
  have HQ2 := Lib.hid (HQ1.out.below hx2)
  have HB2 := Lib.hid (HB1.out.trans (hx2.mono (by have := HQ1.out.size; omega)))
  clear hx2 HQ1 HB1 HS1 p0 p1 p2 q0 q1 q2
  obtain ⟨p0, p1, p2, q0, q1, q2⟩ := HQ2.out.cells
  have hW : (W != W) = false := by simp
  have hH : (H != H) = false := by simp
  obtain ⟨wl, hwl⟩ : ∃ wl, wl = w2.alloc (.cells #[.int .i64 0, .int .i64 0, .int .i64 0, .int .i64 0, .int .i64 0] 23) := ⟨_, rfl⟩
  obtain ⟨gb, hgb⟩ : ∃ gb, gb = w2.heap.size := ⟨_, rfl⟩
  have HG : Hid (GB wl gb .zero) := Lib.hid (by rw [hwl, hgb]; exact blk_new _ _)
  have hgB : B + 2 < gb := by rw [hgb]; exact HQ2.out.size
  have HQ3 : Hid (PQ B #[.int .i64 W, .int .i64 H, .slice (some ⟨b1, o1, none⟩) l.length c] #[.int .i64 W, .int .i64 H, .slice (some ⟨b2, o2, none⟩) l'.length c'] #[.int .i64 0, .int .i64 0, .int .i64 0, .int .i64 0, .int .i64 0] wl) := by
    rw [hwl]; exact Lib.hid (HQ2.out.below (by go_grown))
  have HB3 : Hid (Below B w wl) := by
    rw [hwl]; exact Lib.hid (HB2.out.alloc (by have := HQ2.out.size; omega) _)
  have p3 : (w2.alloc (.cells #[.int .i64 0, .int .i64 0, .int .i64 0, .int .i64 0, .int .i64 0] 23)).cell? ⟨B, 2, none⟩ = some (.slice (some ⟨b1, o1, none⟩) l.length c) := by
    rw [← hwl]; exact HQ3.out.cells.2.2.1
  rw [hn.out] at hr2
  obtain ⟨n, hn0⟩ : ∃ n, n = l.length := ⟨_, rfl⟩
  rw [hn.out, ← hn0]
  rw [← hn0] at p3 hl0 hl1 hr1 hr2
  have HN := Lib.hid hn0
  have HWL := Lib.hid hwl
  have HGB := Lib.hid hgb
  clear hn0 hwl hgb p2 q2
  go_wp2_with fail
  rw [← HWL.out, ← HGB.out]
  clear HWL HGB p0 p1 p3 q0 q1 HQ2 HB2
  go_loopw [36] (fun v36 wr => ∃ k : Nat, v36 = .int .i64 k ∧ k ≤ n ∧ Hid (Below gb wl wr) ∧ Hid (GB wr gb (gp l l' k))) (fun v36 _ => n - (intOf v36).toNat)
  case atStart => exact ⟨0, rfl, by omega, Lib.hid (Below.refl _ _), HG⟩
  case round =>
    obtain ⟨k, rfl, hk, HBL, HGK⟩ := hrel
    by_cases hlt : k < n
    · have hk1 : wr.cell? ⟨b1, o1 + k, none⟩ = some (.int .i64 (l.getD k 0)) := by
        rw [HBL.out.cell (p := ⟨b1, o1 + k, none⟩) (by show b1 < gb; omega), HB3.out.cell (p := ⟨b1, o1 + k, none⟩) hb1]
        exact HC1.out k (by have := HN.out; omega)
      have hk2 : wr.cell? ⟨b2, o2 + k, none⟩ = some (.int .i64 (l'.getD k 0)) := by
        rw [HBL.out.cell (p := ⟨b2, o2 + k, none⟩) (by show b2 < gb; omega), HB3.out.cell (p := ⟨b2, o2 + k, none⟩) hb2]
        exact HC2.out k (by have := HN.out; have := hn.out; omega)
      have HQ4 := Lib.hid (HQ3.out.below' hgB HBL.out)
      have q2 := HQ4.out.cells.2.2.2.2.2
      obtain ⟨g0, g1, g2, g3, g4, y0, y1, y2, y3, y4⟩ := five HGK.out
      have x1 := range_at HR.out k (by have := HN.out; omega)
      have x2 := range_at HR'.out k (by have := HN.out; have := hn.out; omega)
      have HAP := Lib.hid (fun w => f31_any (l.getD k 0) (l'.getD k 0) x1 x2 w)
      clear x1 x2
      have dle := apn_le (l.getD k 0) (l'.getD k 0)
      obtain ⟨x, hx⟩ : ∃ x, l.getD k 0 = x := ⟨_, rfl⟩
      obtain ⟨y, hy⟩ : ∃ y, l'.getD k 0 = y := ⟨_, rfl⟩
      obtain ⟨d, hd⟩ : ∃ d, apn x y = d := ⟨_, rfl⟩
      rw [hx] at hk1
      rw [hy] at hk2
      rw [hx, hy, hd] at HAP
      rw [hx, hy, hd] at dle
      have HSTEP : Hid (gp l l' (k + 1) = (gp l l' k).step d) := Lib.hid (by rw [gp, hx, hy, hd])
      clear hx hy hd
      obtain ⟨d0, d1⟩ := dle
      have e0 : 0 ≤ d * d := Int.mul_nonneg d0 d0
      have e1 : d * d ≤ 16777216 * 16777216 := Int.mul_le_mul d1 d1 d0 (by omega)
      obtain ⟨dd, hdd⟩ : ∃ dd, d * d = dd := ⟨_, rfl⟩
      rw [hdd] at e0 e1
      rw [show l'.length = n by rw [hn.out]; exact HN.out.symm] at q2
      go_wp2_with fail
      refine (HAP.out _).mono ?_
      rintro e w3 ⟨rfl, hdr⟩
      have HK3 : Hid (GB w3 gb (gp l l' k)) := Lib.hid (blk_below HGK.out hdr.below)
      have HBL3 := Lib.hid (HBL.out.trans (hdr.below.mono (by have := blk_lt HGK.out; omega)))
      clear hdr g0 g1 g2 g3 g4 y0 y1 y2 y3 y4 hk1 hk2 q2 HQ4 HGK HBL HAP
      obtain ⟨g, hg⟩ : ∃ g, gp l l' k = g := ⟨_, rfl⟩
      rw [hg] at HK3 HSTEP
      clear hg
      obtain ⟨g0, g1, g2, g3, g4, y0, y1, y2, y3, y4⟩ := five HK3.out
      have hgs := blk_lt HK3.out
      by_cases hd0 : 0 < d
      · obtain ⟨r, hr⟩ : ∃ r, g.join ⟨1, 1, d, d, dd⟩ = r := ⟨_, rfl⟩
        have HJ := Lib.hid (fun w => f23_c g ⟨1, 1, d, d, dd⟩ r hr w)
        have HST : Hid (gp l l' (k + 1) = r) := Lib.hid (by rw [HSTEP.out, ← hr, G5.step, G5.join, if_pos hd0, hdd])
        clear hr HSTEP
        go_wp2_with fail
        refine (HJ.out _).mono ?_
        rintro e w5 ⟨rfl, hb5⟩
        have HG5 : Hid (GB w5 gb g) := Lib.hid (blk_below (blk_alloc HK3.out _) hb5)
        have HBL5 : Hid (Below gb wl w5) := Lib.hid ((HBL3.out.alloc (by omega) _).trans (hb5.mono (by simp; omega)))
        clear g0 g1 g2 g3 g4 y0 y1 y2 y3 y4 hb5 HK3 HBL3 HJ
        obtain ⟨g0, g1, g2, g3, g4, y0, y1, y2, y3, y4⟩ := five HG5.out
        go_wp2_with fail
        go_roundw
        case rel => exact ⟨k + 1, by go_num, by omega, Lib.hid (five_below HBL5.out (Nat.le_refl _)), Lib.hid (by rw [HST.out]; exact five_put HG5.out)⟩
        case measure => simp [intOf]; omega
      · obtain rfl : d = 0 := by omega
        obtain ⟨r, hr⟩ : ∃ r, g.join ⟨1, 0, 0, 0, 0⟩ = r := ⟨_, rfl⟩
        have HJ := Lib.hid (fun w => f23_c g ⟨1, 0, 0, 0, 0⟩ r hr w)
        have HST : Hid (gp l l' (k + 1) = r) := Lib.hid (by rw [HSTEP.out, ← hr, G5.step, G5.join, if_neg hd0]; rfl)
        obtain rfl : dd = 0 := by rw [← hdd]; rfl
        clear hr HSTEP
        go_wp2_with fail
        refine (HJ.out _).mono ?_
        rintro e w5 ⟨rfl, hb5⟩
        have HG5 : Hid (GB w5 gb g) := Lib.hid (blk_below (blk_alloc HK3.out _) hb5)
        have HBL5 : Hid (Below gb wl w5) := Lib.hid ((HBL3.out.alloc (by omega) _).trans (hb5.mono (by simp; omega)))
        clear g0 g1 g2 g3 g4 y0 y1 y2 y3 y4 hb5 HK3 HBL3 HJ
        obtain ⟨g0, g1, g2, g3, g4, y0, y1, y2, y3, y4⟩ := five HG5.out
        go_wp2_with fail
        go_roundw
        case rel => exact ⟨k + 1, by go_num, by omega, Lib.hid (five_below HBL5.out (Nat.le_refl _)), Lib.hid (by rw [HST.out]; exact five_put HG5.out)⟩
        case measure => simp [intOf]; omega
    · obtain rfl : k = n := by omega
      rw [show gp l l' k = res by rw [HN.out]; exact HRES.out] at HGK
      obtain ⟨g0, g1, g2, g3, g4, y0, y1, y2, y3, y4⟩ := five HGK.out
      have HQ4 := Lib.hid (HQ3.out.below' hgB HBL.out)
      obtain ⟨r0, r1, r2, r3, r4, z0, z1, z2, z3, z4⟩ := five HQ4.out.r
      go_wp2_with fail
      exact bodyPost_ret (results_cell_row rfl _ _ (B + 1 + 1) 23 #[.int .i64 res.c, .int .i64 res.d, .int .i64 res.m, .int .i64 res.s, .int .i64 res.q] (0, 0) _ rfl (five_put HQ4.out.r) Tryd.underlying23 rfl (by kernel_rfl)) rfl ⟨rfl, five_below (by rw [← HBB.out]; exact HB3.out.trans (HBL.out.mono (by omega))) (by rw [← HBB.out]; omega)⟩
theorem f16_any (W H : Int) (A : Option Addr) (c : Nat) (l : List Int) (W' H' : Int) (A' : Option Addr) (c' : Nat) (l' : List Int) (w : World) (h : Hid (RW w A c l)) (h' : Hid (RW w A' c' l'))
    (HR : Hid (∀ x ∈ l, -9223372036854775808 ≤ x ∧ x ≤ 9223372036854775807)) (HR' : Hid (∀ x ∈ l', -9223372036854775808 ≤ x ∧ x ≤ 9223372036854775807)) :
    Calls Tryd.prog 16 #[.agg #[.int .i64 W, .int .i64 H, .slice A l.length c], .agg #[.int .i64 W', .int .i64 H', .slice A' l'.length c']] w fun e w' => e = .returned (gpl W H l W' H' l').v ∧ Below w.heap.size w w' := by
  unfold gpl
  cases hl : likeB W H l.length W' H' l'.length with
  | false => exact f16_no W H A c l W' H' A' c' l' w h h' hl
  | true =>
    obtain ⟨h1, h2, rfl, rfl, h3, h4, h5⟩ := like_parts hl
    exact f16_yes W H A c l A' c' l' w h h' h1 h2 (Lib.hid h3.symm) h4 h5 HR HR'
end Go.Proofs.YtecijaibbjafoaaDoor
