import Derived.Test.YtecijaibbjafoaaDoorPlYes
namespace Go.Proofs.YtecijaibbjafoaaDoor
open Go.RowKit Go.Proofs.YtecijaibbjafoaaDoorW.PrintWords Go.Proofs.YtecijaibbjafoaaDoorW.PrintLast Go.Proofs.YtecijaibbjafoaaDoorW.PrintMore Go.Proofs.YtecijaibbjafoaaDoor.PG
theorem wrap_in (x : Int) : -9223372036854775808 ≤ wrap64 x ∧ wrap64 x ≤ 9223372036854775807 := by unfold wrap64; omega
theorem wrap_id {x : Int} (h : -9223372036854775808 ≤ x ∧ x ≤ 9223372036854775807) : wrap64 x = x := by unfold wrap64; omega
theorem gp_d (l l' : List Int) : ∀ k, -9223372036854775808 ≤ (gp l l' k).d ∧ (gp l l' k).d ≤ 9223372036854775807
  | 0 => by simp [gp, G5.zero]
  | _ + 1 => wrap_in _
/-- The planes, the result, the gauge. -/
structure PR (B : Nat) (p q r g : Array Value) (w : World) : Prop where
  pq : PQ B p q r w
  g : w.heap[B + 1 + 1 + 1]? = some (.cells g 23 (0, 0))
theorem PR.below {B : Nat} {p q r g : Array Value} {w w1 : World} (h : PR B p q r g w) (hb : Below w.heap.size w w1) : PR B p q r g w1 := ⟨h.pq.below hb, blk_below h.g hb⟩
theorem PR.size {B : Nat} {p q r g : Array Value} {w : World} (h : PR B p q r g w) : B + 3 < w.heap.size := blk_lt h.g
theorem pr_start (w : World) (p q : Array Value) : PR w.heap.size p q #[.int .i64 0, .int .i64 0, .int .i64 0, .int .i64 0, .int .i64 0] #[.int .i64 0, .int .i64 0, .int .i64 0, .int .i64 0, .int .i64 0] ((((w.alloc (.cells p 32)).alloc (.cells q 32)).alloc (.cells #[.int .i64 0, .int .i64 0, .int .i64 0, .int .i64 0, .int .i64 0] 23)).alloc (.cells #[.int .i64 0, .int .i64 0, .int .i64 0, .int .i64 0, .int .i64 0] 23)) :=
  ⟨(pq_start w p q).below (by go_grown), by have := blk_new (((w.alloc (.cells p 32)).alloc (.cells q 32)).alloc (.cells #[.int .i64 0, .int .i64 0, .int .i64 0, .int .i64 0, .int .i64 0] 23)) (.cells #[.int .i64 0, .int .i64 0, .int .i64 0, .int .i64 0, .int .i64 0] 23); simpa using this⟩
set_option maxHeartbeats 4000000 in
set_option maxRecDepth 100000 in
theorem f20_no (W H : Int) (A : Option Addr) (c : Nat) (l : List Int) (W' H' : Int) (A' : Option Addr) (c' : Nat) (l' : List Int) (w : World) (h : Hid (RW w A c l)) (h' : Hid (RW w A' c' l'))
    (hl : likeB W H l.length W' H' l'.length = false) :
    Calls Tryd.prog 20 #[.agg #[.int .i64 W, .int .i64 H, .slice A l.length c], .agg #[.int .i64 W', .int .i64 H', .slice A' l'.length c']] w fun e w' => e = .returned G5.zero.v ∧ Below w.heap.size w w' := by
  obtain ⟨wb, hwb⟩ : ∃ wb, wb = (((w.alloc (.cells #[.int .i64 W, .int .i64 H, .slice A l.length c] 32)).alloc (.cells #[.int .i64 W', .int .i64 H', .slice A' l'.length c'] 32)).alloc (.cells #[.int .i64 0, .int .i64 0, .int .i64 0, .int .i64 0, .int .i64 0] 23)).alloc (.cells #[.int .i64 0, .int .i64 0, .int .i64 0, .int .i64 0, .int .i64 0] 23) := ⟨_, rfl⟩
  have HB : Hid (Below w.heap.size w wb) := by rw [hwb]; exact Lib.hid (by go_grown)
  have HPQ : Hid (PR w.heap.size #[.int .i64 W, .int .i64 H, .slice A l.length c] #[.int .i64 W', .int .i64 H', .slice A' l'.length c'] #[.int .i64 0, .int .i64 0, .int .i64 0, .int .i64 0, .int .i64 0] #[.int .i64 0, .int .i64 0, .int .i64 0, .int .i64 0, .int .i64 0] wb) := by
    rw [hwb]; exact Lib.hid (pr_start _ _ _)
  obtain ⟨B, hB⟩ : ∃ B, B = w.heap.size := ⟨_, rfl⟩
  have hpx : wb.cell? ⟨B, 0, none⟩ = some (.int .i64 W) := by rw [hB]; exact HPQ.out.pq.cells.1
  have hld : ∀ i, i < 3 → wb.cell? ⟨B, i, none⟩ = (#[.int .i64 W, .int .i64 H, .slice A l.length c] : Array Value)[i]? ∧ wb.cell? ⟨B + 1, i, none⟩ = (#[.int .i64 W', .int .i64 H', .slice A' l'.length c'] : Array Value)[i]? := fun i hi => by rw [hB]; exact ⟨blk_cell HPQ.out.pq.p i, blk_cell HPQ.out.pq.q i⟩
  clear hpx hld
  go_enter Tryd.func20, Tryd.ntmps20
  go_wp2_with fail
  rw [← hwb, ← hB]
  rw [← hB] at HB HPQ
  have H1 : Hid (RW wb A c l) := Lib.hid (h.out.below (hB ▸ HB.out))
  have H2 : Hid (RW wb A' c' l') := Lib.hid (h'.out.below (hB ▸ HB.out))
  have HBB := Lib.hid hB
  clear hwb hB h h'
  refine (f32_any W H _ c l W' H' _ c' l' wb H1 H2).mono ?_
  rintro e w1 ⟨rfl, hx1⟩
  have HQ1 := Lib.hid (HPQ.out.below hx1)
  have HB1 := Lib.hid (HB.out.trans (hx1.mono (by have := HPQ.out.size; omega)))
  clear hx1 HPQ H1 H2 HB

  obtain ⟨r0, r1, r2, r3, r4, z0, z1, z2, z3, z4⟩ := five HQ1.out.pq.r
  obtain ⟨g0, g1, g2, g3, g4, y0, y1, y2, y3, y4⟩ := five HQ1.out.g
  go_wp2_with fail
  exact bodyPost_ret (results_cell_row rfl _ _ (B + 1 + 1) 23 #[.int .i64 0, .int .i64 0, .int .i64 0, .int .i64 0, .int .i64 0] (0, 0) _ rfl (five_put HQ1.out.pq.r) Tryd.underlying23 rfl (by kernel_rfl)) rfl ⟨rfl, five_below (by rw [← HBB.out]; exact HB1.out) (by rw [← HBB.out]; omega)⟩
set_option maxHeartbeats 8000000 in
set_option maxRecDepth 100000 in
theorem f20_yes (W H : Int) (A : Option Addr) (c : Nat) (l : List Int) (A' : Option Addr) (c' : Nat) (l' : List Int) (w : World) (h : Hid (RW w A c l)) (h' : Hid (RW w A' c' l'))
    (hr1 : likeB W H l.length W H l'.length = true) (hn : Hid (l'.length = l.length)) (hl0 : 0 < l.length) (hl1 : l.length ≤ 1048576)
    (HR : Hid (∀ x ∈ l, -9223372036854775808 ≤ x ∧ x ≤ 9223372036854775807)) (HR' : Hid (∀ x ∈ l', -9223372036854775808 ≤ x ∧ x ≤ 9223372036854775807)) :
    Calls Tryd.prog 20 #[.agg #[.int .i64 W, .int .i64 H, .slice A l.length c], .agg #[.int .i64 W, .int .i64 H, .slice A' l'.length c']] w fun e w' => e = .returned (gp l l' l.length).v ∧ Below w.heap.size w w' := by
  obtain ⟨res, hres⟩ : ∃ res, gp l l' l.length = res := ⟨_, rfl⟩
  rw [hres]
  have HRES := Lib.hid hres
  clear hres
  obtain ⟨b1, o1, rfl, hb1, hc1⟩ := h.out.cells hl0
  obtain ⟨b2, o2, rfl, hb2, hc2⟩ := h'.out.cells (by rw [hn.out]; exact hl0)
  have HC1 := Lib.hid hc1
  have HC2 := Lib.hid hc2
  clear hc1 hc2
  obtain ⟨wb, hwb⟩ : ∃ wb, wb = (((w.alloc (.cells #[.int .i64 W, .int .i64 H, .slice (some ⟨b1, o1, none⟩) l.length c] 32)).alloc (.cells #[.int .i64 W, .int .i64 H, .slice (some ⟨b2, o2, none⟩) l'.length c'] 32)).alloc (.cells #[.int .i64 0, .int .i64 0, .int .i64 0, .int .i64 0, .int .i64 0] 23)).alloc (.cells #[.int .i64 0, .int .i64 0, .int .i64 0, .int .i64 0, .int .i64 0] 23) := ⟨_, rfl⟩
  have HB : Hid (Below w.heap.size w wb) := by rw [hwb]; exact Lib.hid (by go_grown)
  have HPQ : Hid (PR w.heap.size #[.int .i64 W, .int .i64 H, .slice (some ⟨b1, o1, none⟩) l.length c] #[.int .i64 W, .int .i64 H, .slice (some ⟨b2, o2, none⟩) l'.length c'] #[.int .i64 0, .int .i64 0, .int .i64 0, .int .i64 0, .int .i64 0] #[.int .i64 0, .int .i64 0, .int .i64 0, .int .i64 0, .int .i64 0] wb) := by
    rw [hwb]; exact Lib.hid (pr_start _ _ _)
  obtain ⟨B, hB⟩ : ∃ B, B = w.heap.size := ⟨_, rfl⟩
  have hpx : wb.cell? ⟨B, 0, none⟩ = some (.int .i64 W) := by rw [hB]; exact HPQ.out.pq.cells.1
  have hld : ∀ i, i < 3 → wb.cell? ⟨B, i, none⟩ = (#[.int .i64 W, .int .i64 H, .slice (some ⟨b1, o1, none⟩) l.length c] : Array Value)[i]? ∧ wb.cell? ⟨B + 1, i, none⟩ = (#[.int .i64 W, .int .i64 H, .slice (some ⟨b2, o2, none⟩) l'.length c'] : Array Value)[i]? := fun i hi => by rw [hB]; exact ⟨blk_cell HPQ.out.pq.p i, blk_cell HPQ.out.pq.q i⟩
  clear hpx hld
  go_enter Tryd.func20, Tryd.ntmps20
  go_wp2_with fail
  rw [← hwb, ← hB]
  rw [← hB] at HB HPQ
  have H1 : Hid (RW wb (some ⟨b1, o1, none⟩) c l) := Lib.hid (h.out.below (hB ▸ HB.out))
  have H2 : Hid (RW wb (some ⟨b2, o2, none⟩) c' l') := Lib.hid (h'.out.below (hB ▸ HB.out))
  have HBB := Lib.hid hB
  clear hwb hB h h'
  refine (f32_any W H _ c l W H _ c' l' wb H1 H2).mono ?_
  rintro e w1 ⟨rfl, hx1⟩
  have HQ1 := Lib.hid (HPQ.out.below hx1)
  have HB1 := Lib.hid (HB.out.trans (hx1.mono (by have := HPQ.out.size; omega)))
  clear hx1 HPQ H1 H2 HB

  rw [← HBB.out] at hb1 hb2
  obtain ⟨n, hn0⟩ : ∃ n, n = l.length := ⟨_, rfl⟩
  obtain ⟨p0, p1, p2, q0, q1, q2⟩ := HQ1.out.pq.cells
  rw [hn.out, ← hn0]
  rw [hn.out] at hr1
  rw [← hn0] at p2 hl0 hl1 hr1
  have HN := Lib.hid hn0
  clear hn0 p0 p1 q0 q1 q2
  go_wp2_with fail
  clear p2
  obtain ⟨gb, hgb⟩ : ∃ gb, B + 1 + 1 + 1 = gb := ⟨_, rfl⟩
  rw [hgb]
  have HG : Hid (GB w1 gb .zero) := Lib.hid (by rw [← hgb]; exact HQ1.out.g)
  have HQ : Hid (PQ B _ _ _ w1) := Lib.hid HQ1.out.pq
  have hgB : B + 2 < gb := by omega
  clear hgb HQ1
  go_loopw [16] (fun v16 wr => ∃ k : Nat, v16 = .int .i64 k ∧ k ≤ n ∧ Hid (Below gb w1 wr) ∧ Hid (GB wr gb (gp l l' k))) (fun v16 _ => n - (intOf v16).toNat)
  case atStart => exact ⟨0, rfl, by omega, Lib.hid (Below.refl _ _), HG⟩
  case round =>
    obtain ⟨k, rfl, hk, HBL, HGK⟩ := hrel
    by_cases hlt : k < n
    · have hk1 : wr.cell? ⟨b1, o1 + k, none⟩ = some (.int .i64 (l.getD k 0)) := by
        rw [HBL.out.cell (p := ⟨b1, o1 + k, none⟩) (by show b1 < gb; omega), HB1.out.cell (p := ⟨b1, o1 + k, none⟩) hb1]
        exact HC1.out k (by have := HN.out; omega)
      have hk2 : wr.cell? ⟨b2, o2 + k, none⟩ = some (.int .i64 (l'.getD k 0)) := by
        rw [HBL.out.cell (p := ⟨b2, o2 + k, none⟩) (by show b2 < gb; omega), HB1.out.cell (p := ⟨b2, o2 + k, none⟩) hb2]
        exact HC2.out k (by have := HN.out; have := hn.out; omega)
      have HQ4 := Lib.hid (HQ.out.below' hgB HBL.out)
      have p2 := HQ4.out.cells.2.2.1
      have q2 := HQ4.out.cells.2.2.2.2.2
      have x1 := range_at HR.out k (by have := HN.out; omega)
      have x2 := range_at HR'.out k (by have := HN.out; have := hn.out; omega)
      have HAP := Lib.hid (fun w => f33_any (l.getD k 0) (l'.getD k 0) x1 x2 w)
      clear x1 x2
      have dle := apn_le (l.getD k 0) (l'.getD k 0)
      obtain ⟨x, hx⟩ : ∃ x, l.getD k 0 = x := ⟨_, rfl⟩
      obtain ⟨y, hy⟩ : ∃ y, l'.getD k 0 = y := ⟨_, rfl⟩
      obtain ⟨d, hd⟩ : ∃ d, apn x y = d := ⟨_, rfl⟩
      rw [hx] at hk1
      rw [hy] at hk2
      rw [hx, hy, hd] at HAP
      rw [hx, hy, hd] at dle
      have HSTEP : Hid (gp l l' (k + 1) = (gp l l' k).step d) := Lib.hid (by rw [gp, hx, hy, hd])
      clear hx hy hd
      obtain ⟨d0, d1⟩ := dle
      rw [show l'.length = n by rw [hn.out]; exact HN.out.symm] at q2
      rw [← HN.out] at p2
      have hkn : (k : Int) < n := by omega
      have hk0 : (0 : Int) ≤ k := by omega
      go_wp2_with fail
      go_quiet ((go_at_call 33; exact Calls.quiet_of ((HAP.out _).mono fun _ _ z => ⟨z.1, z.2.out⟩)))
      have HK3 := HGK
      have HBL3 := HBL
      clear hk1 hk2 p2 q2 HQ4 HGK HBL HAP
      have hgd := Lib.hid (gp_d l l' k)
      obtain ⟨g, hg⟩ : ∃ g, gp l l' k = g := ⟨_, rfl⟩
      rw [hg] at HK3 HSTEP hgd
      clear hg
      have e0 : 0 ≤ d * d := Int.mul_nonneg d0 d0
      have e1 : d * d ≤ 16777216 * 16777216 := Int.mul_le_mul d1 d1 d0 (by omega)
      obtain ⟨g0, g1, g2, g3, g4, y0, y1, y2, y3, y4⟩ := five HK3.out
      obtain ⟨gm, hgm⟩ : ∃ gm, g.m = gm := ⟨_, rfl⟩
      rw [hgm] at g2
      have HGM := Lib.hid hgm
      clear hgm
      by_cases hd0 : 0 < d <;> by_cases hdm : gm < d
      · have HST : Hid (gp l l' (k + 1) = ⟨wrap64 (g.c + 1), wrap64 (g.d + 1), d, wrap64 (g.s + d), wrap64 (g.q + d * d)⟩) := Lib.hid (by rw [HSTEP.out, G5.step, if_pos hd0, HGM.out, mx, if_pos hdm])
        clear HSTEP
        obtain ⟨dd, hdd⟩ : ∃ dd, d * d = dd := ⟨_, rfl⟩
        rw [hdd] at e0 e1 HST
        go_wp2_with fail
        go_roundw
        case rel => exact ⟨k + 1, by go_num, by omega, Lib.hid ((((((belowN' HBL3.out _).setCell (p := ⟨gb, 0, none⟩) (Nat.le_refl _) _).setCell (p := ⟨gb, 1, none⟩) (Nat.le_refl _) _).setCell (p := ⟨gb, 2, none⟩) (Nat.le_refl _) _).setCell (p := ⟨gb, 3, none⟩) (Nat.le_refl _) _).setCell (p := ⟨gb, 4, none⟩) (Nat.le_refl _) _), Lib.hid (by rw [HST.out]; exact five_put (blk_drewN HK3.out _))⟩
        case measure => simp [intOf]; omega
      · have HST : Hid (gp l l' (k + 1) = ⟨wrap64 (g.c + 1), wrap64 (g.d + 1), g.m, wrap64 (g.s + d), wrap64 (g.q + d * d)⟩) := Lib.hid (by rw [HSTEP.out, G5.step, if_pos hd0, HGM.out, mx, if_neg hdm])
        clear HSTEP
        obtain ⟨dd, hdd⟩ : ∃ dd, d * d = dd := ⟨_, rfl⟩
        rw [hdd] at e0 e1 HST
        go_wp2_with fail
        go_roundw
        case rel => exact ⟨k + 1, by go_num, by omega, Lib.hid (((((belowN' HBL3.out _).setCell (p := ⟨gb, 0, none⟩) (Nat.le_refl _) _).setCell (p := ⟨gb, 1, none⟩) (Nat.le_refl _) _).setCell (p := ⟨gb, 3, none⟩) (Nat.le_refl _) _).setCell (p := ⟨gb, 4, none⟩) (Nat.le_refl _) _), Lib.hid (by rw [HST.out]; exact blk_put (blk_put (blk_put (blk_put (blk_drewN HK3.out _) 0 _ rfl) 1 _ rfl) 3 _ rfl) 4 _ rfl)⟩
        case measure => simp [intOf]; omega
      · have HST : Hid (gp l l' (k + 1) = ⟨wrap64 (g.c + 1), g.d, d, wrap64 (g.s + d), wrap64 (g.q + d * d)⟩) := Lib.hid (by rw [HSTEP.out, G5.step, if_neg hd0, HGM.out, mx, if_pos hdm, Int.add_zero, wrap_id hgd.out])
        clear HSTEP
        obtain ⟨dd, hdd⟩ : ∃ dd, d * d = dd := ⟨_, rfl⟩
        rw [hdd] at e0 e1 HST
        go_wp2_with fail
        go_roundw
        case rel => exact ⟨k + 1, by go_num, by omega, Lib.hid (((((belowN' HBL3.out _).setCell (p := ⟨gb, 0, none⟩) (Nat.le_refl _) _).setCell (p := ⟨gb, 2, none⟩) (Nat.le_refl _) _).setCell (p := ⟨gb, 3, none⟩) (Nat.le_refl _) _).setCell (p := ⟨gb, 4, none⟩) (Nat.le_refl _) _), Lib.hid (by rw [HST.out]; exact blk_put (blk_put (blk_put (blk_put (blk_drewN HK3.out _) 0 _ rfl) 2 _ rfl) 3 _ rfl) 4 _ rfl)⟩
        case measure => simp [intOf]; omega
      · have HST : Hid (gp l l' (k + 1) = ⟨wrap64 (g.c + 1), g.d, g.m, wrap64 (g.s + d), wrap64 (g.q + d * d)⟩) := Lib.hid (by rw [HSTEP.out, G5.step, if_neg hd0, HGM.out, mx, if_neg hdm, Int.add_zero, wrap_id hgd.out])
        clear HSTEP
        obtain ⟨dd, hdd⟩ : ∃ dd, d * d = dd := ⟨_, rfl⟩
        rw [hdd] at e0 e1 HST
        go_wp2_with fail
        go_roundw
        case rel => exact ⟨k + 1, by go_num, by omega, Lib.hid ((((belowN' HBL3.out _).setCell (p := ⟨gb, 0, none⟩) (Nat.le_refl _) _).setCell (p := ⟨gb, 3, none⟩) (Nat.le_refl _) _).setCell (p := ⟨gb, 4, none⟩) (Nat.le_refl _) _), Lib.hid (by rw [HST.out]; exact blk_put (blk_put (blk_put (blk_drewN HK3.out _) 0 _ rfl) 3 _ rfl) 4 _ rfl)⟩
        case measure => simp [intOf]; omega
    · obtain rfl : k = n := by omega
      rw [show gp l l' k = res by rw [HN.out]; exact HRES.out] at HGK
      obtain ⟨g0, g1, g2, g3, g4, y0, y1, y2, y3, y4⟩ := five HGK.out
      have HQ4 := Lib.hid (HQ.out.below' hgB HBL.out)
      obtain ⟨r0, r1, r2, r3, r4, z0, z1, z2, z3, z4⟩ := five HQ4.out.r
      go_wp2_with fail
      exact bodyPost_ret (results_cell_row rfl _ _ (B + 1 + 1) 23 #[.int .i64 res.c, .int .i64 res.d, .int .i64 res.m, .int .i64 res.s, .int .i64 res.q] (0, 0) _ rfl (five_put HQ4.out.r) Tryd.underlying23 rfl (by kernel_rfl)) rfl ⟨rfl, five_below (by rw [← HBB.out]; exact HB1.out.trans (HBL.out.mono (by omega))) (by rw [← HBB.out]; omega)⟩
theorem f20_any (W H : Int) (A : Option Addr) (c : Nat) (l : List Int) (W' H' : Int) (A' : Option Addr) (c' : Nat) (l' : List Int) (w : World) (h : Hid (RW w A c l)) (h' : Hid (RW w A' c' l'))
    (HR : Hid (∀ x ∈ l, -9223372036854775808 ≤ x ∧ x ≤ 9223372036854775807)) (HR' : Hid (∀ x ∈ l', -9223372036854775808 ≤ x ∧ x ≤ 9223372036854775807)) :
    Calls Tryd.prog 20 #[.agg #[.int .i64 W, .int .i64 H, .slice A l.length c], .agg #[.int .i64 W', .int .i64 H', .slice A' l'.length c']] w fun e w' => e = .returned (gpl W H l W' H' l').v ∧ Below w.heap.size w w' := by
  unfold gpl
  cases hl : likeB W H l.length W' H' l'.length with
  | false => exact f20_no W H A c l W' H' A' c' l' w h h' hl
  | true =>
    have hl2 := hl
    obtain ⟨h1, h2, rfl, rfl, h3, h4, h5⟩ := like_parts hl
    exact f20_yes W H A c l A' c' l' w h h' hl2 (Lib.hid h3.symm) h4 h5 HR HR'
end Go.Proofs.YtecijaibbjafoaaDoor
