import Derived.Test.YtecijaibbjafoaaDoorHoldsP
import Derived.Test.YtecijaibbjafoaaDoorCntLaw
namespace Go.Proofs.YtecijaibbjafoaaDoor
open Go.RowKit Go.Proofs.YtecijaibbjafoaaDoorW.PrintWords Go.Proofs.YtecijaibbjafoaaDoorW.PrintLast Go.Proofs.YtecijaibbjafoaaDoorW.PrintMore Go.Proofs.YtecijaibbjafoaaDoor.PG
def f5_T : Bool × List (List Nat × List Nat) := (true, [([], []), ([], []), ([0, 1], [0, 1]), ([], []), ([], []), ([3, 4, 2], [3, 4]), ([], []), ([], []), ([6, 7, 5], [6, 7]), ([], []), ([], []), ([], []), ([9, 2, 8, 0, 1, 2, 9, 10, 11], [2, 9]), ([10, 5, 12, 0, 1, 2, 3, 4, 5, 9, 10, 11, 12], [5, 10]), ([11, 8, 13, 0, 1, 2, 3, 4, 5, 6, 7, 8, 9, 10, 11, 12, 13], [8, 11])])
def f5_B : List Nat := [0, 0, 3, 0, 0, 31, 0, 0, 255, 0, 0, 0, 4095, 8191, 16383]
theorem f5_tab : rtab .any (opsOf Tryd.f5 5) = f5_T := by kernel_rfl
theorem f5_bits : waitsOk f5_T.2 f5_B = true := by kernel_rfl
theorem five_far {w : World} {g g' : Nat} {o : Obj} {b0 b1 b2 b3 b4 : Value} (h : w.heap[g]? = some o) (hne : g ≠ g') :
    (((((w.setCell ⟨g', 0, none⟩ b0).setCell ⟨g', 1, none⟩ b1).setCell ⟨g', 2, none⟩ b2).setCell ⟨g', 3, none⟩ b3).setCell ⟨g', 4, none⟩ b4).heap[g]? = some o := by
  rw [Below.heap_setCell _ _ _ _ hne, Below.heap_setCell _ _ _ _ hne, Below.heap_setCell _ _ _ _ hne, Below.heap_setCell _ _ _ _ hne, Below.heap_setCell _ _ _ _ hne]
  exact h
theorem ok_rw {w : World} {p : Pn} (h : p.ok w) : RW w p.A p.c p.l := h.1
set_option maxHeartbeats 16000000 in
set_option maxRecDepth 100000 in
theorem f5_any (p q : Pn) (bn : Int) (hbn : 0 ≤ bn ∧ bn ≤ 255) (w : World) (hp : Hid (p.ok w)) (hq : Hid (q.ok w)) (ht : Hid (Tab w)) :
    Calls Tryd.prog 5 #[.agg #[.int .i64 p.W, .int .i64 p.H, .slice p.A p.l.length p.c], .agg #[.int .i64 q.W, .int .i64 q.H, .slice q.A q.l.length q.c], .int .u8 bn] w fun e w' => e = .returned (.bool true) ∧ Below w.heap.size w w' := by
  obtain ⟨wb, hwb⟩ : ∃ wb, wb = (w.alloc (.cells #[.int .i64 p.W, .int .i64 p.H, .slice p.A p.l.length p.c] 32)).alloc (.cells #[.int .i64 q.W, .int .i64 q.H, .slice q.A q.l.length q.c] 32) := ⟨_, rfl⟩
  obtain ⟨B, hB⟩ : ∃ B, B = w.heap.size := ⟨_, rfl⟩
  have HL : Hid (wb.heap[B]? = some (.cells #[.int .i64 p.W, .int .i64 p.H, .slice p.A p.l.length p.c] 32 (0, 0)) ∧ wb.heap[B + 1]? = some (.cells #[.int .i64 q.W, .int .i64 q.H, .slice q.A q.l.length q.c] 32 (0, 0))) := by rw [hwb, hB]; exact Lib.hid ⟨blk_alloc (blk_new _ _) _, blk_at0 _ _ _ (by simp)⟩
  have HB : Hid (Below w.heap.size w wb) := by rw [hwb]; exact Lib.hid (by go_grown)
  have HWB := Lib.hid hwb
  have HBB := Lib.hid hB
  clear hwb hB
  go_enter Tryd.func5, Tryd.ntmps5
  go_wp2_with fail
  rw [← HWB.out, ← HBB.out]
  clear HWB
  refine (f7_any wb (Lib.hid (ht.out.below HB.out))).mono ?_
  rintro e w1 ⟨rfl, hb1⟩
  have HB1 := Lib.hid (HB.out.trans (hb1.mono HB.out.size))
  have HL1 : Hid (w1.heap[B]? = _ ∧ w1.heap[B + 1]? = _) := Lib.hid ⟨blk_below HL.out.1 hb1, blk_below HL.out.2 hb1⟩
  clear HB HL hb1
  obtain ⟨c0, c1, c2⟩ := three HL1.out.1
  obtain ⟨e0, e1, e2⟩ := three HL1.out.2
  by_cases hbig : 2000 < p.l.length
  · go_wp2_with fail
    go_ret
    exact ⟨rfl, HB1.out⟩
  by_cases hbig2 : 2000 < q.l.length
  · go_wp2_with fail
    go_ret
    exact ⟨rfl, HB1.out⟩
  go_upto_region 5 with fail
  clear c0 c1 c2 e0 e1 e2
  obtain ⟨g, hg0⟩ : ∃ g, gP p q = g := ⟨_, rfl⟩
  obtain ⟨h, hh0⟩ : ∃ g, gP q p = g := ⟨_, rfl⟩
  obtain ⟨s, hs0⟩ : ∃ g, gP p p = g := ⟨_, rfl⟩
  have HG0 := Lib.hid hg0
  have HH0 := Lib.hid hh0
  have HS0 := Lib.hid hs0
  clear hg0 hh0 hs0
  refine start_ (n := 15) (S := fun w' => True) (ds := []) #[false, false, false, false, false, false, false, false, false, false, false, false, false, false, false] (by kernel_rfl) rfl rfl trivial (fun hHeld => ?_)
  obtain ⟨w0, hw0⟩ : ∃ w0, w0 = w1.drew := ⟨_, rfl⟩
  rw [← hw0]
  have HPx : Hid (∀ {w' : World}, Below w0.heap.size w0 w' → Hid (p.ok w')) := by rw [hw0]; exact Lib.hid (fun hb => Lib.hid ((hp.out.below HB1.out.drew).below hb))
  have HQx : Hid (∀ {w' : World}, Below w0.heap.size w0 w' → Hid (q.ok w')) := by rw [hw0]; exact Lib.hid (fun hb => Lib.hid ((hq.out.below HB1.out.drew).below hb))
  have bx_p : Hid (∀ {w' : World}, Below w0.heap.size w0 w' → w'.heap[B]? = some (.cells #[.int .i64 p.W, .int .i64 p.H, .slice p.A p.l.length p.c] 32 (0, 0))) := by rw [hw0]; exact Lib.hid (fun hb => blk_below (blk_drew HL1.out.1) hb)
  have bx_q : Hid (∀ {w' : World}, Below w0.heap.size w0 w' → w'.heap[B + 1]? = some (.cells #[.int .i64 q.W, .int .i64 q.H, .slice q.A q.l.length q.c] 32 (0, 0))) := by rw [hw0]; exact Lib.hid (fun hb => blk_below (blk_drew HL1.out.2) hb)
  have HB0 : Hid (Below w.heap.size w w0) := by rw [hw0]; exact Lib.hid HB1.out.drew
  clear hw0
  refine with_tabW f5_tab f5_bits (fun HT_ HW_ => ?_)
  refine inv_at [0, 1, 2, 3, 4, 5, 6, 7, 8, 9, 10, 11, 12, 13, 14] (fun a0_ b a w' => ∃ (x7 : Nat) (x8 : Nat) (x9 : Nat) (m9_ : Value) (m10_ : Value) (m11_ : Value), a = putSel a0_ b [(0, 25, (.agg #[.int .i64 p.W, .int .i64 p.H, .slice p.A p.l.length p.c])), (1, 26, (.agg #[.int .i64 q.W, .int .i64 q.H, .slice q.A q.l.length q.c])), (2, 27, (.agg #[.int .i64 g.c, .int .i64 g.d, .int .i64 g.m, .int .i64 g.s, .int .i64 g.q])), (3, 28, (.agg #[.int .i64 q.W, .int .i64 q.H, .slice q.A q.l.length q.c])), (4, 29, (.agg #[.int .i64 p.W, .int .i64 p.H, .slice p.A p.l.length p.c])), (5, 30, (.agg #[.int .i64 h.c, .int .i64 h.d, .int .i64 h.m, .int .i64 h.s, .int .i64 h.q])), (6, 31, (.agg #[.int .i64 p.W, .int .i64 p.H, .slice p.A p.l.length p.c])), (7, 32, (.agg #[.int .i64 p.W, .int .i64 p.H, .slice p.A p.l.length p.c])), (8, 33, (.agg #[.int .i64 s.c, .int .i64 s.d, .int .i64 s.m, .int .i64 s.s, .int .i64 s.q])), (9, 7, m9_), (10, 8, m10_), (11, 9, m11_)] ∧ (Below w0.heap.size w0 w') ∧ (b 9 = true → w0.heap.size ≤ x7 ∧ x7 < w'.heap.size) ∧ (b 10 = true → w0.heap.size ≤ x8 ∧ x8 < w'.heap.size) ∧ (b 11 = true → w0.heap.size ≤ x9 ∧ x9 < w'.heap.size) ∧ (b 9 = true → b 10 = true → x7 ≠ x8) ∧ (b 9 = true → b 11 = true → x7 ≠ x9) ∧ (b 10 = true → b 11 = true → x8 ≠ x9) ∧ (b 9 = true → b 12 = false → w'.heap[x7]? = some (.cells #[.int .i64 0, .int .i64 0, .int .i64 0, .int .i64 0, .int .i64 0] 23 (0, 0))) ∧ (b 10 = true → b 13 = false → w'.heap[x8]? = some (.cells #[.int .i64 0, .int .i64 0, .int .i64 0, .int .i64 0, .int .i64 0] 23 (0, 0))) ∧ (b 11 = true → b 14 = false → w'.heap[x9]? = some (.cells #[.int .i64 0, .int .i64 0, .int .i64 0, .int .i64 0, .int .i64 0] 23 (0, 0))) ∧ (b 12 = true → w'.heap[x7]? = some (.cells #[.int .i64 g.c, .int .i64 g.d, .int .i64 g.m, .int .i64 g.s, .int .i64 g.q] 23 (0, 0))) ∧ (b 13 = true → w'.heap[x8]? = some (.cells #[.int .i64 h.c, .int .i64 h.d, .int .i64 h.m, .int .i64 h.s, .int .i64 h.q] 23 (0, 0))) ∧ (b 14 = true → w'.heap[x9]? = some (.cells #[.int .i64 s.c, .int .i64 s.d, .int .i64 s.m, .int .i64 s.s, .int .i64 s.q] 23 (0, 0))) ∧ (b 9 = true → (m9_ : Value) = .pointer (some ⟨x7, 0, none⟩)) ∧ (b 10 = true → (m10_ : Value) = .pointer (some ⟨x8, 0, none⟩)) ∧ (b 11 = true → (m11_ : Value) = .pointer (some ⟨x9, 0, none⟩))) HT_.out HW_.out (by kernel_rfl) (by kernel_rfl) ?_ ?_ ?_
  · exact ⟨0, 0, 0, .bool false, .bool false, .bool false, by simp only [putSel, Bool.false_eq_true, if_false], Below.refl _ _, fun h_ => absurd h_ (by decide), fun h_ => absurd h_ (by decide), fun h_ => absurd h_ (by decide), fun h_ => absurd h_ (by decide), fun h_ => absurd h_ (by decide), fun h_ => absurd h_ (by decide), fun h_ => absurd h_ (by decide), fun h_ => absurd h_ (by decide), fun h_ => absurd h_ (by decide), fun h_ => absurd h_ (by decide), fun h_ => absurd h_ (by decide), fun h_ => absurd h_ (by decide), fun h_ => absurd h_ (by decide), fun h_ => absurd h_ (by decide), fun h_ => absurd h_ (by decide)⟩
  · skip
    refine steps_cons ?_ ?_
    · rintro b a w' ⟨x7, x8, x9, m9_, m10_, m11_, ha, Q_BL, Q_G7, Q_G8, Q_G9, Q_D78, Q_D79, Q_D89, Q_Z7, Q_Z8, Q_Z9, Q_R7, Q_R8, Q_R9, Q_X9_, Q_X10_, Q_X11_⟩ hb_ hon hoff
      refine ⟨_, rfl, fun K hK => ?_⟩
      have e3 : a.tmps[3]? = some (.pointer (some ⟨B, 0, none⟩)) := by rw [ha]; exact (putSel_off rfl).trans rfl
      replace ha := Aside0.mk ha
      have BL := Aside0.mk Q_BL
      obtain ⟨c0, c1, c2⟩ := three (bx_p.out BL.out)
      refine value_ (w1 := w') (v := (.agg #[.int .i64 p.W, .int .i64 p.H, .slice p.A p.l.length p.c])) (by rfl) rfl ?_ ?_
      · go_simp
        (try simp only [i64_w])
        try rfl
      refine hK.out _ _ ⟨x7, x8, x9, m9_, m10_, m11_, (by rw [ha.out]; exact putSel_upk 0 hb_ rfl rfl rfl), Q_BL, Q_G7, Q_G8, Q_G9, Q_D78, Q_D79, Q_D89, Q_Z7, Q_Z8, Q_Z9, fun h0_ => absurd ((hoff 12 (by kernel_rfl)).symm.trans h0_) (by decide), fun h0_ => absurd ((hoff 13 (by kernel_rfl)).symm.trans h0_) (by decide), fun h0_ => absurd ((hoff 14 (by kernel_rfl)).symm.trans h0_) (by decide), Q_X9_, Q_X10_, Q_X11_⟩
    refine steps_cons ?_ ?_
    · rintro b a w' ⟨x7, x8, x9, m9_, m10_, m11_, ha, Q_BL, Q_G7, Q_G8, Q_G9, Q_D78, Q_D79, Q_D89, Q_Z7, Q_Z8, Q_Z9, Q_R7, Q_R8, Q_R9, Q_X9_, Q_X10_, Q_X11_⟩ hb_ hon hoff
      refine ⟨_, rfl, fun K hK => ?_⟩
      have e4 : a.tmps[4]? = some (.pointer (some ⟨B + 1, 0, none⟩)) := by rw [ha]; exact (putSel_off rfl).trans rfl
      replace ha := Aside0.mk ha
      have BL := Aside0.mk Q_BL
      obtain ⟨c0, c1, c2⟩ := three (bx_q.out BL.out)
      refine value_ (w1 := w') (v := (.agg #[.int .i64 q.W, .int .i64 q.H, .slice q.A q.l.length q.c])) (by rfl) rfl ?_ ?_
      · go_simp
        (try simp only [i64_w])
        try rfl
      refine hK.out _ _ ⟨x7, x8, x9, m9_, m10_, m11_, (by rw [ha.out]; exact putSel_upk 1 hb_ rfl rfl rfl), Q_BL, Q_G7, Q_G8, Q_G9, Q_D78, Q_D79, Q_D89, Q_Z7, Q_Z8, Q_Z9, fun h0_ => absurd ((hoff 12 (by kernel_rfl)).symm.trans h0_) (by decide), fun h0_ => absurd ((hoff 13 (by kernel_rfl)).symm.trans h0_) (by decide), fun h0_ => absurd ((hoff 14 (by kernel_rfl)).symm.trans h0_) (by decide), Q_X9_, Q_X10_, Q_X11_⟩
    refine steps_cons ?_ ?_
    · rintro b a w' ⟨x7, x8, x9, m9_, m10_, m11_, ha, Q_BL, Q_G7, Q_G8, Q_G9, Q_D78, Q_D79, Q_D89, Q_Z7, Q_Z8, Q_Z9, Q_R7, Q_R8, Q_R9, Q_X9_, Q_X10_, Q_X11_⟩ hb_ hon hoff
      refine ⟨_, rfl, fun K hK => ?_⟩
      have e25 : a.tmps[25]? = some ((.agg #[.int .i64 p.W, .int .i64 p.H, .slice p.A p.l.length p.c])) := by rw [ha]; exact putSel_on (e := (0, 25, (.agg #[.int .i64 p.W, .int .i64 p.H, .slice p.A p.l.length p.c]))) 0 rfl rfl (hon 0 (by kernel_rfl)) rfl
      have e26 : a.tmps[26]? = some ((.agg #[.int .i64 q.W, .int .i64 q.H, .slice q.A q.l.length q.c])) := by rw [ha]; exact putSel_on (e := (1, 26, (.agg #[.int .i64 q.W, .int .i64 q.H, .slice q.A q.l.length q.c]))) 1 rfl rfl (hon 1 (by kernel_rfl)) rfl
      replace ha := Aside0.mk ha
      have BL := Aside0.mk Q_BL
      refine goes_ Tryd.func16 (by kernel_rfl) rfl #[(.agg #[.int .i64 p.W, .int .i64 p.H, .slice p.A p.l.length p.c]), (.agg #[.int .i64 q.W, .int .i64 q.H, .slice q.A q.l.length q.c])] (by rfl) rfl rfl (by first | (simp only [List.map_toArray, List.map_cons, List.map_nil, Act.eval, Array.getD_eq_getD_getElem?, Option.getD_some, e25, e26]; done) | (simp only [List.map_toArray, List.map_cons, List.map_nil, Act.eval, Array.getD_eq_getD_getElem?, Option.getD_some, e25, e26]; rfl)) ?_
      refine (f16_P p q g HG0 w' (HPx.out BL.out) (HQx.out BL.out)).mono ?_
      rintro e w2 ⟨rfl, hb⟩
      refine ⟨_, rfl, ?_⟩
      refine hK.out _ _ ⟨x7, x8, x9, m9_, m10_, m11_, (by rw [ha.out]; exact putSel_upk 2 hb_ rfl rfl rfl), BL.out.trans (hb.mono BL.out.size), fun h0_ => ⟨(Q_G7 h0_).1, Nat.lt_of_lt_of_le (Q_G7 h0_).2 hb.size⟩, fun h0_ => ⟨(Q_G8 h0_).1, Nat.lt_of_lt_of_le (Q_G8 h0_).2 hb.size⟩, fun h0_ => ⟨(Q_G9 h0_).1, Nat.lt_of_lt_of_le (Q_G9 h0_).2 hb.size⟩, Q_D78, Q_D79, Q_D89, fun h0_ h1_ => blk_below (Q_Z7 h0_ h1_) hb, fun h0_ h1_ => blk_below (Q_Z8 h0_ h1_) hb, fun h0_ h1_ => blk_below (Q_Z9 h0_ h1_) hb, fun h0_ => absurd ((hoff 12 (by kernel_rfl)).symm.trans h0_) (by decide), fun h0_ => absurd ((hoff 13 (by kernel_rfl)).symm.trans h0_) (by decide), fun h0_ => absurd ((hoff 14 (by kernel_rfl)).symm.trans h0_) (by decide), Q_X9_, Q_X10_, Q_X11_⟩
    refine steps_cons ?_ ?_
    · rintro b a w' ⟨x7, x8, x9, m9_, m10_, m11_, ha, Q_BL, Q_G7, Q_G8, Q_G9, Q_D78, Q_D79, Q_D89, Q_Z7, Q_Z8, Q_Z9, Q_R7, Q_R8, Q_R9, Q_X9_, Q_X10_, Q_X11_⟩ hb_ hon hoff
      refine ⟨_, rfl, fun K hK => ?_⟩
      have e4 : a.tmps[4]? = some (.pointer (some ⟨B + 1, 0, none⟩)) := by rw [ha]; exact (putSel_off rfl).trans rfl
      replace ha := Aside0.mk ha
      have BL := Aside0.mk Q_BL
      obtain ⟨c0, c1, c2⟩ := three (bx_q.out BL.out)
      refine value_ (w1 := w') (v := (.agg #[.int .i64 q.W, .int .i64 q.H, .slice q.A q.l.length q.c])) (by rfl) rfl ?_ ?_
      · go_simp
        (try simp only [i64_w])
        try rfl
      refine hK.out _ _ ⟨x7, x8, x9, m9_, m10_, m11_, (by rw [ha.out]; exact putSel_upk 3 hb_ rfl rfl rfl), Q_BL, Q_G7, Q_G8, Q_G9, Q_D78, Q_D79, Q_D89, Q_Z7, Q_Z8, Q_Z9, fun h0_ => absurd ((hoff 12 (by kernel_rfl)).symm.trans h0_) (by decide), fun h0_ => absurd ((hoff 13 (by kernel_rfl)).symm.trans h0_) (by decide), fun h0_ => absurd ((hoff 14 (by kernel_rfl)).symm.trans h0_) (by decide), Q_X9_, Q_X10_, Q_X11_⟩
    refine steps_cons ?_ ?_
    · rintro b a w' ⟨x7, x8, x9, m9_, m10_, m11_, ha, Q_BL, Q_G7, Q_G8, Q_G9, Q_D78, Q_D79, Q_D89, Q_Z7, Q_Z8, Q_Z9, Q_R7, Q_R8, Q_R9, Q_X9_, Q_X10_, Q_X11_⟩ hb_ hon hoff
      refine ⟨_, rfl, fun K hK => ?_⟩
      have e3 : a.tmps[3]? = some (.pointer (some ⟨B, 0, none⟩)) := by rw [ha]; exact (putSel_off rfl).trans rfl
      replace ha := Aside0.mk ha
      have BL := Aside0.mk Q_BL
      obtain ⟨c0, c1, c2⟩ := three (bx_p.out BL.out)
      refine value_ (w1 := w') (v := (.agg #[.int .i64 p.W, .int .i64 p.H, .slice p.A p.l.length p.c])) (by rfl) rfl ?_ ?_
      · go_simp
        (try simp only [i64_w])
        try rfl
      refine hK.out _ _ ⟨x7, x8, x9, m9_, m10_, m11_, (by rw [ha.out]; exact putSel_upk 4 hb_ rfl rfl rfl), Q_BL, Q_G7, Q_G8, Q_G9, Q_D78, Q_D79, Q_D89, Q_Z7, Q_Z8, Q_Z9, fun h0_ => absurd ((hoff 12 (by kernel_rfl)).symm.trans h0_) (by decide), fun h0_ => absurd ((hoff 13 (by kernel_rfl)).symm.trans h0_) (by decide), fun h0_ => absurd ((hoff 14 (by kernel_rfl)).symm.trans h0_) (by decide), Q_X9_, Q_X10_, Q_X11_⟩
    refine steps_cons ?_ ?_
    · rintro b a w' ⟨x7, x8, x9, m9_, m10_, m11_, ha, Q_BL, Q_G7, Q_G8, Q_G9, Q_D78, Q_D79, Q_D89, Q_Z7, Q_Z8, Q_Z9, Q_R7, Q_R8, Q_R9, Q_X9_, Q_X10_, Q_X11_⟩ hb_ hon hoff
      refine ⟨_, rfl, fun K hK => ?_⟩
      have e28 : a.tmps[28]? = some ((.agg #[.int .i64 q.W, .int .i64 q.H, .slice q.A q.l.length q.c])) := by rw [ha]; exact putSel_on (e := (3, 28, (.agg #[.int .i64 q.W, .int .i64 q.H, .slice q.A q.l.length q.c]))) 3 rfl rfl (hon 3 (by kernel_rfl)) rfl
      have e29 : a.tmps[29]? = some ((.agg #[.int .i64 p.W, .int .i64 p.H, .slice p.A p.l.length p.c])) := by rw [ha]; exact putSel_on (e := (4, 29, (.agg #[.int .i64 p.W, .int .i64 p.H, .slice p.A p.l.length p.c]))) 4 rfl rfl (hon 4 (by kernel_rfl)) rfl
      replace ha := Aside0.mk ha
      have BL := Aside0.mk Q_BL
      refine goes_ Tryd.func16 (by kernel_rfl) rfl #[(.agg #[.int .i64 q.W, .int .i64 q.H, .slice q.A q.l.length q.c]), (.agg #[.int .i64 p.W, .int .i64 p.H, .slice p.A p.l.length p.c])] (by rfl) rfl rfl (by first | (simp only [List.map_toArray, List.map_cons, List.map_nil, Act.eval, Array.getD_eq_getD_getElem?, Option.getD_some, e28, e29]; done) | (simp only [List.map_toArray, List.map_cons, List.map_nil, Act.eval, Array.getD_eq_getD_getElem?, Option.getD_some, e28, e29]; rfl)) ?_
      refine (f16_P q p h HH0 w' (HQx.out BL.out) (HPx.out BL.out)).mono ?_
      rintro e w2 ⟨rfl, hb⟩
      refine ⟨_, rfl, ?_⟩
      refine hK.out _ _ ⟨x7, x8, x9, m9_, m10_, m11_, (by rw [ha.out]; exact putSel_upk 5 hb_ rfl rfl rfl), BL.out.trans (hb.mono BL.out.size), fun h0_ => ⟨(Q_G7 h0_).1, Nat.lt_of_lt_of_le (Q_G7 h0_).2 hb.size⟩, fun h0_ => ⟨(Q_G8 h0_).1, Nat.lt_of_lt_of_le (Q_G8 h0_).2 hb.size⟩, fun h0_ => ⟨(Q_G9 h0_).1, Nat.lt_of_lt_of_le (Q_G9 h0_).2 hb.size⟩, Q_D78, Q_D79, Q_D89, fun h0_ h1_ => blk_below (Q_Z7 h0_ h1_) hb, fun h0_ h1_ => blk_below (Q_Z8 h0_ h1_) hb, fun h0_ h1_ => blk_below (Q_Z9 h0_ h1_) hb, fun h0_ => absurd ((hoff 12 (by kernel_rfl)).symm.trans h0_) (by decide), fun h0_ => absurd ((hoff 13 (by kernel_rfl)).symm.trans h0_) (by decide), fun h0_ => absurd ((hoff 14 (by kernel_rfl)).symm.trans h0_) (by decide), Q_X9_, Q_X10_, Q_X11_⟩
    refine steps_cons ?_ ?_
    · rintro b a w' ⟨x7, x8, x9, m9_, m10_, m11_, ha, Q_BL, Q_G7, Q_G8, Q_G9, Q_D78, Q_D79, Q_D89, Q_Z7, Q_Z8, Q_Z9, Q_R7, Q_R8, Q_R9, Q_X9_, Q_X10_, Q_X11_⟩ hb_ hon hoff
      refine ⟨_, rfl, fun K hK => ?_⟩
      have e3 : a.tmps[3]? = some (.pointer (some ⟨B, 0, none⟩)) := by rw [ha]; exact (putSel_off rfl).trans rfl
      replace ha := Aside0.mk ha
      have BL := Aside0.mk Q_BL
      obtain ⟨c0, c1, c2⟩ := three (bx_p.out BL.out)
      refine value_ (w1 := w') (v := (.agg #[.int .i64 p.W, .int .i64 p.H, .slice p.A p.l.length p.c])) (by rfl) rfl ?_ ?_
      · go_simp
        (try simp only [i64_w])
        try rfl
      refine hK.out _ _ ⟨x7, x8, x9, m9_, m10_, m11_, (by rw [ha.out]; exact putSel_upk 6 hb_ rfl rfl rfl), Q_BL, Q_G7, Q_G8, Q_G9, Q_D78, Q_D79, Q_D89, Q_Z7, Q_Z8, Q_Z9, fun h0_ => absurd ((hoff 12 (by kernel_rfl)).symm.trans h0_) (by decide), fun h0_ => absurd ((hoff 13 (by kernel_rfl)).symm.trans h0_) (by decide), fun h0_ => absurd ((hoff 14 (by kernel_rfl)).symm.trans h0_) (by decide), Q_X9_, Q_X10_, Q_X11_⟩
    refine steps_cons ?_ ?_
    · rintro b a w' ⟨x7, x8, x9, m9_, m10_, m11_, ha, Q_BL, Q_G7, Q_G8, Q_G9, Q_D78, Q_D79, Q_D89, Q_Z7, Q_Z8, Q_Z9, Q_R7, Q_R8, Q_R9, Q_X9_, Q_X10_, Q_X11_⟩ hb_ hon hoff
      refine ⟨_, rfl, fun K hK => ?_⟩
      have e3 : a.tmps[3]? = some (.pointer (some ⟨B, 0, none⟩)) := by rw [ha]; exact (putSel_off rfl).trans rfl
      replace ha := Aside0.mk ha
      have BL := Aside0.mk Q_BL
      obtain ⟨c0, c1, c2⟩ := three (bx_p.out BL.out)
      refine value_ (w1 := w') (v := (.agg #[.int .i64 p.W, .int .i64 p.H, .slice p.A p.l.length p.c])) (by rfl) rfl ?_ ?_
      · go_simp
        (try simp only [i64_w])
        try rfl
      refine hK.out _ _ ⟨x7, x8, x9, m9_, m10_, m11_, (by rw [ha.out]; exact putSel_upk 7 hb_ rfl rfl rfl), Q_BL, Q_G7, Q_G8, Q_G9, Q_D78, Q_D79, Q_D89, Q_Z7, Q_Z8, Q_Z9, fun h0_ => absurd ((hoff 12 (by kernel_rfl)).symm.trans h0_) (by decide), fun h0_ => absurd ((hoff 13 (by kernel_rfl)).symm.trans h0_) (by decide), fun h0_ => absurd ((hoff 14 (by kernel_rfl)).symm.trans h0_) (by decide), Q_X9_, Q_X10_, Q_X11_⟩
    refine steps_cons ?_ ?_
    · rintro b a w' ⟨x7, x8, x9, m9_, m10_, m11_, ha, Q_BL, Q_G7, Q_G8, Q_G9, Q_D78, Q_D79, Q_D89, Q_Z7, Q_Z8, Q_Z9, Q_R7, Q_R8, Q_R9, Q_X9_, Q_X10_, Q_X11_⟩ hb_ hon hoff
      refine ⟨_, rfl, fun K hK => ?_⟩
      have e31 : a.tmps[31]? = some ((.agg #[.int .i64 p.W, .int .i64 p.H, .slice p.A p.l.length p.c])) := by rw [ha]; exact putSel_on (e := (6, 31, (.agg #[.int .i64 p.W, .int .i64 p.H, .slice p.A p.l.length p.c]))) 6 rfl rfl (hon 6 (by kernel_rfl)) rfl
      have e32 : a.tmps[32]? = some ((.agg #[.int .i64 p.W, .int .i64 p.H, .slice p.A p.l.length p.c])) := by rw [ha]; exact putSel_on (e := (7, 32, (.agg #[.int .i64 p.W, .int .i64 p.H, .slice p.A p.l.length p.c]))) 7 rfl rfl (hon 7 (by kernel_rfl)) rfl
      replace ha := Aside0.mk ha
      have BL := Aside0.mk Q_BL
      refine goes_ Tryd.func16 (by kernel_rfl) rfl #[(.agg #[.int .i64 p.W, .int .i64 p.H, .slice p.A p.l.length p.c]), (.agg #[.int .i64 p.W, .int .i64 p.H, .slice p.A p.l.length p.c])] (by rfl) rfl rfl (by first | (simp only [List.map_toArray, List.map_cons, List.map_nil, Act.eval, Array.getD_eq_getD_getElem?, Option.getD_some, e31, e32]; done) | (simp only [List.map_toArray, List.map_cons, List.map_nil, Act.eval, Array.getD_eq_getD_getElem?, Option.getD_some, e31, e32]; rfl)) ?_
      refine (f16_P p p s HS0 w' (HPx.out BL.out) (HPx.out BL.out)).mono ?_
      rintro e w2 ⟨rfl, hb⟩
      refine ⟨_, rfl, ?_⟩
      refine hK.out _ _ ⟨x7, x8, x9, m9_, m10_, m11_, (by rw [ha.out]; exact putSel_upk 8 hb_ rfl rfl rfl), BL.out.trans (hb.mono BL.out.size), fun h0_ => ⟨(Q_G7 h0_).1, Nat.lt_of_lt_of_le (Q_G7 h0_).2 hb.size⟩, fun h0_ => ⟨(Q_G8 h0_).1, Nat.lt_of_lt_of_le (Q_G8 h0_).2 hb.size⟩, fun h0_ => ⟨(Q_G9 h0_).1, Nat.lt_of_lt_of_le (Q_G9 h0_).2 hb.size⟩, Q_D78, Q_D79, Q_D89, fun h0_ h1_ => blk_below (Q_Z7 h0_ h1_) hb, fun h0_ h1_ => blk_below (Q_Z8 h0_ h1_) hb, fun h0_ h1_ => blk_below (Q_Z9 h0_ h1_) hb, fun h0_ => absurd ((hoff 12 (by kernel_rfl)).symm.trans h0_) (by decide), fun h0_ => absurd ((hoff 13 (by kernel_rfl)).symm.trans h0_) (by decide), fun h0_ => absurd ((hoff 14 (by kernel_rfl)).symm.trans h0_) (by decide), Q_X9_, Q_X10_, Q_X11_⟩
    refine steps_cons ?_ ?_
    · rintro b a w' ⟨x7, x8, x9, m9_, m10_, m11_, ha, Q_BL, Q_G7, Q_G8, Q_G9, Q_D78, Q_D79, Q_D89, Q_Z7, Q_Z8, Q_Z9, Q_R7, Q_R8, Q_R9, Q_X9_, Q_X10_, Q_X11_⟩ hb_ hon hoff
      refine ⟨_, rfl, fun K hK => ?_⟩
      replace ha := Aside0.mk ha
      have BL := Aside0.mk Q_BL
      refine value_ (w1 := w'.alloc (.cells #[.int .i64 0, .int .i64 0, .int .i64 0, .int .i64 0, .int .i64 0] 23)) (v := .pointer (some ⟨w'.heap.size, 0, none⟩)) (by rfl) rfl ?_ ?_
      · go_simp
        try rfl
      refine hK.out _ _ ⟨w'.heap.size, x8, x9, (.pointer (some ⟨w'.heap.size, 0, none⟩)), m10_, m11_, (by rw [ha.out]; exact putSel_upk 9 hb_ rfl rfl rfl), BL.out.alloc BL.out.size _, fun _ => ⟨BL.out.size, by simp⟩, fun h0_ => ⟨(Q_G8 h0_).1, by have := (Q_G8 h0_).2; simp; omega⟩, fun h0_ => ⟨(Q_G9 h0_).1, by have := (Q_G9 h0_).2; simp; omega⟩, fun _ h1_ => Nat.ne_of_gt (Q_G8 ((up_ne (by decide)).symm.trans h1_)).2, fun _ h1_ => Nat.ne_of_gt (Q_G9 ((up_ne (by decide)).symm.trans h1_)).2, Q_D89, fun _ _ => blk_new _ _, fun h0_ h1_ => blk_alloc (Q_Z8 h0_ h1_) _, fun h0_ h1_ => blk_alloc (Q_Z9 h0_ h1_) _, fun h0_ => absurd ((hoff 12 (by kernel_rfl)).symm.trans h0_) (by decide), fun h0_ => absurd ((hoff 13 (by kernel_rfl)).symm.trans h0_) (by decide), fun h0_ => absurd ((hoff 14 (by kernel_rfl)).symm.trans h0_) (by decide), fun _ => rfl, Q_X10_, Q_X11_⟩
    refine steps_cons ?_ ?_
    · rintro b a w' ⟨x7, x8, x9, m9_, m10_, m11_, ha, Q_BL, Q_G7, Q_G8, Q_G9, Q_D78, Q_D79, Q_D89, Q_Z7, Q_Z8, Q_Z9, Q_R7, Q_R8, Q_R9, Q_X9_, Q_X10_, Q_X11_⟩ hb_ hon hoff
      refine ⟨_, rfl, fun K hK => ?_⟩
      replace ha := Aside0.mk ha
      have BL := Aside0.mk Q_BL
      refine value_ (w1 := w'.alloc (.cells #[.int .i64 0, .int .i64 0, .int .i64 0, .int .i64 0, .int .i64 0] 23)) (v := .pointer (some ⟨w'.heap.size, 0, none⟩)) (by rfl) rfl ?_ ?_
      · go_simp
        try rfl
      refine hK.out _ _ ⟨x7, w'.heap.size, x9, m9_, (.pointer (some ⟨w'.heap.size, 0, none⟩)), m11_, (by rw [ha.out]; exact putSel_upk 10 hb_ rfl rfl rfl), BL.out.alloc BL.out.size _, fun h0_ => ⟨(Q_G7 h0_).1, by have := (Q_G7 h0_).2; simp; omega⟩, fun _ => ⟨BL.out.size, by simp⟩, fun h0_ => ⟨(Q_G9 h0_).1, by have := (Q_G9 h0_).2; simp; omega⟩, fun h0_ _ => Nat.ne_of_lt (Q_G7 ((up_ne (by decide)).symm.trans h0_)).2, Q_D79, fun _ h1_ => Nat.ne_of_gt (Q_G9 ((up_ne (by decide)).symm.trans h1_)).2, fun h0_ h1_ => blk_alloc (Q_Z7 h0_ h1_) _, fun _ _ => blk_new _ _, fun h0_ h1_ => blk_alloc (Q_Z9 h0_ h1_) _, fun h0_ => absurd ((hoff 12 (by kernel_rfl)).symm.trans h0_) (by decide), fun h0_ => absurd ((hoff 13 (by kernel_rfl)).symm.trans h0_) (by decide), fun h0_ => absurd ((hoff 14 (by kernel_rfl)).symm.trans h0_) (by decide), Q_X9_, fun _ => rfl, Q_X11_⟩
    refine steps_cons ?_ ?_
    · rintro b a w' ⟨x7, x8, x9, m9_, m10_, m11_, ha, Q_BL, Q_G7, Q_G8, Q_G9, Q_D78, Q_D79, Q_D89, Q_Z7, Q_Z8, Q_Z9, Q_R7, Q_R8, Q_R9, Q_X9_, Q_X10_, Q_X11_⟩ hb_ hon hoff
      refine ⟨_, rfl, fun K hK => ?_⟩
      replace ha := Aside0.mk ha
      have BL := Aside0.mk Q_BL
      refine value_ (w1 := w'.alloc (.cells #[.int .i64 0, .int .i64 0, .int .i64 0, .int .i64 0, .int .i64 0] 23)) (v := .pointer (some ⟨w'.heap.size, 0, none⟩)) (by rfl) rfl ?_ ?_
      · go_simp
        try rfl
      refine hK.out _ _ ⟨x7, x8, w'.heap.size, m9_, m10_, (.pointer (some ⟨w'.heap.size, 0, none⟩)), (by rw [ha.out]; exact putSel_upk 11 hb_ rfl rfl rfl), BL.out.alloc BL.out.size _, fun h0_ => ⟨(Q_G7 h0_).1, by have := (Q_G7 h0_).2; simp; omega⟩, fun h0_ => ⟨(Q_G8 h0_).1, by have := (Q_G8 h0_).2; simp; omega⟩, fun _ => ⟨BL.out.size, by simp⟩, Q_D78, fun h0_ _ => Nat.ne_of_lt (Q_G7 ((up_ne (by decide)).symm.trans h0_)).2, fun h0_ _ => Nat.ne_of_lt (Q_G8 ((up_ne (by decide)).symm.trans h0_)).2, fun h0_ h1_ => blk_alloc (Q_Z7 h0_ h1_) _, fun h0_ h1_ => blk_alloc (Q_Z8 h0_ h1_) _, fun _ _ => blk_new _ _, fun h0_ => absurd ((hoff 12 (by kernel_rfl)).symm.trans h0_) (by decide), fun h0_ => absurd ((hoff 13 (by kernel_rfl)).symm.trans h0_) (by decide), fun h0_ => absurd ((hoff 14 (by kernel_rfl)).symm.trans h0_) (by decide), Q_X9_, Q_X10_, fun _ => rfl⟩
    refine steps_cons ?_ ?_
    · rintro b a w' ⟨x7, x8, x9, m9_, m10_, m11_, ha, Q_BL, Q_G7, Q_G8, Q_G9, Q_D78, Q_D79, Q_D89, Q_Z7, Q_Z8, Q_Z9, Q_R7, Q_R8, Q_R9, Q_X9_, Q_X10_, Q_X11_⟩ hb_ hon hoff
      refine ⟨_, rfl, fun K hK => ?_⟩
      have e7 : a.tmps[7]? = some (m9_) := by rw [ha]; exact putSel_on (e := (9, 7, m9_)) 9 rfl rfl (hon 9 (by kernel_rfl)) rfl
      rw [Q_X9_ (hon 9 (by kernel_rfl))] at e7
      have e27 : a.tmps[27]? = some ((.agg #[.int .i64 g.c, .int .i64 g.d, .int .i64 g.m, .int .i64 g.s, .int .i64 g.q])) := by rw [ha]; exact putSel_on (e := (2, 27, (.agg #[.int .i64 g.c, .int .i64 g.d, .int .i64 g.m, .int .i64 g.s, .int .i64 g.q]))) 2 rfl rfl (hon 2 (by kernel_rfl)) rfl
      replace ha := Aside0.mk ha
      have BL := Aside0.mk Q_BL
      have G7 := Aside0.mk (Q_G7 (hon 9 (by kernel_rfl)))
      have G8 := Aside0.mk (Q_G8 (hon 10 (by kernel_rfl)))
      have G9 := Aside0.mk (Q_G9 (hon 11 (by kernel_rfl)))
      have D78 := Aside0.mk (Q_D78 (hon 9 (by kernel_rfl)) (hon 10 (by kernel_rfl)))
      have D79 := Aside0.mk (Q_D79 (hon 9 (by kernel_rfl)) (hon 11 (by kernel_rfl)))
      have D89 := Aside0.mk (Q_D89 (hon 10 (by kernel_rfl)) (hon 11 (by kernel_rfl)))
      have Z7 := Aside0.mk (Q_Z7 (hon 9 (by kernel_rfl)) hb_)
      have Z8 := Aside0.mk (Q_Z8 (hon 10 (by kernel_rfl)) (hoff 13 (by kernel_rfl)))
      have Z9 := Aside0.mk (Q_Z9 (hon 11 (by kernel_rfl)) (hoff 14 (by kernel_rfl)))
      obtain ⟨c0, c1, c2, c3, c4, z0, z1, z2, z3, z4⟩ := five Z7.out
      refine skip_ (w1 := (((((w'.setCell ⟨x7, 0, none⟩ (.int .i64 g.c)).setCell ⟨x7, 1, none⟩ (.int .i64 g.d)).setCell ⟨x7, 2, none⟩ (.int .i64 g.m)).setCell ⟨x7, 3, none⟩ (.int .i64 g.s)).setCell ⟨x7, 4, none⟩ (.int .i64 g.q))) (by rfl) rfl ?_ ?_
      · go_simp
        try rfl
      refine hK.out _ _ ⟨x7, x8, x9, m9_, m10_, m11_, (by rw [ha.out]; exact putSel_none (v := undef) rfl), five_below BL.out G7.out.1, fun _ => ⟨G7.out.1, by have := G7.out.2; simpa [World.setCell] using this⟩, fun _ => ⟨G8.out.1, by have := G8.out.2; simpa [World.setCell] using this⟩, fun _ => ⟨G9.out.1, by have := G9.out.2; simpa [World.setCell] using this⟩, Q_D78, Q_D79, Q_D89, fun _ h1_ => absurd ((up_self b 12).symm.trans h1_) (by decide), fun _ _ => five_far Z8.out (Ne.symm D78.out), fun _ _ => five_far Z9.out (Ne.symm D79.out), fun _ => five_put Z7.out, fun h0_ => absurd ((hoff 13 (by kernel_rfl)).symm.trans h0_) (by decide), fun h0_ => absurd ((hoff 14 (by kernel_rfl)).symm.trans h0_) (by decide), Q_X9_, Q_X10_, Q_X11_⟩
    refine steps_cons ?_ ?_
    · rintro b a w' ⟨x7, x8, x9, m9_, m10_, m11_, ha, Q_BL, Q_G7, Q_G8, Q_G9, Q_D78, Q_D79, Q_D89, Q_Z7, Q_Z8, Q_Z9, Q_R7, Q_R8, Q_R9, Q_X9_, Q_X10_, Q_X11_⟩ hb_ hon hoff
      refine ⟨_, rfl, fun K hK => ?_⟩
      have e8 : a.tmps[8]? = some (m10_) := by rw [ha]; exact putSel_on (e := (10, 8, m10_)) 10 rfl rfl (hon 10 (by kernel_rfl)) rfl
      rw [Q_X10_ (hon 10 (by kernel_rfl))] at e8
      have e30 : a.tmps[30]? = some ((.agg #[.int .i64 h.c, .int .i64 h.d, .int .i64 h.m, .int .i64 h.s, .int .i64 h.q])) := by rw [ha]; exact putSel_on (e := (5, 30, (.agg #[.int .i64 h.c, .int .i64 h.d, .int .i64 h.m, .int .i64 h.s, .int .i64 h.q]))) 5 rfl rfl (hon 5 (by kernel_rfl)) rfl
      replace ha := Aside0.mk ha
      have BL := Aside0.mk Q_BL
      have G7 := Aside0.mk (Q_G7 (hon 9 (by kernel_rfl)))
      have G8 := Aside0.mk (Q_G8 (hon 10 (by kernel_rfl)))
      have G9 := Aside0.mk (Q_G9 (hon 11 (by kernel_rfl)))
      have D78 := Aside0.mk (Q_D78 (hon 9 (by kernel_rfl)) (hon 10 (by kernel_rfl)))
      have D79 := Aside0.mk (Q_D79 (hon 9 (by kernel_rfl)) (hon 11 (by kernel_rfl)))
      have D89 := Aside0.mk (Q_D89 (hon 10 (by kernel_rfl)) (hon 11 (by kernel_rfl)))
      have Z8 := Aside0.mk (Q_Z8 (hon 10 (by kernel_rfl)) hb_)
      have Z9 := Aside0.mk (Q_Z9 (hon 11 (by kernel_rfl)) (hoff 14 (by kernel_rfl)))
      have R7 := Aside0.mk (Q_R7 (hon 12 (by kernel_rfl)))
      obtain ⟨c0, c1, c2, c3, c4, z0, z1, z2, z3, z4⟩ := five Z8.out
      refine skip_ (w1 := (((((w'.setCell ⟨x8, 0, none⟩ (.int .i64 h.c)).setCell ⟨x8, 1, none⟩ (.int .i64 h.d)).setCell ⟨x8, 2, none⟩ (.int .i64 h.m)).setCell ⟨x8, 3, none⟩ (.int .i64 h.s)).setCell ⟨x8, 4, none⟩ (.int .i64 h.q))) (by rfl) rfl ?_ ?_
      · go_simp
        try rfl
      refine hK.out _ _ ⟨x7, x8, x9, m9_, m10_, m11_, (by rw [ha.out]; exact putSel_none (v := undef) rfl), five_below BL.out G8.out.1, fun _ => ⟨G7.out.1, by have := G7.out.2; simpa [World.setCell] using this⟩, fun _ => ⟨G8.out.1, by have := G8.out.2; simpa [World.setCell] using this⟩, fun _ => ⟨G9.out.1, by have := G9.out.2; simpa [World.setCell] using this⟩, Q_D78, Q_D79, Q_D89, fun _ h1_ => absurd ((hon 12 (by kernel_rfl)).symm.trans h1_) (by decide), fun _ h1_ => absurd ((up_self b 13).symm.trans h1_) (by decide), fun _ _ => five_far Z9.out (Ne.symm D89.out), fun _ => five_far R7.out D78.out, fun _ => five_put Z8.out, fun h0_ => absurd ((hoff 14 (by kernel_rfl)).symm.trans h0_) (by decide), Q_X9_, Q_X10_, Q_X11_⟩
    refine steps_cons ?_ ?_
    · rintro b a w' ⟨x7, x8, x9, m9_, m10_, m11_, ha, Q_BL, Q_G7, Q_G8, Q_G9, Q_D78, Q_D79, Q_D89, Q_Z7, Q_Z8, Q_Z9, Q_R7, Q_R8, Q_R9, Q_X9_, Q_X10_, Q_X11_⟩ hb_ hon hoff
      refine ⟨_, rfl, fun K hK => ?_⟩
      have e9 : a.tmps[9]? = some (m11_) := by rw [ha]; exact putSel_on (e := (11, 9, m11_)) 11 rfl rfl (hon 11 (by kernel_rfl)) rfl
      rw [Q_X11_ (hon 11 (by kernel_rfl))] at e9
      have e33 : a.tmps[33]? = some ((.agg #[.int .i64 s.c, .int .i64 s.d, .int .i64 s.m, .int .i64 s.s, .int .i64 s.q])) := by rw [ha]; exact putSel_on (e := (8, 33, (.agg #[.int .i64 s.c, .int .i64 s.d, .int .i64 s.m, .int .i64 s.s, .int .i64 s.q]))) 8 rfl rfl (hon 8 (by kernel_rfl)) rfl
      replace ha := Aside0.mk ha
      have BL := Aside0.mk Q_BL
      have G7 := Aside0.mk (Q_G7 (hon 9 (by kernel_rfl)))
      have G8 := Aside0.mk (Q_G8 (hon 10 (by kernel_rfl)))
      have G9 := Aside0.mk (Q_G9 (hon 11 (by kernel_rfl)))
      have D78 := Aside0.mk (Q_D78 (hon 9 (by kernel_rfl)) (hon 10 (by kernel_rfl)))
      have D79 := Aside0.mk (Q_D79 (hon 9 (by kernel_rfl)) (hon 11 (by kernel_rfl)))
      have D89 := Aside0.mk (Q_D89 (hon 10 (by kernel_rfl)) (hon 11 (by kernel_rfl)))
      have Z9 := Aside0.mk (Q_Z9 (hon 11 (by kernel_rfl)) hb_)
      have R7 := Aside0.mk (Q_R7 (hon 12 (by kernel_rfl)))
      have R8 := Aside0.mk (Q_R8 (hon 13 (by kernel_rfl)))
      obtain ⟨c0, c1, c2, c3, c4, z0, z1, z2, z3, z4⟩ := five Z9.out
      refine skip_ (w1 := (((((w'.setCell ⟨x9, 0, none⟩ (.int .i64 s.c)).setCell ⟨x9, 1, none⟩ (.int .i64 s.d)).setCell ⟨x9, 2, none⟩ (.int .i64 s.m)).setCell ⟨x9, 3, none⟩ (.int .i64 s.s)).setCell ⟨x9, 4, none⟩ (.int .i64 s.q))) (by rfl) rfl ?_ ?_
      · go_simp
        try rfl
      refine hK.out _ _ ⟨x7, x8, x9, m9_, m10_, m11_, (by rw [ha.out]; exact putSel_none (v := undef) rfl), five_below BL.out G9.out.1, fun _ => ⟨G7.out.1, by have := G7.out.2; simpa [World.setCell] using this⟩, fun _ => ⟨G8.out.1, by have := G8.out.2; simpa [World.setCell] using this⟩, fun _ => ⟨G9.out.1, by have := G9.out.2; simpa [World.setCell] using this⟩, Q_D78, Q_D79, Q_D89, fun _ h1_ => absurd ((hon 12 (by kernel_rfl)).symm.trans h1_) (by decide), fun _ h1_ => absurd ((hon 13 (by kernel_rfl)).symm.trans h1_) (by decide), fun _ h1_ => absurd ((up_self b 14).symm.trans h1_) (by decide), fun _ => five_far R7.out D79.out, fun _ => five_far R8.out D89.out, fun _ => five_put Z9.out, Q_X9_, Q_X10_, Q_X11_⟩
    exact steps_nil
  · rintro b a w' hall ⟨x7, x8, x9, m9_, m10_, m11_, ha, Q_BL, Q_G7, Q_G8, Q_G9, Q_D78, Q_D79, Q_D89, Q_Z7, Q_Z8, Q_Z9, Q_R7, Q_R8, Q_R9, Q_X9_, Q_X10_, Q_X11_⟩
    have hb0_ := hall 0 (by kernel_rfl)
    have hb1_ := hall 1 (by kernel_rfl)
    have hb2_ := hall 2 (by kernel_rfl)
    have hb3_ := hall 3 (by kernel_rfl)
    have hb4_ := hall 4 (by kernel_rfl)
    have hb5_ := hall 5 (by kernel_rfl)
    have hb6_ := hall 6 (by kernel_rfl)
    have hb7_ := hall 7 (by kernel_rfl)
    have hb8_ := hall 8 (by kernel_rfl)
    have hb9_ := hall 9 (by kernel_rfl)
    have hb10_ := hall 10 (by kernel_rfl)
    have hb11_ := hall 11 (by kernel_rfl)
    have hb12_ := hall 12 (by kernel_rfl)
    have hb13_ := hall 13 (by kernel_rfl)
    have hb14_ := hall 14 (by kernel_rfl)
    subst ha
    obtain rfl := Q_X9_ hb9_
    obtain rfl := Q_X10_ hb10_
    obtain rfl := Q_X11_ hb11_
    simp only [putSel, hb0_, hb1_, hb2_, hb3_, hb4_, hb5_, hb6_, hb7_, hb8_, hb9_, hb10_, hb11_, hb12_, hb13_, hb14_, if_true, Act.put, List.setIfInBounds_toArray, List.set_cons_zero, List.set_cons_succ]
    have BL := Aside0.mk Q_BL
    clear Q_BL
    have G7 := Aside0.mk (Q_G7 hb9_)
    clear Q_G7
    have G8 := Aside0.mk (Q_G8 hb10_)
    clear Q_G8
    have G9 := Aside0.mk (Q_G9 hb11_)
    clear Q_G9
    have D78 := Aside0.mk (Q_D78 hb9_ hb10_)
    clear Q_D78
    have D79 := Aside0.mk (Q_D79 hb9_ hb11_)
    clear Q_D79
    have D89 := Aside0.mk (Q_D89 hb10_ hb11_)
    clear Q_D89
    clear Q_Z7
    clear Q_Z8
    clear Q_Z9
    have R7 := Aside0.mk (Q_R7 hb12_)
    clear Q_R7
    have R8 := Aside0.mk (Q_R8 hb13_)
    clear Q_R8
    have R9 := Aside0.mk (Q_R9 hb14_)
    clear Q_R9
    clear hall hb0_ hb1_ hb2_ hb3_ hb4_ hb5_ hb6_ hb7_ hb8_ hb9_ hb10_ hb11_ hb12_ hb13_ hb14_
    clear HT_ HW_ Q_X9_ Q_X10_ Q_X11_ G7 G8 G9 D78 D79 D89
    have HBX : Hid (Below w.heap.size w w') := Lib.hid (HB0.out.trans (BL.out.mono HB0.out.size))
    have HLX : Hid (w'.heap[B]? = some (.cells #[.int .i64 p.W, .int .i64 p.H, .slice p.A p.l.length p.c] 32 (0, 0))) := Lib.hid (bx_p.out BL.out)
    have HPX : Hid (p.ok w') := HPx.out BL.out
    have HGH : h = g := by rw [← HH0.out, ← HG0.out]; exact gP_comm _ _
    obtain ⟨k, hk0, hk1, hgi⟩ := gP_inv p q (by omega)
    rw [HG0.out] at hgi
    obtain ⟨kk, hkk⟩ : ∃ kk : Int, (if rtB p.W p.H p.l.length = true then (p.l.length : Int) else 0) = kk := ⟨_, rfl⟩
    have HS1 : s = ⟨kk, 0, 0, 0, 0⟩ := by rw [← HS0.out, gP_self p (by omega), hkk]
    have HKK := Lib.hid hkk
    clear hkk BL bx_p bx_q HPx HQx HB0
    have R8' : Hid (w'.heap[x8]? = some (.cells #[.int .i64 g.c, .int .i64 g.d, .int .i64 g.m, .int .i64 g.s, .int .i64 g.q] 23 (0, 0))) := Lib.hid (by rw [← HGH]; exact R8.out)
    have R9' : Hid (w'.heap[x9]? = some (.cells #[.int .i64 kk, .int .i64 0, .int .i64 0, .int .i64 0, .int .i64 0] 23 (0, 0))) := Lib.hid (by have := R9.out; rw [HS1] at this; exact this)
    have R7' := Lib.hid R7.out
    clear R7 R8 R9 HGH HS1 HG0 HH0 HS0
    obtain ⟨ic, id0, id1, im0, im1, is0, is1, iq0, iq1, ism, iqm⟩ := hgi
    obtain ⟨gc, hgc⟩ : ∃ x, g.c = x := ⟨_, rfl⟩
    obtain ⟨gd, hgd⟩ : ∃ x, g.d = x := ⟨_, rfl⟩
    obtain ⟨gm, hgm⟩ : ∃ x, g.m = x := ⟨_, rfl⟩
    obtain ⟨gs, hgs⟩ : ∃ x, g.s = x := ⟨_, rfl⟩
    obtain ⟨gq, hgq⟩ : ∃ x, g.q = x := ⟨_, rfl⟩
    rw [hgc] at ic R7' R8'
    rw [hgd] at id0 id1 ism R7' R8'
    rw [hgm] at im0 im1 ism iqm R7' R8'
    rw [hgs] at is0 is1 ism iqm R7' R8'
    rw [hgq] at iq0 iq1 iqm R7' R8'
    have e1 : gm * gd ≤ 16777216 * 2000 := Int.mul_le_mul im1 (by omega) id0 (by omega)
    have e2 : gm * gs ≤ 16777216 * 33554432000 := Int.mul_le_mul im1 (by omega) is0 (by omega)
    have e3 : 0 ≤ gm * gd := Int.mul_nonneg im0 id0
    have e4 : 0 ≤ gm * gs := Int.mul_nonneg im0 is0
    obtain ⟨m1, hm1⟩ : ∃ x, gm * gd = x := ⟨_, rfl⟩
    obtain ⟨m2, hm2⟩ : ∃ x, gm * gs = x := ⟨_, rfl⟩
    rw [hm1] at e1 e3 ism
    rw [hm2] at e2 e4 iqm
    have hgcd : gd ≤ gc := by omega
    have t1 : (gc == gc) = true := by simp
    have t2 : (gd == gd) = true := by simp
    have t3 : (gm == gm) = true := by simp
    have t4 : (gs == gs) = true := by simp
    have t5 : (gq == gq) = true := by simp
    have q1 : decide (m1 < gs) = false := by simp; omega
    have q2 : decide (m2 < gq) = false := by simp; omega
    have q3 : decide (gc < gd) = false := by simp; omega
    clear hgc hgd hgm hgs hgq ic id1 is1 iq1
    obtain ⟨g0, g1, g2, g3, g4, _⟩ := five R7'.out
    obtain ⟨h0, h1, h2, h3, h4, _⟩ := five R8'.out
    obtain ⟨s0, s1, s2, s3, s4, _⟩ := five R9'.out
    obtain ⟨c0, c1, c2⟩ := three HLX.out
    obtain ⟨r, kf, hf, hr0, hr1, hr2, hr3⟩ := hist_sums p.W p.H p.l (1 + bn) (by omega) (by omega) (by omega)
    have HF := Lib.hid hf
    have HR1 := Lib.hid hr1
    have HR2 := Lib.hid hr2
    have HR3 := Lib.hid hr3
    clear hf hr1 hr2 hr3
    have hbn1 := hbn.1
    have hbn2 := hbn.2
    clear hbn
    have HPXr : Hid (RW w' p.A p.c p.l) := Lib.hid (ok_rw HPX.out)
    go_wp2_with fail
    with_reducible refine (f14_r p.W p.H p.A p.c p.l (1 + bn) 255 r kf HF w' HPXr).mono ?_
    rintro e w2 ⟨A1, c1', rfl, hrw, hb2⟩
    have HX := Lib.hid hrw
    have HBY := Lib.hid (HBX.out.trans (hb2.mono HBX.out.size))
    have HLY := Lib.hid (blk_below HLX.out hb2)
    have HPY := Lib.hid (HPX.out.below hb2)
    have HSY := Lib.hid (blk_below R9'.out hb2)
    clear hrw hb2 HBX HLX HPX R7' R8' R9' g0 g1 g2 g3 g4 h0 h1 h2 h3 h4 s0 s1 s2 s3 s4 c0 c1 c2 HF q1 q2 q3 t1 t2 t3 t4 t5 hgcd
    go_wp2_with fail
    go_loopw [10, 84] (fun v10 v84 wr => ∃ k : Nat, v84 = .int .i64 k ∧ v10 = .int .i64 (psum r k) ∧ k ≤ r.length ∧ wr = w2) (fun _ v84 _ => r.length - (intOf v84).toNat)
    case atStart => exact ⟨0, rfl, rfl, by omega, rfl⟩
    case round =>
      obtain ⟨k, rfl, rfl, hk, rfl⟩ := hrel
      obtain ⟨u0, u1⟩ := HR1.out k hk
      by_cases hlt : k < r.length
      · obtain ⟨x1, y1, rfl, _, d1⟩ := HX.out.at_ k hlt
        obtain ⟨z0, z1⟩ := HR2.out k hlt
        have HPS : Hid (psum r (k + 1) = psum r k + r.getD k 0) := Lib.hid rfl
        obtain ⟨z, hz⟩ : ∃ z, r.getD k 0 = z := ⟨_, rfl⟩
        obtain ⟨ps, hps⟩ : ∃ z, psum r k = z := ⟨_, rfl⟩
        rw [hz] at d1 HPS z0 z1
        rw [hps] at HPS u0 u1
        rw [hps]
        clear hz hps
        have hk0 : (0 : Int) ≤ k := by omega
        have hk1 : (k : Int) < r.length := by omega
        go_wp2_with fail
        go_roundw
        case rel => exact ⟨k + 1, by go_num, by rw [HPS.out], by omega, trivial⟩
        case measure => simp [intOf]; omega
      · obtain rfl : k = r.length := by omega
        obtain ⟨ps, hps⟩ : ∃ z, psum r r.length = z := ⟨_, rfl⟩
        rw [hps] at HR3 u0 u1
        rw [hps]
        clear hps
        obtain ⟨c0, c1, c2⟩ := three HLY.out
        obtain ⟨s0, s1, s2, s3, s4, _⟩ := five HSY.out
        have HRT := Lib.hid (f17_any p.W p.H p.A p.c p.l wr (Lib.hid (ok_rw HPY.out)))
        cases hrt : rtB p.W p.H p.l.length with
        | false =>
          rw [hrt] at HRT
          clear hrt
          go_wp2_with fail
          with_reducible refine HRT.out.mono ?_
          rintro e w3 ⟨rfl, hb3⟩
          go_wp2_with fail
          go_ret
          exact ⟨rfl, HBY.out.trans (hb3.mono HBY.out.size)⟩
        | true =>
          rw [hrt] at HRT
          have h1 := HR3.out hrt
          have h2 := HKK.out
          rw [hrt, if_pos rfl] at h2
          subst h1
          subst h2
          clear hrt
          have tt : (((p.l.length : Int)) == ((p.l.length : Int))) = true := by simp
          go_wp2_with fail
          with_reducible refine HRT.out.mono ?_
          rintro e w3 ⟨rfl, hb3⟩
          obtain ⟨c0, c1, c2⟩ := three (blk_below HLY.out hb3)
          obtain ⟨s0, s1, s2, s3, s4, _⟩ := five (blk_below HSY.out hb3)
          have HB3 := Lib.hid (HBY.out.trans (hb3.mono HBY.out.size))
          clear hb3
          go_wp2_with fail
          go_ret
          exact ⟨rfl, HB3.out⟩
end Go.Proofs.YtecijaibbjafoaaDoor
