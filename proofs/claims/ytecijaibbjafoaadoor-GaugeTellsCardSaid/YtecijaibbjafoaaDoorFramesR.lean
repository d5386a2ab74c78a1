import Derived.Test.YtecijaibbjafoaaDoorHoldsP
namespace Go.Proofs.YtecijaibbjafoaaDoor
open Go.RowKit Go.Proofs.YtecijaibbjafoaaDoorW.PrintWords Go.Proofs.YtecijaibbjafoaaDoorW.PrintLast Go.Proofs.YtecijaibbjafoaaDoorW.PrintMore Go.Proofs.YtecijaibbjafoaaDoor.PG
set_option linter.unusedVariables false
set_option linter.unusedSimpArgs false
def f18_T : Bool × List (List Nat × List Nat) := (true, [([], []), ([0], [0]), ([1], [1]), ([], []), ([3], [3]), ([4], [4]), ([2, 5], [2, 5]), ([], []), ([7], [7]), ([8], [8]), ([], []), ([10], [10]), ([11], [11]), ([9, 12, 6], [9, 12]), ([6, 13, 13], [6, 13]), ([], []), ([15], [15]), ([16], [16]), ([], []), ([18], [18]), ([19], [19]), ([17, 20, 14], [17, 20]), ([14, 21, 21], [14, 21]), ([22, 22, 0, 1, 2, 3, 4, 5, 6, 7, 8, 9, 10, 11, 12, 13, 14, 15, 16, 17, 18, 19, 20, 21, 22], [22])])
def f18_B : List Nat := [0, 1, 3, 0, 8, 24, 63, 0, 128, 384, 0, 1024, 3072, 8191, 16383, 0, 32768, 98304, 0, 262144, 786432, 2097151, 4194303, 8388607]
theorem f18_tab : rtab .any (opsOf Tryd.f18 1) = f18_T := by kernel_rfl
theorem f18_bits : waitsOk f18_T.2 f18_B = true := by kernel_rfl
set_option maxHeartbeats 16000000 in
set_option maxRecDepth 100000 in
theorem f18_any (p0 p1 p2 q0 q1 q2 : Pn) (r0 r1 r2 t r : G5) (w : World) (hp0 : Hid (p0.ok w)) (hp1 : Hid (p1.ok w)) (hp2 : Hid (p2.ok w)) (hq0 : Hid (q0.ok w)) (hq1 : Hid (q1.ok w)) (hq2 : Hid (q2.ok w))
    (e0 : Hid (gP p0 q0 = r0)) (e1 : Hid (gP p1 q1 = r1)) (e2 : Hid (gP p2 q2 = r2)) (j1 : Hid (r0.join r1 = t)) (j2 : Hid (t.join r2 = r)) :
    Calls Tryd.prog 18 #[.agg #[Value.int .i64 p0.W, .int .i64 p0.H, .slice p0.A p0.l.length p0.c, .int .i64 p1.W, .int .i64 p1.H, .slice p1.A p1.l.length p1.c, .int .i64 p2.W, .int .i64 p2.H, .slice p2.A p2.l.length p2.c], .agg #[Value.int .i64 q0.W, .int .i64 q0.H, .slice q0.A q0.l.length q0.c, .int .i64 q1.W, .int .i64 q1.H, .slice q1.A q1.l.length q1.c, .int .i64 q2.W, .int .i64 q2.H, .slice q2.A q2.l.length q2.c]] w fun e w' => e = .returned (.agg #[.int .i64 r.c, .int .i64 r.d, .int .i64 r.m, .int .i64 r.s, .int .i64 r.q]) ∧ Below w.heap.size w w' := by
  obtain ⟨wb, hwb⟩ : ∃ wb, wb = ((w.alloc (.cells #[Value.int .i64 p0.W, .int .i64 p0.H, .slice p0.A p0.l.length p0.c, .int .i64 p1.W, .int .i64 p1.H, .slice p1.A p1.l.length p1.c, .int .i64 p2.W, .int .i64 p2.H, .slice p2.A p2.l.length p2.c] 42)).alloc (.cells #[Value.int .i64 q0.W, .int .i64 q0.H, .slice q0.A q0.l.length q0.c, .int .i64 q1.W, .int .i64 q1.H, .slice q1.A q1.l.length q1.c, .int .i64 q2.W, .int .i64 q2.H, .slice q2.A q2.l.length q2.c] 42)).alloc (.cells #[.int .i64 0, .int .i64 0, .int .i64 0, .int .i64 0, .int .i64 0] 23) := ⟨_, rfl⟩
  obtain ⟨B, hB⟩ : ∃ B, B = w.heap.size := ⟨_, rfl⟩
  have HB : Hid (Below B w wb) := by rw [hwb, hB]; exact Lib.hid (by go_grown)
  have HFQ : Hid (FQ B #[Value.int .i64 p0.W, .int .i64 p0.H, .slice p0.A p0.l.length p0.c, .int .i64 p1.W, .int .i64 p1.H, .slice p1.A p1.l.length p1.c, .int .i64 p2.W, .int .i64 p2.H, .slice p2.A p2.l.length p2.c] #[Value.int .i64 q0.W, .int .i64 q0.H, .slice q0.A q0.l.length q0.c, .int .i64 q1.W, .int .i64 q1.H, .slice q1.A q1.l.length q1.c, .int .i64 q2.W, .int .i64 q2.H, .slice q2.A q2.l.length q2.c] #[.int .i64 0, .int .i64 0, .int .i64 0, .int .i64 0, .int .i64 0] wb) := by rw [hwb, hB]; exact Lib.hid (fq_start _ _ _)
  have HWB := Lib.hid hwb
  have HBB := Lib.hid hB
  clear hwb hB
  go_enter Tryd.func18, Tryd.ntmps18
  go_wp2_with fail
  rw [← HWB.out, ← HBB.out]
  clear HWB
  refine start_ (n := 24) (S := fun w' => True) (ds := []) #[false, false, false, false, false, false, false, false, false, false, false, false, false, false, false, false, false, false, false, false, false, false, false, false] (by kernel_rfl) rfl rfl trivial (fun hHeld => ?_)
  obtain ⟨w0, hw0⟩ : ∃ w0, w0 = wb.drew := ⟨_, rfl⟩
  rw [← hw0]
  have HB0 : Hid (Below B w w0) := by rw [hw0]; exact Lib.hid HB.out.drew
  have bx_p : Hid (∀ {w' : World}, Below (B + 1 + 1) w0 w' → w'.heap[B]? = some (.cells #[.int .i64 p0.W, .int .i64 p0.H, .slice p0.A p0.l.length p0.c, .int .i64 p1.W, .int .i64 p1.H, .slice p1.A p1.l.length p1.c, .int .i64 p2.W, .int .i64 p2.H, .slice p2.A p2.l.length p2.c] 42 (0, 0))) := by rw [hw0]; exact Lib.hid (fun hb => (hb.block B (by omega)).trans (blk_drew HFQ.out.p))
  have bx_q : Hid (∀ {w' : World}, Below (B + 1 + 1) w0 w' → w'.heap[B + 1]? = some (.cells #[.int .i64 q0.W, .int .i64 q0.H, .slice q0.A q0.l.length q0.c, .int .i64 q1.W, .int .i64 q1.H, .slice q1.A q1.l.length q1.c, .int .i64 q2.W, .int .i64 q2.H, .slice q2.A q2.l.length q2.c] 42 (0, 0))) := by rw [hw0]; exact Lib.hid (fun hb => (hb.block (B + 1) (by omega)).trans (blk_drew HFQ.out.q))
  have HZ : Hid (w0.heap[B + 1 + 1]? = some (.cells #[.int .i64 0, .int .i64 0, .int .i64 0, .int .i64 0, .int .i64 0] 23 (0, 0))) := by rw [hw0]; exact Lib.hid (blk_drew HFQ.out.r)
  have H0 : Hid (∀ {w' : World}, Below (B + 1 + 1) w0 w' → Hid (p0.ok w') ∧ Hid (q0.ok w')) := Lib.hid (fun hb => ⟨Lib.hid (hp0.out.below (HBB.out ▸ HB0.out.trans (hb.mono (by omega)))), Lib.hid (hq0.out.below (HBB.out ▸ HB0.out.trans (hb.mono (by omega))))⟩)
  have H1 : Hid (∀ {w' : World}, Below (B + 1 + 1) w0 w' → Hid (p1.ok w') ∧ Hid (q1.ok w')) := Lib.hid (fun hb => ⟨Lib.hid (hp1.out.below (HBB.out ▸ HB0.out.trans (hb.mono (by omega)))), Lib.hid (hq1.out.below (HBB.out ▸ HB0.out.trans (hb.mono (by omega))))⟩)
  have H2 : Hid (∀ {w' : World}, Below (B + 1 + 1) w0 w' → Hid (p2.ok w') ∧ Hid (q2.ok w')) := Lib.hid (fun hb => ⟨Lib.hid (hp2.out.below (HBB.out ▸ HB0.out.trans (hb.mono (by omega)))), Lib.hid (hq2.out.below (HBB.out ▸ HB0.out.trans (hb.mono (by omega))))⟩)
  clear hw0 HB HFQ hp0 hp1 hp2 hq0 hq1 hq2
  refine with_tabW f18_tab f18_bits (fun HT_ HW_ => ?_)
  refine pure_ (i := 0) (N := some 5) (v := ?_) (a' := ?_) #[true, false, false, false, false, false, false, false, false, false, false, false, false, false, false, false, false, false, false, false, false, false, false, false] rfl rfl (by kernel_rfl) (fun _ _ _ h => h) (Or.inl ⟨by rfl, ?_⟩) ?_ ?_
  rotate_left
  · intro w'
    go_simp
    with_reducible rfl
  rotate_left
  · simp only [Act.put, List.setIfInBounds_toArray, List.set_cons_zero, List.set_cons_succ, i64_w, i32_w]
    rfl
  refine pure_ (i := 1) (N := some 6) (v := ?_) (a' := ?_) #[true, true, false, false, false, false, false, false, false, false, false, false, false, false, false, false, false, false, false, false, false, false, false, false] rfl rfl (by kernel_rfl) (fun _ _ _ h => h) (Or.inl ⟨by rfl, ?_⟩) ?_ ?_
  rotate_left
  · intro w'
    go_simp
    with_reducible rfl
  rotate_left
  · simp only [Act.put, List.setIfInBounds_toArray, List.set_cons_zero, List.set_cons_succ, i64_w, i32_w]
    rfl
  refine pure_ (i := 3) (N := some 8) (v := ?_) (a' := ?_) #[true, true, false, true, false, false, false, false, false, false, false, false, false, false, false, false, false, false, false, false, false, false, false, false] rfl rfl (by kernel_rfl) (fun _ _ _ h => h) (Or.inl ⟨by rfl, ?_⟩) ?_ ?_
  rotate_left
  · intro w'
    go_simp
    with_reducible rfl
  rotate_left
  · simp only [Act.put, List.setIfInBounds_toArray, List.set_cons_zero, List.set_cons_succ, i64_w, i32_w]
    rfl
  refine pure_ (i := 4) (N := some 9) (v := ?_) (a' := ?_) #[true, true, false, true, true, false, false, false, false, false, false, false, false, false, false, false, false, false, false, false, false, false, false, false] rfl rfl (by kernel_rfl) (fun _ _ _ h => h) (Or.inl ⟨by rfl, ?_⟩) ?_ ?_
  rotate_left
  · intro w'
    go_simp
    with_reducible rfl
  rotate_left
  · simp only [Act.put, List.setIfInBounds_toArray, List.set_cons_zero, List.set_cons_succ, i64_w, i32_w]
    rfl
  refine pure_ (i := 7) (N := some 12) (v := ?_) (a' := ?_) #[true, true, false, true, true, false, false, true, false, false, false, false, false, false, false, false, false, false, false, false, false, false, false, false] rfl rfl (by kernel_rfl) (fun _ _ _ h => h) (Or.inl ⟨by rfl, ?_⟩) ?_ ?_
  rotate_left
  · intro w'
    go_simp
    with_reducible rfl
  rotate_left
  · simp only [Act.put, List.setIfInBounds_toArray, List.set_cons_zero, List.set_cons_succ, i64_w, i32_w]
    rfl
  refine pure_ (i := 8) (N := some 13) (v := ?_) (a' := ?_) #[true, true, false, true, true, false, false, true, true, false, false, false, false, false, false, false, false, false, false, false, false, false, false, false] rfl rfl (by kernel_rfl) (fun _ _ _ h => h) (Or.inl ⟨by rfl, ?_⟩) ?_ ?_
  rotate_left
  · intro w'
    go_simp
    with_reducible rfl
  rotate_left
  · simp only [Act.put, List.setIfInBounds_toArray, List.set_cons_zero, List.set_cons_succ, i64_w, i32_w]
    rfl
  refine pure_ (i := 10) (N := some 15) (v := ?_) (a' := ?_) #[true, true, false, true, true, false, false, true, true, false, true, false, false, false, false, false, false, false, false, false, false, false, false, false] rfl rfl (by kernel_rfl) (fun _ _ _ h => h) (Or.inl ⟨by rfl, ?_⟩) ?_ ?_
  rotate_left
  · intro w'
    go_simp
    with_reducible rfl
  rotate_left
  · simp only [Act.put, List.setIfInBounds_toArray, List.set_cons_zero, List.set_cons_succ, i64_w, i32_w]
    rfl
  refine pure_ (i := 11) (N := some 16) (v := ?_) (a' := ?_) #[true, true, false, true, true, false, false, true, true, false, true, true, false, false, false, false, false, false, false, false, false, false, false, false] rfl rfl (by kernel_rfl) (fun _ _ _ h => h) (Or.inl ⟨by rfl, ?_⟩) ?_ ?_
  rotate_left
  · intro w'
    go_simp
    with_reducible rfl
  rotate_left
  · simp only [Act.put, List.setIfInBounds_toArray, List.set_cons_zero, List.set_cons_succ, i64_w, i32_w]
    rfl
  refine pure_ (i := 15) (N := some 20) (v := ?_) (a' := ?_) #[true, true, false, true, true, false, false, true, true, false, true, true, false, false, false, true, false, false, false, false, false, false, false, false] rfl rfl (by kernel_rfl) (fun _ _ _ h => h) (Or.inl ⟨by rfl, ?_⟩) ?_ ?_
  rotate_left
  · intro w'
    go_simp
    with_reducible rfl
  rotate_left
  · simp only [Act.put, List.setIfInBounds_toArray, List.set_cons_zero, List.set_cons_succ, i64_w, i32_w]
    rfl
  refine pure_ (i := 16) (N := some 21) (v := ?_) (a' := ?_) #[true, true, false, true, true, false, false, true, true, false, true, true, false, false, false, true, true, false, false, false, false, false, false, false] rfl rfl (by kernel_rfl) (fun _ _ _ h => h) (Or.inl ⟨by rfl, ?_⟩) ?_ ?_
  rotate_left
  · intro w'
    go_simp
    with_reducible rfl
  rotate_left
  · simp only [Act.put, List.setIfInBounds_toArray, List.set_cons_zero, List.set_cons_succ, i64_w, i32_w]
    rfl
  refine pure_ (i := 18) (N := some 23) (v := ?_) (a' := ?_) #[true, true, false, true, true, false, false, true, true, false, true, true, false, false, false, true, true, false, true, false, false, false, false, false] rfl rfl (by kernel_rfl) (fun _ _ _ h => h) (Or.inl ⟨by rfl, ?_⟩) ?_ ?_
  rotate_left
  · intro w'
    go_simp
    with_reducible rfl
  rotate_left
  · simp only [Act.put, List.setIfInBounds_toArray, List.set_cons_zero, List.set_cons_succ, i64_w, i32_w]
    rfl
  refine pure_ (i := 19) (N := some 24) (v := ?_) (a' := ?_) #[true, true, false, true, true, false, false, true, true, false, true, true, false, false, false, true, true, false, true, true, false, false, false, false] rfl rfl (by kernel_rfl) (fun _ _ _ h => h) (Or.inl ⟨by rfl, ?_⟩) ?_ ?_
  rotate_left
  · intro w'
    go_simp
    with_reducible rfl
  rotate_left
  · simp only [Act.put, List.setIfInBounds_toArray, List.set_cons_zero, List.set_cons_succ, i64_w, i32_w]
    rfl
  refine inv_at [2, 5, 6, 9, 12, 13, 14, 17, 20, 21, 22, 23] (fun a0_ b a w' => a = putSel a0_ b [(2, 7, (.agg #[.int .i64 p0.W, .int .i64 p0.H, .slice p0.A p0.l.length p0.c])), (5, 10, (.agg #[.int .i64 q0.W, .int .i64 q0.H, .slice q0.A q0.l.length q0.c])), (6, 11, (.agg #[.int .i64 r0.c, .int .i64 r0.d, .int .i64 r0.m, .int .i64 r0.s, .int .i64 r0.q])), (9, 14, (.agg #[.int .i64 p1.W, .int .i64 p1.H, .slice p1.A p1.l.length p1.c])), (12, 17, (.agg #[.int .i64 q1.W, .int .i64 q1.H, .slice q1.A q1.l.length q1.c])), (13, 18, (.agg #[.int .i64 r1.c, .int .i64 r1.d, .int .i64 r1.m, .int .i64 r1.s, .int .i64 r1.q])), (14, 19, (.agg #[.int .i64 t.c, .int .i64 t.d, .int .i64 t.m, .int .i64 t.s, .int .i64 t.q])), (17, 22, (.agg #[.int .i64 p2.W, .int .i64 p2.H, .slice p2.A p2.l.length p2.c])), (20, 25, (.agg #[.int .i64 q2.W, .int .i64 q2.H, .slice q2.A q2.l.length q2.c])), (21, 26, (.agg #[.int .i64 r2.c, .int .i64 r2.d, .int .i64 r2.m, .int .i64 r2.s, .int .i64 r2.q])), (22, 27, (.agg #[.int .i64 r.c, .int .i64 r.d, .int .i64 r.m, .int .i64 r.s, .int .i64 r.q]))] ∧ (Below (B + 1 + 1) w0 w') ∧ (b 23 = false → w'.heap[B + 1 + 1]? = some (.cells #[.int .i64 0, .int .i64 0, .int .i64 0, .int .i64 0, .int .i64 0] 23 (0, 0))) ∧ (b 23 = true → w'.heap[B + 1 + 1]? = some (.cells #[.int .i64 r.c, .int .i64 r.d, .int .i64 r.m, .int .i64 r.s, .int .i64 r.q] 23 (0, 0)))) HT_.out HW_.out (by kernel_rfl) (by kernel_rfl) ?_ ?_ ?_
  · exact ⟨by simp only [putSel, Bool.false_eq_true, if_false], Below.refl _ _, fun _ => HZ.out, fun h_ => absurd h_ (by decide)⟩
  · skip
    refine steps_cons ?_ ?_
    · rintro b a w' ⟨ha, Q_BE, Q_Z, Q_R⟩ hb_ hon hoff
      refine ⟨_, rfl, fun K hK => ?_⟩
      have e6 : a.tmps[6]? = some (.pointer (some ⟨B, 0, none⟩)) := by rw [ha]; exact (putSel_off rfl).trans rfl
      replace ha := Aside0.mk ha
      have BE := Aside0.mk Q_BE
      have Z := Aside0.mk (Q_Z (hoff 23 (by kernel_rfl)))
      have c0 := cells3 (bx_p.out BE.out) 0 _ rfl
      have c1 := cells3 (bx_p.out BE.out) 1 _ rfl
      have c2 := cells3 (bx_p.out BE.out) 2 _ rfl
      refine value_ (w1 := w') (v := (.agg #[.int .i64 p0.W, .int .i64 p0.H, .slice p0.A p0.l.length p0.c])) (by rfl) rfl ?_ ?_
      · go_simp
        (try simp only [i64_w])
        try rfl
      refine hK.out _ _ ⟨(by rw [ha.out]; exact putSel_upk 0 hb_ rfl rfl rfl), Q_BE, Q_Z, fun h0_ => absurd ((hoff 23 (by kernel_rfl)).symm.trans h0_) (by decide)⟩
    refine steps_cons ?_ ?_
    · rintro b a w' ⟨ha, Q_BE, Q_Z, Q_R⟩ hb_ hon hoff
      refine ⟨_, rfl, fun K hK => ?_⟩
      have e9 : a.tmps[9]? = some (.pointer (some ⟨B + 1, 0, none⟩)) := by rw [ha]; exact (putSel_off rfl).trans rfl
      replace ha := Aside0.mk ha
      have BE := Aside0.mk Q_BE
      have Z := Aside0.mk (Q_Z (hoff 23 (by kernel_rfl)))
      have c0 := cells3 (bx_q.out BE.out) 0 _ rfl
      have c1 := cells3 (bx_q.out BE.out) 1 _ rfl
      have c2 := cells3 (bx_q.out BE.out) 2 _ rfl
      refine value_ (w1 := w') (v := (.agg #[.int .i64 q0.W, .int .i64 q0.H, .slice q0.A q0.l.length q0.c])) (by rfl) rfl ?_ ?_
      · go_simp
        (try simp only [i64_w])
        try rfl
      refine hK.out _ _ ⟨(by rw [ha.out]; exact putSel_upk 1 hb_ rfl rfl rfl), Q_BE, Q_Z, fun h0_ => absurd ((hoff 23 (by kernel_rfl)).symm.trans h0_) (by decide)⟩
    refine steps_cons ?_ ?_
    · rintro b a w' ⟨ha, Q_BE, Q_Z, Q_R⟩ hb_ hon hoff
      refine ⟨_, rfl, fun K hK => ?_⟩
      have e7 : a.tmps[7]? = some ((.agg #[.int .i64 p0.W, .int .i64 p0.H, .slice p0.A p0.l.length p0.c])) := by rw [ha]; exact putSel_on (e := (2, 7, (.agg #[.int .i64 p0.W, .int .i64 p0.H, .slice p0.A p0.l.length p0.c]))) 0 rfl rfl (hon 2 (by kernel_rfl)) rfl
      have e10 : a.tmps[10]? = some ((.agg #[.int .i64 q0.W, .int .i64 q0.H, .slice q0.A q0.l.length q0.c])) := by rw [ha]; exact putSel_on (e := (5, 10, (.agg #[.int .i64 q0.W, .int .i64 q0.H, .slice q0.A q0.l.length q0.c]))) 1 rfl rfl (hon 5 (by kernel_rfl)) rfl
      replace ha := Aside0.mk ha
      have BE := Aside0.mk Q_BE
      have Z := Aside0.mk (Q_Z (hoff 23 (by kernel_rfl)))
      refine goes_ Tryd.func20 (by kernel_rfl) rfl #[(.agg #[.int .i64 p0.W, .int .i64 p0.H, .slice p0.A p0.l.length p0.c]), (.agg #[.int .i64 q0.W, .int .i64 q0.H, .slice q0.A q0.l.length q0.c])] (by rfl) rfl rfl (by first | (simp only [List.map_toArray, List.map_cons, List.map_nil, Act.eval, Array.getD_eq_getD_getElem?, Option.getD_some, e7, e10]; done) | (simp only [List.map_toArray, List.map_cons, List.map_nil, Act.eval, Array.getD_eq_getD_getElem?, Option.getD_some, e7, e10]; rfl)) ?_
      refine (f20_P p0 q0 r0 e0 w' (H0.out BE.out).1 (H0.out BE.out).2).mono ?_
      rintro e w2 ⟨rfl, hb⟩
      have hlt := blk_lt Z.out
      refine ⟨_, rfl, ?_⟩
      refine hK.out _ _ ⟨(by rw [ha.out]; exact putSel_upk 2 hb_ rfl rfl rfl), BE.out.trans (hb.mono (by omega)), fun _ => blk_below Z.out hb, fun h0_ => absurd ((hoff 23 (by kernel_rfl)).symm.trans h0_) (by decide)⟩
    refine steps_cons ?_ ?_
    · rintro b a w' ⟨ha, Q_BE, Q_Z, Q_R⟩ hb_ hon hoff
      refine ⟨_, rfl, fun K hK => ?_⟩
      have e13 : a.tmps[13]? = some (.pointer (some ⟨B, 3, none⟩)) := by rw [ha]; exact (putSel_off rfl).trans rfl
      replace ha := Aside0.mk ha
      have BE := Aside0.mk Q_BE
      have Z := Aside0.mk (Q_Z (hoff 23 (by kernel_rfl)))
      have c0 := cells3 (bx_p.out BE.out) 3 _ rfl
      have c1 := cells3 (bx_p.out BE.out) 4 _ rfl
      have c2 := cells3 (bx_p.out BE.out) 5 _ rfl
      refine value_ (w1 := w') (v := (.agg #[.int .i64 p1.W, .int .i64 p1.H, .slice p1.A p1.l.length p1.c])) (by rfl) rfl ?_ ?_
      · go_simp
        (try simp only [i64_w])
        try rfl
      refine hK.out _ _ ⟨(by rw [ha.out]; exact putSel_upk 3 hb_ rfl rfl rfl), Q_BE, Q_Z, fun h0_ => absurd ((hoff 23 (by kernel_rfl)).symm.trans h0_) (by decide)⟩
    refine steps_cons ?_ ?_
    · rintro b a w' ⟨ha, Q_BE, Q_Z, Q_R⟩ hb_ hon hoff
      refine ⟨_, rfl, fun K hK => ?_⟩
      have e16 : a.tmps[16]? = some (.pointer (some ⟨B + 1, 3, none⟩)) := by rw [ha]; exact (putSel_off rfl).trans rfl
      replace ha := Aside0.mk ha
      have BE := Aside0.mk Q_BE
      have Z := Aside0.mk (Q_Z (hoff 23 (by kernel_rfl)))
      have c0 := cells3 (bx_q.out BE.out) 3 _ rfl
      have c1 := cells3 (bx_q.out BE.out) 4 _ rfl
      have c2 := cells3 (bx_q.out BE.out) 5 _ rfl
      refine value_ (w1 := w') (v := (.agg #[.int .i64 q1.W, .int .i64 q1.H, .slice q1.A q1.l.length q1.c])) (by rfl) rfl ?_ ?_
      · go_simp
        (try simp only [i64_w])
        try rfl
      refine hK.out _ _ ⟨(by rw [ha.out]; exact putSel_upk 4 hb_ rfl rfl rfl), Q_BE, Q_Z, fun h0_ => absurd ((hoff 23 (by kernel_rfl)).symm.trans h0_) (by decide)⟩
    refine steps_cons ?_ ?_
    · rintro b a w' ⟨ha, Q_BE, Q_Z, Q_R⟩ hb_ hon hoff
      refine ⟨_, rfl, fun K hK => ?_⟩
      have e14 : a.tmps[14]? = some ((.agg #[.int .i64 p1.W, .int .i64 p1.H, .slice p1.A p1.l.length p1.c])) := by rw [ha]; exact putSel_on (e := (9, 14, (.agg #[.int .i64 p1.W, .int .i64 p1.H, .slice p1.A p1.l.length p1.c]))) 3 rfl rfl (hon 9 (by kernel_rfl)) rfl
      have e17 : a.tmps[17]? = some ((.agg #[.int .i64 q1.W, .int .i64 q1.H, .slice q1.A q1.l.length q1.c])) := by rw [ha]; exact putSel_on (e := (12, 17, (.agg #[.int .i64 q1.W, .int .i64 q1.H, .slice q1.A q1.l.length q1.c]))) 4 rfl rfl (hon 12 (by kernel_rfl)) rfl
      replace ha := Aside0.mk ha
      have BE := Aside0.mk Q_BE
      have Z := Aside0.mk (Q_Z (hoff 23 (by kernel_rfl)))
      refine goes_ Tryd.func20 (by kernel_rfl) rfl #[(.agg #[.int .i64 p1.W, .int .i64 p1.H, .slice p1.A p1.l.length p1.c]), (.agg #[.int .i64 q1.W, .int .i64 q1.H, .slice q1.A q1.l.length q1.c])] (by rfl) rfl rfl (by first | (simp only [List.map_toArray, List.map_cons, List.map_nil, Act.eval, Array.getD_eq_getD_getElem?, Option.getD_some, e14, e17]; done) | (simp only [List.map_toArray, List.map_cons, List.map_nil, Act.eval, Array.getD_eq_getD_getElem?, Option.getD_some, e14, e17]; rfl)) ?_
      refine (f20_P p1 q1 r1 e1 w' (H1.out BE.out).1 (H1.out BE.out).2).mono ?_
      rintro e w2 ⟨rfl, hb⟩
      have hlt := blk_lt Z.out
      refine ⟨_, rfl, ?_⟩
      refine hK.out _ _ ⟨(by rw [ha.out]; exact putSel_upk 5 hb_ rfl rfl rfl), BE.out.trans (hb.mono (by omega)), fun _ => blk_below Z.out hb, fun h0_ => absurd ((hoff 23 (by kernel_rfl)).symm.trans h0_) (by decide)⟩
    refine steps_cons ?_ ?_
    · rintro b a w' ⟨ha, Q_BE, Q_Z, Q_R⟩ hb_ hon hoff
      refine ⟨_, rfl, fun K hK => ?_⟩
      have e11 : a.tmps[11]? = some ((.agg #[.int .i64 r0.c, .int .i64 r0.d, .int .i64 r0.m, .int .i64 r0.s, .int .i64 r0.q])) := by rw [ha]; exact putSel_on (e := (6, 11, (.agg #[.int .i64 r0.c, .int .i64 r0.d, .int .i64 r0.m, .int .i64 r0.s, .int .i64 r0.q]))) 2 rfl rfl (hon 6 (by kernel_rfl)) rfl
      have e18 : a.tmps[18]? = some ((.agg #[.int .i64 r1.c, .int .i64 r1.d, .int .i64 r1.m, .int .i64 r1.s, .int .i64 r1.q])) := by rw [ha]; exact putSel_on (e := (13, 18, (.agg #[.int .i64 r1.c, .int .i64 r1.d, .int .i64 r1.m, .int .i64 r1.s, .int .i64 r1.q]))) 5 rfl rfl (hon 13 (by kernel_rfl)) rfl
      replace ha := Aside0.mk ha
      have BE := Aside0.mk Q_BE
      have Z := Aside0.mk (Q_Z (hoff 23 (by kernel_rfl)))
      refine goes_ Tryd.func21 (by kernel_rfl) rfl #[(.agg #[.int .i64 r0.c, .int .i64 r0.d, .int .i64 r0.m, .int .i64 r0.s, .int .i64 r0.q]), (.agg #[.int .i64 r1.c, .int .i64 r1.d, .int .i64 r1.m, .int .i64 r1.s, .int .i64 r1.q])] (by rfl) rfl rfl (by first | (simp only [List.map_toArray, List.map_cons, List.map_nil, Act.eval, Array.getD_eq_getD_getElem?, Option.getD_some, e11, e18]; done) | (simp only [List.map_toArray, List.map_cons, List.map_nil, Act.eval, Array.getD_eq_getD_getElem?, Option.getD_some, e11, e18]; rfl)) ?_
      refine (f21_r r0 r1 t j1 w').mono ?_
      rintro e w2 ⟨rfl, hb⟩
      have hlt := blk_lt Z.out
      refine ⟨_, rfl, ?_⟩
      refine hK.out _ _ ⟨(by rw [ha.out]; exact putSel_upk 6 hb_ rfl rfl rfl), BE.out.trans (hb.mono (by omega)), fun _ => blk_below Z.out hb, fun h0_ => absurd ((hoff 23 (by kernel_rfl)).symm.trans h0_) (by decide)⟩
    refine steps_cons ?_ ?_
    · rintro b a w' ⟨ha, Q_BE, Q_Z, Q_R⟩ hb_ hon hoff
      refine ⟨_, rfl, fun K hK => ?_⟩
      have e21 : a.tmps[21]? = some (.pointer (some ⟨B, 6, none⟩)) := by rw [ha]; exact (putSel_off rfl).trans rfl
      replace ha := Aside0.mk ha
      have BE := Aside0.mk Q_BE
      have Z := Aside0.mk (Q_Z (hoff 23 (by kernel_rfl)))
      have c0 := cells3 (bx_p.out BE.out) 6 _ rfl
      have c1 := cells3 (bx_p.out BE.out) 7 _ rfl
      have c2 := cells3 (bx_p.out BE.out) 8 _ rfl
      refine value_ (w1 := w') (v := (.agg #[.int .i64 p2.W, .int .i64 p2.H, .slice p2.A p2.l.length p2.c])) (by rfl) rfl ?_ ?_
      · go_simp
        (try simp only [i64_w])
        try rfl
      refine hK.out _ _ ⟨(by rw [ha.out]; exact putSel_upk 7 hb_ rfl rfl rfl), Q_BE, Q_Z, fun h0_ => absurd ((hoff 23 (by kernel_rfl)).symm.trans h0_) (by decide)⟩
    refine steps_cons ?_ ?_
    · rintro b a w' ⟨ha, Q_BE, Q_Z, Q_R⟩ hb_ hon hoff
      refine ⟨_, rfl, fun K hK => ?_⟩
      have e24 : a.tmps[24]? = some (.pointer (some ⟨B + 1, 6, none⟩)) := by rw [ha]; exact (putSel_off rfl).trans rfl
      replace ha := Aside0.mk ha
      have BE := Aside0.mk Q_BE
      have Z := Aside0.mk (Q_Z (hoff 23 (by kernel_rfl)))
      have c0 := cells3 (bx_q.out BE.out) 6 _ rfl
      have c1 := cells3 (bx_q.out BE.out) 7 _ rfl
      have c2 := cells3 (bx_q.out BE.out) 8 _ rfl
      refine value_ (w1 := w') (v := (.agg #[.int .i64 q2.W, .int .i64 q2.H, .slice q2.A q2.l.length q2.c])) (by rfl) rfl ?_ ?_
      · go_simp
        (try simp only [i64_w])
        try rfl
      refine hK.out _ _ ⟨(by rw [ha.out]; exact putSel_upk 8 hb_ rfl rfl rfl), Q_BE, Q_Z, fun h0_ => absurd ((hoff 23 (by kernel_rfl)).symm.trans h0_) (by decide)⟩
    refine steps_cons ?_ ?_
    · rintro b a w' ⟨ha, Q_BE, Q_Z, Q_R⟩ hb_ hon hoff
      refine ⟨_, rfl, fun K hK => ?_⟩
      have e22 : a.tmps[22]? = some ((.agg #[.int .i64 p2.W, .int .i64 p2.H, .slice p2.A p2.l.length p2.c])) := by rw [ha]; exact putSel_on (e := (17, 22, (.agg #[.int .i64 p2.W, .int .i64 p2.H, .slice p2.A p2.l.length p2.c]))) 7 rfl rfl (hon 17 (by kernel_rfl)) rfl
      have e25 : a.tmps[25]? = some ((.agg #[.int .i64 q2.W, .int .i64 q2.H, .slice q2.A q2.l.length q2.c])) := by rw [ha]; exact putSel_on (e := (20, 25, (.agg #[.int .i64 q2.W, .int .i64 q2.H, .slice q2.A q2.l.length q2.c]))) 8 rfl rfl (hon 20 (by kernel_rfl)) rfl
      replace ha := Aside0.mk ha
      have BE := Aside0.mk Q_BE
      have Z := Aside0.mk (Q_Z (hoff 23 (by kernel_rfl)))
      refine goes_ Tryd.func20 (by kernel_rfl) rfl #[(.agg #[.int .i64 p2.W, .int .i64 p2.H, .slice p2.A p2.l.length p2.c]), (.agg #[.int .i64 q2.W, .int .i64 q2.H, .slice q2.A q2.l.length q2.c])] (by rfl) rfl rfl (by first | (simp only [List.map_toArray, List.map_cons, List.map_nil, Act.eval, Array.getD_eq_getD_getElem?, Option.getD_some, e22, e25]; done) | (simp only [List.map_toArray, List.map_cons, List.map_nil, Act.eval, Array.getD_eq_getD_getElem?, Option.getD_some, e22, e25]; rfl)) ?_
      refine (f20_P p2 q2 r2 e2 w' (H2.out BE.out).1 (H2.out BE.out).2).mono ?_
      rintro e w2 ⟨rfl, hb⟩
      have hlt := blk_lt Z.out
      refine ⟨_, rfl, ?_⟩
      refine hK.out _ _ ⟨(by rw [ha.out]; exact putSel_upk 9 hb_ rfl rfl rfl), BE.out.trans (hb.mono (by omega)), fun _ => blk_below Z.out hb, fun h0_ => absurd ((hoff 23 (by kernel_rfl)).symm.trans h0_) (by decide)⟩
    refine steps_cons ?_ ?_
    · rintro b a w' ⟨ha, Q_BE, Q_Z, Q_R⟩ hb_ hon hoff
      refine ⟨_, rfl, fun K hK => ?_⟩
      have e19 : a.tmps[19]? = some ((.agg #[.int .i64 t.c, .int .i64 t.d, .int .i64 t.m, .int .i64 t.s, .int .i64 t.q])) := by rw [ha]; exact putSel_on (e := (14, 19, (.agg #[.int .i64 t.c, .int .i64 t.d, .int .i64 t.m, .int .i64 t.s, .int .i64 t.q]))) 6 rfl rfl (hon 14 (by kernel_rfl)) rfl
      have e26 : a.tmps[26]? = some ((.agg #[.int .i64 r2.c, .int .i64 r2.d, .int .i64 r2.m, .int .i64 r2.s, .int .i64 r2.q])) := by rw [ha]; exact putSel_on (e := (21, 26, (.agg #[.int .i64 r2.c, .int .i64 r2.d, .int .i64 r2.m, .int .i64 r2.s, .int .i64 r2.q]))) 9 rfl rfl (hon 21 (by kernel_rfl)) rfl
      replace ha := Aside0.mk ha
      have BE := Aside0.mk Q_BE
      have Z := Aside0.mk (Q_Z (hoff 23 (by kernel_rfl)))
      refine goes_ Tryd.func21 (by kernel_rfl) rfl #[(.agg #[.int .i64 t.c, .int .i64 t.d, .int .i64 t.m, .int .i64 t.s, .int .i64 t.q]), (.agg #[.int .i64 r2.c, .int .i64 r2.d, .int .i64 r2.m, .int .i64 r2.s, .int .i64 r2.q])] (by rfl) rfl rfl (by first | (simp only [List.map_toArray, List.map_cons, List.map_nil, Act.eval, Array.getD_eq_getD_getElem?, Option.getD_some, e19, e26]; done) | (simp only [List.map_toArray, List.map_cons, List.map_nil, Act.eval, Array.getD_eq_getD_getElem?, Option.getD_some, e19, e26]; rfl)) ?_
      refine (f21_r t r2 r j2 w').mono ?_
      rintro e w2 ⟨rfl, hb⟩
      have hlt := blk_lt Z.out
      refine ⟨_, rfl, ?_⟩
      refine hK.out _ _ ⟨(by rw [ha.out]; exact putSel_upk 10 hb_ rfl rfl rfl), BE.out.trans (hb.mono (by omega)), fun _ => blk_below Z.out hb, fun h0_ => absurd ((hoff 23 (by kernel_rfl)).symm.trans h0_) (by decide)⟩
    refine steps_cons ?_ ?_
    · rintro b a w' ⟨ha, Q_BE, Q_Z, Q_R⟩ hb_ hon hoff
      refine ⟨_, rfl, fun K hK => ?_⟩
      have e4 : a.tmps[4]? = some (.pointer (some ⟨B + 1 + 1, 0, none⟩)) := by rw [ha]; exact (putSel_off rfl).trans rfl
      have e27 : a.tmps[27]? = some ((.agg #[.int .i64 r.c, .int .i64 r.d, .int .i64 r.m, .int .i64 r.s, .int .i64 r.q])) := by rw [ha]; exact putSel_on (e := (22, 27, (.agg #[.int .i64 r.c, .int .i64 r.d, .int .i64 r.m, .int .i64 r.s, .int .i64 r.q]))) 10 rfl rfl (hon 22 (by kernel_rfl)) rfl
      replace ha := Aside0.mk ha
      have BE := Aside0.mk Q_BE
      have Z := Aside0.mk (Q_Z hb_)
      obtain ⟨c0, c1, c2, c3, c4, z0, z1, z2, z3, z4⟩ := five Z.out
      refine skip_ (w1 := (((((w'.setCell ⟨B + 1 + 1, 0, none⟩ (.int .i64 r.c)).setCell ⟨B + 1 + 1, 1, none⟩ (.int .i64 r.d)).setCell ⟨B + 1 + 1, 2, none⟩ (.int .i64 r.m)).setCell ⟨B + 1 + 1, 3, none⟩ (.int .i64 r.s)).setCell ⟨B + 1 + 1, 4, none⟩ (.int .i64 r.q))) (by rfl) rfl ?_ ?_
      · go_simp
        try rfl
      refine hK.out _ _ ⟨(by rw [ha.out]; exact putSel_none (v := undef) rfl), five_below BE.out (Nat.le_refl _), fun h0_ => absurd ((up_self b 23).symm.trans h0_) (by decide), fun _ => five_put Z.out⟩
    exact steps_nil
  · rintro b a w' hall ⟨ha, Q_BE, Q_Z, Q_R⟩
    have hb2_ := hall 2 (by kernel_rfl)
    have hb5_ := hall 5 (by kernel_rfl)
    have hb6_ := hall 6 (by kernel_rfl)
    have hb9_ := hall 9 (by kernel_rfl)
    have hb12_ := hall 12 (by kernel_rfl)
    have hb13_ := hall 13 (by kernel_rfl)
    have hb14_ := hall 14 (by kernel_rfl)
    have hb17_ := hall 17 (by kernel_rfl)
    have hb20_ := hall 20 (by kernel_rfl)
    have hb21_ := hall 21 (by kernel_rfl)
    have hb22_ := hall 22 (by kernel_rfl)
    have hb23_ := hall 23 (by kernel_rfl)
    subst ha
    simp only [putSel, hb2_, hb5_, hb6_, hb9_, hb12_, hb13_, hb14_, hb17_, hb20_, hb21_, hb22_, if_true, Act.put, List.setIfInBounds_toArray, List.set_cons_zero, List.set_cons_succ]
    have BE := Aside0.mk Q_BE
    clear Q_BE
    clear Q_Z
    have R := Aside0.mk (Q_R hb23_)
    clear Q_R
    clear hall hb2_ hb5_ hb6_ hb9_ hb12_ hb13_ hb14_ hb17_ hb20_ hb21_ hb22_ hb23_
    clear HT_ HW_
    go_wp2_with fail
    exact bodyPost_ret (results_cell_row rfl _ _ (B + 1 + 1) 23 #[.int .i64 r.c, .int .i64 r.d, .int .i64 r.m, .int .i64 r.s, .int .i64 r.q] (0, 0) _ rfl R.out Tryd.underlying23 rfl (by kernel_rfl)) rfl ⟨rfl, HBB.out ▸ HB0.out.trans (BE.out.mono (by omega))⟩
end Go.Proofs.YtecijaibbjafoaaDoor
