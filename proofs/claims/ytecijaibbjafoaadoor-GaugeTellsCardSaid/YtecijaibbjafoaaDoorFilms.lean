import Derived.Test.YtecijaibbjafoaaDoorFilm
import Derived.Test.YtecijaibbjafoaaDoorOne
namespace Go.Proofs.YtecijaibbjafoaaDoor
open Go.RowKit Go.Proofs.YtecijaibbjafoaaDoorW.PrintWords Go.Proofs.YtecijaibbjafoaaDoorW.PrintLast Go.Proofs.YtecijaibbjafoaaDoorW.PrintMore Go.Proofs.YtecijaibbjafoaaDoor.PG
set_option linter.unusedVariables false
set_option linter.unusedSimpArgs false
def f22_T : Bool × List (List Nat × List Nat) := (true, [([], []), ([], []), ([], []), ([1, 2], [1, 2]), ([3], [3]), ([], []), ([], []), ([5, 6], [5, 6]), ([7], [7]), ([4, 8], [4, 8]), ([0, 9, 9], [0, 9]), ([10, 10, 0, 1, 2, 3, 4, 5, 6, 7, 8, 9, 10], [10])])
def f22_B : List Nat := [0, 0, 0, 6, 14, 0, 0, 96, 224, 510, 1023, 2047]
theorem f22_tab : rtab .any (opsOf Tryd.f22 5) = f22_T := by kernel_rfl
theorem f22_bits : waitsOk f22_T.2 f22_B = true := by kernel_rfl
theorem two_start (w : World) : ((w.alloc (.cells #[.int .i64 0, .int .i64 0, .int .i64 0, .int .i64 0, .int .i64 0] 23)).alloc (.cells #[.int .i64 0, .int .i64 0, .int .i64 0, .int .i64 0, .int .i64 0] 23)).heap[w.heap.size]? = some (.cells #[.int .i64 0, .int .i64 0, .int .i64 0, .int .i64 0, .int .i64 0] 23 (0, 0)) := blk_alloc (blk_new _ _) _
set_option maxHeartbeats 16000000 in
set_option maxRecDepth 100000 in
theorem f22_any (A : Option Addr) (c : Nat) (fs : List Fm) (A' : Option Addr) (c' : Nat) (gs : List Fm) (w : World) (h1 : Hid (FW w A fs)) (h2 : Hid (FW w A' gs)) (n : Nat) (hn : Hid (n = min fs.length gs.length)) (res : G5) (hres : Hid (gFs fs gs n = res)) :
    Calls Tryd.prog 22 #[.slice A fs.length c, .slice A' gs.length c'] w fun e w' => e = .returned (.agg #[.int .i64 res.c, .int .i64 res.d, .int .i64 res.m, .int .i64 res.s, .int .i64 res.q]) ∧ Below w.heap.size w w' := by
  obtain ⟨wl, hwl⟩ : ∃ wl, wl = (w.alloc (.cells #[.int .i64 0, .int .i64 0, .int .i64 0, .int .i64 0, .int .i64 0] 23)).alloc (.cells #[.int .i64 0, .int .i64 0, .int .i64 0, .int .i64 0, .int .i64 0] 23) := ⟨_, rfl⟩
  obtain ⟨B, hB⟩ : ∃ B, B = w.heap.size := ⟨_, rfl⟩
  obtain ⟨gb, hgb⟩ : ∃ gb, gb = w.heap.size + 1 := ⟨_, rfl⟩
  have HB3 : Hid (Below w.heap.size w wl) := by rw [hwl]; exact Lib.hid (by go_grown)
  have HG : Hid (GB wl gb .zero) := by rw [hwl, hgb]; exact Lib.hid (blk_at0 _ _ _ (by simp))
  have HRS : Hid (wl.heap[B]? = some (.cells #[.int .i64 0, .int .i64 0, .int .i64 0, .int .i64 0, .int .i64 0] 23 (0, 0))) := by rw [hwl, hB]; exact Lib.hid (two_start _)
  have hgB : w.heap.size ≤ gb := by omega
  have hBg : B < gb := by omega
  have HWL := Lib.hid hwl
  have HBB := Lib.hid hB
  have HGB := Lib.hid hgb
  have l1 := h1.out.1
  have l2 := h2.out.1
  have hn1 : n ≤ fs.length := by have := hn.out; omega
  have hn2 : n ≤ gs.length := by have := hn.out; omega
  have hn3 : fs.length ≤ n ∨ gs.length ≤ n := by have := hn.out; omega
  clear hwl hB hgb
  by_cases hn0 : 0 < n
  · obtain ⟨b1, o1, rfl, hb1, hc1⟩ := h1.out.2.1 (by omega)
    obtain ⟨b2, o2, rfl, hb2, hc2⟩ := h2.out.2.1 (by omega)
    have HN1 : Hid (∀ i, i < fs.length → Nine wl b1 (o1 + i * 9) (fs.getD i .none)) := Lib.hid (fun i hi => (hc1 i hi).below hb1 HB3.out)
    have HN2 : Hid (∀ i, i < gs.length → Nine wl b2 (o2 + i * 9) (gs.getD i .none)) := Lib.hid (fun i hi => (hc2 i hi).below hb2 HB3.out)
    have HO1 : Hid (∀ i, i < fs.length → (fs.getD i .none).ok w) := Lib.hid h1.out.2.2
    have HO2 : Hid (∀ i, i < gs.length → (gs.getD i .none).ok w) := Lib.hid h2.out.2.2
    have hb1g : b1 < gb := by omega
    have hb2g : b2 < gb := by omega
    clear hc1 hc2 h1 h2
    go_enter Tryd.func22, Tryd.ntmps22
    go_wp2_with fail
    all_goals
     rw [← HWL.out, ← HGB.out, ← HBB.out]
     clear HWL HGB
     go_loopw [12] (fun v12 wr => ∃ k : Nat, v12 = .int .i64 k ∧ k ≤ n ∧ Hid (Below gb wl wr) ∧ Hid (GB wr gb (gFs fs gs k))) (fun v12 _ => n - (intOf v12).toNat)
     case atStart => exact ⟨0, rfl, by omega, Lib.hid (Below.refl _ _), HG⟩
     case round =>
       obtain ⟨k, rfl, hk, HBL, HGK⟩ := hrel
       by_cases hlt : k < n
       · have hk1 : k < fs.length := by omega
         have hk2 : k < gs.length := by omega
         obtain ⟨f, hf⟩ : ∃ f, fs.getD k .none = f := ⟨_, rfl⟩
         obtain ⟨g, hg⟩ : ∃ g, gs.getD k .none = g := ⟨_, rfl⟩
         obtain ⟨r, hr⟩ : ∃ r, gF f g = r := ⟨_, rfl⟩
         obtain ⟨t, ht⟩ : ∃ t, gFs fs gs k = t := ⟨_, rfl⟩
         obtain ⟨u, hu⟩ : ∃ u, t.join r = u := ⟨_, rfl⟩
         have HR0 := Lib.hid hr
         have HU0 := Lib.hid hu
         have HNX : Hid (gFs fs gs (k + 1) = u) := Lib.hid (by rw [gFs, ht, hf, hg, hr, hu])
         rw [ht] at HGK
         have HF := Lib.hid hf
         have HGG := Lib.hid hg
         clear hr hu ht hf hg
         have hkz : (0 : Int) ≤ k := by omega
         have hki : (k : Int) < fs.length := by omega
         have hkj : (k : Int) < gs.length := by omega
         go_wp2_with fail
         refine start_ (n := 12) (S := fun w' => True) (ds := []) #[false, false, false, false, false, false, false, false, false, false, false, false] (by kernel_rfl) rfl rfl trivial (fun hHeld => ?_)
         obtain ⟨w0, hw0⟩ : ∃ w0, w0 = wr.drew := ⟨_, rfl⟩
         rw [← hw0]
         have HBW : Hid (Below gb wl w0) := by rw [hw0]; exact Lib.hid HBL.out.drew
         have HZ : Hid (GB w0 gb t) := by rw [hw0]; exact Lib.hid (blk_drew HGK.out)
         have HNf : Hid (∀ {w' : World}, Below gb w0 w' → Nine w' b1 (o1 + k * 9) f) := Lib.hid (fun hb => (HF.out ▸ HN1.out k hk1).below hb1g (HBW.out.trans hb))
         have HNg : Hid (∀ {w' : World}, Below gb w0 w' → Nine w' b2 (o2 + k * 9) g) := Lib.hid (fun hb => (HGG.out ▸ HN2.out k hk2).below hb2g (HBW.out.trans hb))
         have HOf : Hid (∀ {w' : World}, Below gb w0 w' → Hid (f.ok w')) := Lib.hid (fun hb => Lib.hid ((HF.out ▸ HO1.out k hk1).below ((HB3.out.trans (HBW.out.mono hgB)).trans (hb.mono hgB))))
         have HOg : Hid (∀ {w' : World}, Below gb w0 w' → Hid (g.ok w')) := Lib.hid (fun hb => Lib.hid ((HGG.out ▸ HO2.out k hk2).below ((HB3.out.trans (HBW.out.mono hgB)).trans (hb.mono hgB))))
         clear hw0
         refine with_tabW f22_tab f22_bits (fun HT_ HW_ => ?_)
         refine pure_ (i := 1) (N := some 16) (v := ?_) (a' := ?_) #[false, true, false, false, false, false, false, false, false, false, false, false] rfl rfl (by kernel_rfl) (fun _ _ _ h => h) (Or.inl ⟨by rfl, ?_⟩) ?_ ?_
         rotate_left
         · intro w'
           go_simp
           with_reducible rfl
         rotate_left
         · simp only [Act.put, List.setIfInBounds_toArray, List.set_cons_zero, List.set_cons_succ, i64_w, i32_w]
           rfl
         refine pure_ (i := 2) (N := some 17) (v := ?_) (a' := ?_) #[false, true, true, false, false, false, false, false, false, false, false, false] rfl rfl (by kernel_rfl) (fun _ _ _ h => h) (Or.inl ⟨by rfl, ?_⟩) ?_ ?_
         rotate_left
         · intro w'
           go_simp
           with_reducible rfl
         rotate_left
         · simp only [Act.put, List.setIfInBounds_toArray, List.set_cons_zero, List.set_cons_succ, i64_w, i32_w]
           rfl
         refine pure_ (i := 3) (N := some 18) (v := ?_) (a' := ?_) #[false, true, true, true, false, false, false, false, false, false, false, false] rfl rfl (by kernel_rfl) (fun _ _ _ h => h) (Or.inl ⟨by rfl, ?_⟩) ?_ ?_
         rotate_left
         · intro w'
           go_simp
           with_reducible rfl
         rotate_left
         · simp only [Act.put, List.setIfInBounds_toArray, List.set_cons_zero, List.set_cons_succ, i64_w, i32_w]
           rfl
         refine pure_ (i := 5) (N := some 20) (v := ?_) (a' := ?_) #[false, true, true, true, false, true, false, false, false, false, false, false] rfl rfl (by kernel_rfl) (fun _ _ _ h => h) (Or.inl ⟨by rfl, ?_⟩) ?_ ?_
         rotate_left
         · intro w'
           go_simp
           with_reducible rfl
         rotate_left
         · simp only [Act.put, List.setIfInBounds_toArray, List.set_cons_zero, List.set_cons_succ, i64_w, i32_w]
           rfl
         refine pure_ (i := 6) (N := some 21) (v := ?_) (a' := ?_) #[false, true, true, true, false, true, true, false, false, false, false, false] rfl rfl (by kernel_rfl) (fun _ _ _ h => h) (Or.inl ⟨by rfl, ?_⟩) ?_ ?_
         rotate_left
         · intro w'
           go_simp
           with_reducible rfl
         rotate_left
         · simp only [Act.put, List.setIfInBounds_toArray, List.set_cons_zero, List.set_cons_succ, i64_w, i32_w]
           rfl
         refine pure_ (i := 7) (N := some 22) (v := ?_) (a' := ?_) #[false, true, true, true, false, true, true, true, false, false, false, false] rfl rfl (by kernel_rfl) (fun _ _ _ h => h) (Or.inl ⟨by rfl, ?_⟩) ?_ ?_
         rotate_left
         · intro w'
           go_simp
           with_reducible rfl
         rotate_left
         · simp only [Act.put, List.setIfInBounds_toArray, List.set_cons_zero, List.set_cons_succ, i64_w, i32_w]
           rfl
         refine inv_at [0, 4, 8, 9, 10, 11] (fun a0_ b a w' => a = putSel a0_ b [(0, 15, (.agg #[.int .i64 t.c, .int .i64 t.d, .int .i64 t.m, .int .i64 t.s, .int .i64 t.q])), (4, 19, (.agg #[Value.int .i64 f.a.W, .int .i64 f.a.H, .slice f.a.A f.a.l.length f.a.c, Value.int .i64 f.b.W, .int .i64 f.b.H, .slice f.b.A f.b.l.length f.b.c, Value.int .i64 f.c.W, .int .i64 f.c.H, .slice f.c.A f.c.l.length f.c.c])), (8, 23, (.agg #[Value.int .i64 g.a.W, .int .i64 g.a.H, .slice g.a.A g.a.l.length g.a.c, Value.int .i64 g.b.W, .int .i64 g.b.H, .slice g.b.A g.b.l.length g.b.c, Value.int .i64 g.c.W, .int .i64 g.c.H, .slice g.c.A g.c.l.length g.c.c])), (9, 24, (.agg #[.int .i64 r.c, .int .i64 r.d, .int .i64 r.m, .int .i64 r.s, .int .i64 r.q])), (10, 25, (.agg #[.int .i64 u.c, .int .i64 u.d, .int .i64 u.m, .int .i64 u.s, .int .i64 u.q]))] ∧ (Below gb w0 w') ∧ (b 11 = false → w'.heap[gb]? = some (.cells #[.int .i64 t.c, .int .i64 t.d, .int .i64 t.m, .int .i64 t.s, .int .i64 t.q] 23 (0, 0))) ∧ (b 11 = true → w'.heap[gb]? = some (.cells #[.int .i64 u.c, .int .i64 u.d, .int .i64 u.m, .int .i64 u.s, .int .i64 u.q] 23 (0, 0)))) HT_.out HW_.out (by kernel_rfl) (by kernel_rfl) ?_ ?_ ?_
         · exact ⟨by simp only [putSel, Bool.false_eq_true, if_false], Below.refl _ _, fun _ => HZ.out, fun h_ => absurd h_ (by decide)⟩
         · skip
           refine steps_cons ?_ ?_
           · rintro b a w' ⟨ha, Q_BE, Q_Z, Q_R⟩ hb_ hon hoff
             refine ⟨_, rfl, fun K hK => ?_⟩
             have e5 : a.tmps[5]? = some (.pointer (some ⟨gb, 0, none⟩)) := by rw [ha]; exact (putSel_off rfl).trans rfl
             replace ha := Aside0.mk ha
             have BE := Aside0.mk Q_BE
             have Z := Aside0.mk (Q_Z (hoff 11 (by kernel_rfl)))
             obtain ⟨c0, c1, c2, c3, c4, _⟩ := five Z.out
             refine value_ (w1 := w') (v := (.agg #[.int .i64 t.c, .int .i64 t.d, .int .i64 t.m, .int .i64 t.s, .int .i64 t.q])) (by rfl) rfl ?_ ?_
             · go_simp
               (try simp only [i64_w])
               try rfl
             refine hK.out _ _ ⟨(by rw [ha.out]; exact putSel_upk 0 hb_ rfl rfl rfl), Q_BE, Q_Z, fun h0_ => absurd ((hoff 11 (by kernel_rfl)).symm.trans h0_) (by decide)⟩
           refine steps_cons ?_ ?_
           · rintro b a w' ⟨ha, Q_BE, Q_Z, Q_R⟩ hb_ hon hoff
             refine ⟨_, rfl, fun K hK => ?_⟩
             have e18 : a.tmps[18]? = some (.pointer (some ⟨b1, o1 + k * 9, none⟩)) := by rw [ha]; exact (putSel_off rfl).trans rfl
             replace ha := Aside0.mk ha
             have BE := Aside0.mk Q_BE
             have Z := Aside0.mk (Q_Z (hoff 11 (by kernel_rfl)))
             obtain ⟨c0, c1, c2, c3, c4, c5, c6, c7, c8⟩ := HNf.out BE.out
             refine value_ (w1 := w') (v := (.agg #[Value.int .i64 f.a.W, .int .i64 f.a.H, .slice f.a.A f.a.l.length f.a.c, Value.int .i64 f.b.W, .int .i64 f.b.H, .slice f.b.A f.b.l.length f.b.c, Value.int .i64 f.c.W, .int .i64 f.c.H, .slice f.c.A f.c.l.length f.c.c])) (by rfl) rfl ?_ ?_
             · go_simp
               (try simp only [i64_w])
               try rfl
             refine hK.out _ _ ⟨(by rw [ha.out]; exact putSel_upk 1 hb_ rfl rfl rfl), Q_BE, Q_Z, fun h0_ => absurd ((hoff 11 (by kernel_rfl)).symm.trans h0_) (by decide)⟩
           refine steps_cons ?_ ?_
           · rintro b a w' ⟨ha, Q_BE, Q_Z, Q_R⟩ hb_ hon hoff
             refine ⟨_, rfl, fun K hK => ?_⟩
             have e22 : a.tmps[22]? = some (.pointer (some ⟨b2, o2 + k * 9, none⟩)) := by rw [ha]; exact (putSel_off rfl).trans rfl
             replace ha := Aside0.mk ha
             have BE := Aside0.mk Q_BE
             have Z := Aside0.mk (Q_Z (hoff 11 (by kernel_rfl)))
             obtain ⟨c0, c1, c2, c3, c4, c5, c6, c7, c8⟩ := HNg.out BE.out
             refine value_ (w1 := w') (v := (.agg #[Value.int .i64 g.a.W, .int .i64 g.a.H, .slice g.a.A g.a.l.length g.a.c, Value.int .i64 g.b.W, .int .i64 g.b.H, .slice g.b.A g.b.l.length g.b.c, Value.int .i64 g.c.W, .int .i64 g.c.H, .slice g.c.A g.c.l.length g.c.c])) (by rfl) rfl ?_ ?_
             · go_simp
               (try simp only [i64_w])
               try rfl
             refine hK.out _ _ ⟨(by rw [ha.out]; exact putSel_upk 2 hb_ rfl rfl rfl), Q_BE, Q_Z, fun h0_ => absurd ((hoff 11 (by kernel_rfl)).symm.trans h0_) (by decide)⟩
           refine steps_cons ?_ ?_
           · rintro b a w' ⟨ha, Q_BE, Q_Z, Q_R⟩ hb_ hon hoff
             refine ⟨_, rfl, fun K hK => ?_⟩
             have e19 : a.tmps[19]? = some ((.agg #[Value.int .i64 f.a.W, .int .i64 f.a.H, .slice f.a.A f.a.l.length f.a.c, Value.int .i64 f.b.W, .int .i64 f.b.H, .slice f.b.A f.b.l.length f.b.c, Value.int .i64 f.c.W, .int .i64 f.c.H, .slice f.c.A f.c.l.length f.c.c])) := by rw [ha]; exact putSel_on (e := (4, 19, (.agg #[Value.int .i64 f.a.W, .int .i64 f.a.H, .slice f.a.A f.a.l.length f.a.c, Value.int .i64 f.b.W, .int .i64 f.b.H, .slice f.b.A f.b.l.length f.b.c, Value.int .i64 f.c.W, .int .i64 f.c.H, .slice f.c.A f.c.l.length f.c.c]))) 1 rfl rfl (hon 4 (by kernel_rfl)) rfl
             have e23 : a.tmps[23]? = some ((.agg #[Value.int .i64 g.a.W, .int .i64 g.a.H, .slice g.a.A g.a.l.length g.a.c, Value.int .i64 g.b.W, .int .i64 g.b.H, .slice g.b.A g.b.l.length g.b.c, Value.int .i64 g.c.W, .int .i64 g.c.H, .slice g.c.A g.c.l.length g.c.c])) := by rw [ha]; exact putSel_on (e := (8, 23, (.agg #[Value.int .i64 g.a.W, .int .i64 g.a.H, .slice g.a.A g.a.l.length g.a.c, Value.int .i64 g.b.W, .int .i64 g.b.H, .slice g.b.A g.b.l.length g.b.c, Value.int .i64 g.c.W, .int .i64 g.c.H, .slice g.c.A g.c.l.length g.c.c]))) 2 rfl rfl (hon 8 (by kernel_rfl)) rfl
             replace ha := Aside0.mk ha
             have BE := Aside0.mk Q_BE
             have Z := Aside0.mk (Q_Z (hoff 11 (by kernel_rfl)))
             refine goes_ Tryd.func19 (by kernel_rfl) rfl #[(.agg #[Value.int .i64 f.a.W, .int .i64 f.a.H, .slice f.a.A f.a.l.length f.a.c, Value.int .i64 f.b.W, .int .i64 f.b.H, .slice f.b.A f.b.l.length f.b.c, Value.int .i64 f.c.W, .int .i64 f.c.H, .slice f.c.A f.c.l.length f.c.c]), (.agg #[Value.int .i64 g.a.W, .int .i64 g.a.H, .slice g.a.A g.a.l.length g.a.c, Value.int .i64 g.b.W, .int .i64 g.b.H, .slice g.b.A g.b.l.length g.b.c, Value.int .i64 g.c.W, .int .i64 g.c.H, .slice g.c.A g.c.l.length g.c.c])] (by rfl) rfl rfl (by first | (simp only [List.map_toArray, List.map_cons, List.map_nil, Act.eval, Array.getD_eq_getD_getElem?, Option.getD_some, e19, e23]; done) | (simp only [List.map_toArray, List.map_cons, List.map_nil, Act.eval, Array.getD_eq_getD_getElem?, Option.getD_some, e19, e23]; rfl)) ?_
             refine (f19_F f g r HR0 w' (HOf.out BE.out) (HOg.out BE.out)).mono ?_
             rintro e w2 ⟨rfl, hb⟩
             have hlt := blk_lt Z.out
             refine ⟨_, rfl, ?_⟩
             refine hK.out _ _ ⟨(by rw [ha.out]; exact putSel_upk 3 hb_ rfl rfl rfl), BE.out.trans (hb.mono (by omega)), fun _ => blk_below Z.out hb, fun h0_ => absurd ((hoff 11 (by kernel_rfl)).symm.trans h0_) (by decide)⟩
           refine steps_cons ?_ ?_
           · rintro b a w' ⟨ha, Q_BE, Q_Z, Q_R⟩ hb_ hon hoff
             refine ⟨_, rfl, fun K hK => ?_⟩
             have e15 : a.tmps[15]? = some ((.agg #[.int .i64 t.c, .int .i64 t.d, .int .i64 t.m, .int .i64 t.s, .int .i64 t.q])) := by rw [ha]; exact putSel_on (e := (0, 15, (.agg #[.int .i64 t.c, .int .i64 t.d, .int .i64 t.m, .int .i64 t.s, .int .i64 t.q]))) 0 rfl rfl (hon 0 (by kernel_rfl)) rfl
             have e24 : a.tmps[24]? = some ((.agg #[.int .i64 r.c, .int .i64 r.d, .int .i64 r.m, .int .i64 r.s, .int .i64 r.q])) := by rw [ha]; exact putSel_on (e := (9, 24, (.agg #[.int .i64 r.c, .int .i64 r.d, .int .i64 r.m, .int .i64 r.s, .int .i64 r.q]))) 3 rfl rfl (hon 9 (by kernel_rfl)) rfl
             replace ha := Aside0.mk ha
             have BE := Aside0.mk Q_BE
             have Z := Aside0.mk (Q_Z (hoff 11 (by kernel_rfl)))
             refine goes_ Tryd.func23 (by kernel_rfl) rfl #[(.agg #[.int .i64 t.c, .int .i64 t.d, .int .i64 t.m, .int .i64 t.s, .int .i64 t.q]), (.agg #[.int .i64 r.c, .int .i64 r.d, .int .i64 r.m, .int .i64 r.s, .int .i64 r.q])] (by rfl) rfl rfl (by first | (simp only [List.map_toArray, List.map_cons, List.map_nil, Act.eval, Array.getD_eq_getD_getElem?, Option.getD_some, e15, e24]; done) | (simp only [List.map_toArray, List.map_cons, List.map_nil, Act.eval, Array.getD_eq_getD_getElem?, Option.getD_some, e15, e24]; rfl)) ?_
             refine (f23_r t r u HU0 w').mono ?_
             rintro e w2 ⟨rfl, hb⟩
             have hlt := blk_lt Z.out
             refine ⟨_, rfl, ?_⟩
             refine hK.out _ _ ⟨(by rw [ha.out]; exact putSel_upk 4 hb_ rfl rfl rfl), BE.out.trans (hb.mono (by omega)), fun _ => blk_below Z.out hb, fun h0_ => absurd ((hoff 11 (by kernel_rfl)).symm.trans h0_) (by decide)⟩
           refine steps_cons ?_ ?_
           · rintro b a w' ⟨ha, Q_BE, Q_Z, Q_R⟩ hb_ hon hoff
             refine ⟨_, rfl, fun K hK => ?_⟩
             have e5 : a.tmps[5]? = some (.pointer (some ⟨gb, 0, none⟩)) := by rw [ha]; exact (putSel_off rfl).trans rfl
             have e25 : a.tmps[25]? = some ((.agg #[.int .i64 u.c, .int .i64 u.d, .int .i64 u.m, .int .i64 u.s, .int .i64 u.q])) := by rw [ha]; exact putSel_on (e := (10, 25, (.agg #[.int .i64 u.c, .int .i64 u.d, .int .i64 u.m, .int .i64 u.s, .int .i64 u.q]))) 4 rfl rfl (hon 10 (by kernel_rfl)) rfl
             replace ha := Aside0.mk ha
             have BE := Aside0.mk Q_BE
             have Z := Aside0.mk (Q_Z hb_)
             obtain ⟨c0, c1, c2, c3, c4, z0, z1, z2, z3, z4⟩ := five Z.out
             refine skip_ (w1 := (((((w'.setCell ⟨gb, 0, none⟩ (.int .i64 u.c)).setCell ⟨gb, 1, none⟩ (.int .i64 u.d)).setCell ⟨gb, 2, none⟩ (.int .i64 u.m)).setCell ⟨gb, 3, none⟩ (.int .i64 u.s)).setCell ⟨gb, 4, none⟩ (.int .i64 u.q))) (by rfl) rfl ?_ ?_
             · go_simp
               try rfl
             refine hK.out _ _ ⟨(by rw [ha.out]; exact putSel_none (v := undef) rfl), five_below BE.out (Nat.le_refl _), fun h0_ => absurd ((up_self b 11).symm.trans h0_) (by decide), fun _ => five_put Z.out⟩
           exact steps_nil
         · rintro b a w' hall ⟨ha, Q_BE, Q_Z, Q_R⟩
           have hb0_ := hall 0 (by kernel_rfl)
           have hb4_ := hall 4 (by kernel_rfl)
           have hb8_ := hall 8 (by kernel_rfl)
           have hb9_ := hall 9 (by kernel_rfl)
           have hb10_ := hall 10 (by kernel_rfl)
           have hb11_ := hall 11 (by kernel_rfl)
           subst ha
           simp only [putSel, hb0_, hb4_, hb8_, hb9_, hb10_, hb11_, if_true, Act.put, List.setIfInBounds_toArray, List.set_cons_zero, List.set_cons_succ]
           have BE := Aside0.mk Q_BE
           clear Q_BE
           clear Q_Z
           have R := Aside0.mk (Q_R hb11_)
           clear Q_R
           clear hall hb0_ hb4_ hb8_ hb9_ hb10_ hb11_
           clear HT_ HW_
           go_wp2_with fail
           go_roundw
           case rel => exact ⟨k + 1, by go_num, by omega, Lib.hid (HBW.out.trans BE.out), Lib.hid (by rw [HNX.out]; exact R.out)⟩
           case measure => simp [intOf]; omega
       · obtain rfl : k = n := by omega
         rw [hres.out] at HGK
         obtain ⟨g0, g1, g2, g3, g4, y0, y1, y2, y3, y4⟩ := five HGK.out
         have HRX := Lib.hid ((HBL.out.block B hBg).trans HRS.out)
         obtain ⟨r0, r1, r2, r3, r4, z0, z1, z2, z3, z4⟩ := five HRX.out
         go_wp2_with fail
         exact bodyPost_ret (results_cell_row rfl _ _ B 23 #[.int .i64 res.c, .int .i64 res.d, .int .i64 res.m, .int .i64 res.s, .int .i64 res.q] (0, 0) _ rfl (five_put HRX.out) Tryd.underlying23 rfl (by kernel_rfl)) rfl ⟨rfl, five_below (HB3.out.trans (HBL.out.mono hgB)) (by rw [← HBB.out]; omega)⟩
  · obtain rfl : n = 0 := by omega
    have hr0 : res = .zero := by rw [← hres.out]; rfl
    subst hr0
    clear h1 h2 hres hn
    obtain ⟨g0, g1, g2, g3, g4, y0, y1, y2, y3, y4⟩ := five HG.out
    obtain ⟨r0, r1, r2, r3, r4, z0, z1, z2, z3, z4⟩ := five HRS.out
    go_enter Tryd.func22, Tryd.ntmps22
    go_wp2_with fail
    all_goals
     rw [← HWL.out, ← HGB.out, ← HBB.out]
     refine wp_loop_rounds 1 ?_
     rw [rounds_succ]
     go_wp2_with fail
     exact bodyPost_ret (results_cell_row rfl _ _ B 23 #[.int .i64 0, .int .i64 0, .int .i64 0, .int .i64 0, .int .i64 0] (0, 0) _ rfl (five_put HRS.out) Tryd.underlying23 rfl (by kernel_rfl)) rfl ⟨rfl, five_below HB3.out (by rw [← HBB.out]; omega)⟩
end Go.Proofs.YtecijaibbjafoaaDoor
