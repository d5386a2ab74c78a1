import Derived.Test.YtecijaibbjafoaaDoorPlRef
import Derived.Deep.RegionWith
import Derived.Deep.DeepFit
namespace Go.Proofs.YtecijaibbjafoaaDoor
open Go.RowKit Go.Proofs.YtecijaibbjafoaaDoorW.PrintWords Go.Proofs.YtecijaibbjafoaaDoorW.PrintLast Go.Proofs.YtecijaibbjafoaaDoorW.PrintMore Go.Proofs.YtecijaibbjafoaaDoor.PG
/-- A plane. -/
structure Pn where
  W : Int
  H : Int
  A : Option Addr
  c : Nat
  l : List Int
def Pn.ok (w : World) (p : Pn) : Prop := RW w p.A p.c p.l ∧ ∀ x ∈ p.l, -9223372036854775808 ≤ x ∧ x ≤ 9223372036854775807
theorem Pn.ok.below {w w1 : World} {p : Pn} (h : p.ok w) (hb : Below w.heap.size w w1) : p.ok w1 := ⟨h.1.below hb, h.2⟩
def gP (p q : Pn) : G5 := gpl p.W p.H p.l q.W q.H q.l
theorem f16_P (p q : Pn) (r : G5) (hr : Hid (gP p q = r)) (w : World) (hp : Hid (p.ok w)) (hq : Hid (q.ok w)) : Calls Tryd.prog 16 #[.agg #[.int .i64 p.W, .int .i64 p.H, .slice p.A p.l.length p.c], .agg #[.int .i64 q.W, .int .i64 q.H, .slice q.A q.l.length q.c]] w fun e w' => e = .returned (.agg #[.int .i64 r.c, .int .i64 r.d, .int .i64 r.m, .int .i64 r.s, .int .i64 r.q]) ∧ Below w.heap.size w w' := by
  rw [← hr.out]
  exact f16_any p.W p.H p.A p.c p.l q.W q.H q.A q.c q.l w (Lib.hid hp.out.1) (Lib.hid hq.out.1) (Lib.hid hp.out.2) (Lib.hid hq.out.2)
theorem f20_P (p q : Pn) (r : G5) (hr : Hid (gP p q = r)) (w : World) (hp : Hid (p.ok w)) (hq : Hid (q.ok w)) : Calls Tryd.prog 20 #[.agg #[.int .i64 p.W, .int .i64 p.H, .slice p.A p.l.length p.c], .agg #[.int .i64 q.W, .int .i64 q.H, .slice q.A q.l.length q.c]] w fun e w' => e = .returned (.agg #[.int .i64 r.c, .int .i64 r.d, .int .i64 r.m, .int .i64 r.s, .int .i64 r.q]) ∧ Below w.heap.size w w' := by
  rw [← hr.out]
  exact f20_any p.W p.H p.A p.c p.l q.W q.H q.A q.c q.l w (Lib.hid hp.out.1) (Lib.hid hq.out.1) (Lib.hid hp.out.2) (Lib.hid hq.out.2)
theorem f23_r (a b r : G5) (hr : Hid (a.join b = r)) (w : World) : Calls Tryd.prog 23 #[.agg #[.int .i64 a.c, .int .i64 a.d, .int .i64 a.m, .int .i64 a.s, .int .i64 a.q], .agg #[.int .i64 b.c, .int .i64 b.d, .int .i64 b.m, .int .i64 b.s, .int .i64 b.q]] w fun e w' => e = .returned (.agg #[.int .i64 r.c, .int .i64 r.d, .int .i64 r.m, .int .i64 r.s, .int .i64 r.q]) ∧ Below w.heap.size w w' :=
  f23_c a b r hr.out w
theorem f21_r (a b r : G5) (hr : Hid (a.join b = r)) (w : World) : Calls Tryd.prog 21 #[.agg #[.int .i64 a.c, .int .i64 a.d, .int .i64 a.m, .int .i64 a.s, .int .i64 a.q], .agg #[.int .i64 b.c, .int .i64 b.d, .int .i64 b.m, .int .i64 b.s, .int .i64 b.q]] w fun e w' => e = .returned (.agg #[.int .i64 r.c, .int .i64 r.d, .int .i64 r.m, .int .i64 r.s, .int .i64 r.q]) ∧ Below w.heap.size w w' := by
  rw [← hr.out]; exact f21_any a b w
/-- The two frames, the result. -/
structure FQ (B : Nat) (p q r : Array Value) (w : World) : Prop where
  p : w.heap[B]? = some (.cells p 42 (0, 0))
  q : w.heap[B + 1]? = some (.cells q 42 (0, 0))
  r : w.heap[B + 1 + 1]? = some (.cells r 23 (0, 0))
theorem FQ.below {B : Nat} {p q r : Array Value} {w w1 : World} (h : FQ B p q r w) (hb : Below w.heap.size w w1) : FQ B p q r w1 := ⟨blk_below h.p hb, blk_below h.q hb, blk_below h.r hb⟩
theorem FQ.below' {B g : Nat} {p q r : Array Value} {w w1 : World} (h : FQ B p q r w) (hg : B + 2 < g) (hb : Below g w w1) : FQ B p q r w1 := ⟨(hb.block _ (by omega)).trans h.p, (hb.block _ (by omega)).trans h.q, (hb.block _ (by omega)).trans h.r⟩
theorem FQ.size {B : Nat} {p q r : Array Value} {w : World} (h : FQ B p q r w) : B + 2 < w.heap.size := blk_lt h.r
theorem fq_start (w : World) (p q : Array Value) : FQ w.heap.size p q #[.int .i64 0, .int .i64 0, .int .i64 0, .int .i64 0, .int .i64 0] (((w.alloc (.cells p 42)).alloc (.cells q 42)).alloc (.cells #[.int .i64 0, .int .i64 0, .int .i64 0, .int .i64 0, .int .i64 0] 23)) :=
  ⟨blk_alloc (blk_alloc (blk_new _ _) _) _, by have := blk_alloc (blk_new (w.alloc (.cells p 42)) (.cells q 42)) (.cells #[.int .i64 0, .int .i64 0, .int .i64 0, .int .i64 0, .int .i64 0] 23); simpa using this, by have := blk_new ((w.alloc (.cells p 42)).alloc (.cells q 42)) (.cells #[.int .i64 0, .int .i64 0, .int .i64 0, .int .i64 0, .int .i64 0] 23); simpa using this⟩
theorem fq_start4 (w : World) (p q : Array Value) : FQ w.heap.size p q #[.int .i64 0, .int .i64 0, .int .i64 0, .int .i64 0, .int .i64 0] ((((w.alloc (.cells p 42)).alloc (.cells q 42)).alloc (.cells #[.int .i64 0, .int .i64 0, .int .i64 0, .int .i64 0, .int .i64 0] 23)).alloc (.cells #[.int .i64 0, .int .i64 0, .int .i64 0, .int .i64 0, .int .i64 0] 23)) :=
  (fq_start w p q).below (by go_grown)
theorem gb_start (w : World) (a b c : Obj) (r : Obj) (g : Nat) (hg : g = w.heap.size + 1 + 1 + 1) : ((((w.alloc a).alloc b).alloc c).alloc r).heap[g]? = some r := by
  subst hg
  have := blk_new (((w.alloc a).alloc b).alloc c) r
  simpa using this
/-- The cells of a plane's row. -/
theorem cells3 {w : World} {g : Nat} {cs : Array Value} {t : TypeId} (h : w.heap[g]? = some (.cells cs t (0, 0))) (i : Nat) (v : Value) (hv : cs[i]? = some v) : w.cell? ⟨g, i, none⟩ = some v := (blk_cell h i).trans hv
theorem below_drw {B : Nat} {w W : World} (h : Below B w W) : Below B w W.drew := ⟨h.os, h.tape, h.output, h.size, h.block⟩
theorem below_drw2 {w W : World} (h : Below w.drew.heap.size w.drew W) : Below w.heap.size w W := ⟨h.os, h.tape, h.output, h.size, h.block⟩
set_option maxHeartbeats 16000000 in
set_option maxRecDepth 100000 in
theorem f19_any (p0 p1 p2 q0 q1 q2 : Pn) (r0 r1 r2 t1 t2 r : G5) (w : World) (hp0 : Hid (p0.ok w)) (hp1 : Hid (p1.ok w)) (hp2 : Hid (p2.ok w)) (hq0 : Hid (q0.ok w)) (hq1 : Hid (q1.ok w)) (hq2 : Hid (q2.ok w))
    (e0 : Hid (gP p0 q0 = r0)) (e1 : Hid (gP p1 q1 = r1)) (e2 : Hid (gP p2 q2 = r2)) (j0 : Hid (G5.zero.join r0 = t1)) (j1 : Hid (t1.join r1 = t2)) (j2 : Hid (t2.join r2 = r)) :
    Calls Tryd.prog 19 #[.agg #[Value.int .i64 p0.W, .int .i64 p0.H, .slice p0.A p0.l.length p0.c, Value.int .i64 p1.W, .int .i64 p1.H, .slice p1.A p1.l.length p1.c, Value.int .i64 p2.W, .int .i64 p2.H, .slice p2.A p2.l.length p2.c], .agg #[Value.int .i64 q0.W, .int .i64 q0.H, .slice q0.A q0.l.length q0.c, Value.int .i64 q1.W, .int .i64 q1.H, .slice q1.A q1.l.length q1.c, Value.int .i64 q2.W, .int .i64 q2.H, .slice q2.A q2.l.length q2.c]] w fun e w' => e = .returned (.agg #[.int .i64 r.c, .int .i64 r.d, .int .i64 r.m, .int .i64 r.s, .int .i64 r.q]) ∧ Below w.heap.size w w' := by
  obtain ⟨wb, hwb⟩ : ∃ wb, wb = (((w.alloc (.cells #[Value.int .i64 p0.W, .int .i64 p0.H, .slice p0.A p0.l.length p0.c, Value.int .i64 p1.W, .int .i64 p1.H, .slice p1.A p1.l.length p1.c, Value.int .i64 p2.W, .int .i64 p2.H, .slice p2.A p2.l.length p2.c] 42)).alloc (.cells #[Value.int .i64 q0.W, .int .i64 q0.H, .slice q0.A q0.l.length q0.c, Value.int .i64 q1.W, .int .i64 q1.H, .slice q1.A q1.l.length q1.c, Value.int .i64 q2.W, .int .i64 q2.H, .slice q2.A q2.l.length q2.c] 42)).alloc (.cells #[Value.int .i64 0, .int .i64 0, .int .i64 0, .int .i64 0, .int .i64 0] 23)).alloc (.cells #[Value.int .i64 0, .int .i64 0, .int .i64 0, .int .i64 0, .int .i64 0] 23) := ⟨_, rfl⟩
  have HB : Hid (Below w.heap.size w wb) := by rw [hwb]; exact Lib.hid (by go_grown)
  have HFQ : Hid (FQ w.heap.size #[Value.int .i64 p0.W, .int .i64 p0.H, .slice p0.A p0.l.length p0.c, Value.int .i64 p1.W, .int .i64 p1.H, .slice p1.A p1.l.length p1.c, Value.int .i64 p2.W, .int .i64 p2.H, .slice p2.A p2.l.length p2.c] #[Value.int .i64 q0.W, .int .i64 q0.H, .slice q0.A q0.l.length q0.c, Value.int .i64 q1.W, .int .i64 q1.H, .slice q1.A q1.l.length q1.c, Value.int .i64 q2.W, .int .i64 q2.H, .slice q2.A q2.l.length q2.c] #[Value.int .i64 0, .int .i64 0, .int .i64 0, .int .i64 0, .int .i64 0] wb) := by
    rw [hwb]; exact Lib.hid (fq_start4 _ _ _)
  obtain ⟨gb, hgb⟩ : ∃ gb, gb = w.heap.size + 1 + 1 + 1 := ⟨_, rfl⟩
  have HG : Hid (GB wb gb .zero) := by rw [hwb]; exact Lib.hid (gb_start _ _ _ _ _ _ hgb)
  obtain ⟨B, hB⟩ : ∃ B, B = w.heap.size := ⟨_, rfl⟩
  have HWB := Lib.hid hwb
  have HGB := Lib.hid hgb
  have HBB := Lib.hid hB
  have hgB : B + 2 < gb := by omega
  have ix0 : ∀ w, (Instr.index 40 (.agg #[Value.int .i64 p0.W, .int .i64 p0.H, .slice p0.A p0.l.length p0.c, Value.int .i64 p1.W, .int .i64 p1.H, .slice p1.A p1.l.length p1.c, Value.int .i64 p2.W, .int .i64 p2.H, .slice p2.A p2.l.length p2.c]) (.int .i64 0)).run Tryd.prog w = .ok (.agg #[Value.int .i64 p0.W, .int .i64 p0.H, .slice p0.A p0.l.length p0.c]) w := fun _ => by kernel_rfl
  have ix1 : ∀ w, (Instr.index 40 (.agg #[Value.int .i64 p0.W, .int .i64 p0.H, .slice p0.A p0.l.length p0.c, Value.int .i64 p1.W, .int .i64 p1.H, .slice p1.A p1.l.length p1.c, Value.int .i64 p2.W, .int .i64 p2.H, .slice p2.A p2.l.length p2.c]) (.int .i64 1)).run Tryd.prog w = .ok (.agg #[Value.int .i64 p1.W, .int .i64 p1.H, .slice p1.A p1.l.length p1.c]) w := fun _ => by kernel_rfl
  have ix2 : ∀ w, (Instr.index 40 (.agg #[Value.int .i64 p0.W, .int .i64 p0.H, .slice p0.A p0.l.length p0.c, Value.int .i64 p1.W, .int .i64 p1.H, .slice p1.A p1.l.length p1.c, Value.int .i64 p2.W, .int .i64 p2.H, .slice p2.A p2.l.length p2.c]) (.int .i64 2)).run Tryd.prog w = .ok (.agg #[Value.int .i64 p2.W, .int .i64 p2.H, .slice p2.A p2.l.length p2.c]) w := fun _ => by kernel_rfl
  rw [← hB] at HB HFQ
  clear hwb hgb hB
  go_enter Tryd.func19, Tryd.ntmps19
  go_wp2_with fail
  rw [← HWB.out, ← HGB.out, ← HBB.out]
  clear HWB HGB
  refine wp_loop_rounds 4 ?_
  rw [rounds_succ]
  go_upto_block 1 with fail
  go_cut [10] from 10 to 22 (fun v10 wc => v10 = .int .i64 0 ∧ Hid (GB wc gb t1) ∧ Hid (FQ B #[Value.int .i64 p0.W, .int .i64 p0.H, .slice p0.A p0.l.length p0.c, Value.int .i64 p1.W, .int .i64 p1.H, .slice p1.A p1.l.length p1.c, Value.int .i64 p2.W, .int .i64 p2.H, .slice p2.A p2.l.length p2.c] #[Value.int .i64 q0.W, .int .i64 q0.H, .slice q0.A q0.l.length q0.c, Value.int .i64 q1.W, .int .i64 q1.H, .slice q1.A q1.l.length q1.c, Value.int .i64 q2.W, .int .i64 q2.H, .slice q2.A q2.l.length q2.c] #[Value.int .i64 0, .int .i64 0, .int .i64 0, .int .i64 0, .int .i64 0] wc) ∧ Hid (Below B w wc))
  case first =>
    go_upto_region 5 with fail
    obtain ⟨x0, hx0⟩ : ∃ x, x = wb.alloc (.cells #[Value.int .i64 p0.W, .int .i64 p0.H, .slice p0.A p0.l.length p0.c] 32) := ⟨_, rfl⟩
    obtain ⟨b0, hb0⟩ : ∃ b, b = wb.heap.size := ⟨_, rfl⟩
    have XG0 : Hid (GB x0 gb G5.zero) := by rw [hx0]; exact Lib.hid (blk_alloc HG.out _)
    have XP0 : Hid (x0.heap[b0]? = some (.cells #[Value.int .i64 p0.W, .int .i64 p0.H, .slice p0.A p0.l.length p0.c] 32 (0, 0))) := by rw [hx0, hb0]; exact Lib.hid (blk_new _ _)
    have XF0 : Hid (FQ B #[Value.int .i64 p0.W, .int .i64 p0.H, .slice p0.A p0.l.length p0.c, Value.int .i64 p1.W, .int .i64 p1.H, .slice p1.A p1.l.length p1.c, Value.int .i64 p2.W, .int .i64 p2.H, .slice p2.A p2.l.length p2.c] #[Value.int .i64 q0.W, .int .i64 q0.H, .slice q0.A q0.l.length q0.c, Value.int .i64 q1.W, .int .i64 q1.H, .slice q1.A q1.l.length q1.c, Value.int .i64 q2.W, .int .i64 q2.H, .slice q2.A q2.l.length q2.c] #[Value.int .i64 0, .int .i64 0, .int .i64 0, .int .i64 0, .int .i64 0] x0) := by rw [hx0]; exact Lib.hid (HFQ.out.below (by go_grown))
    have XB0 : Hid (Below B w x0) := by rw [hx0]; exact Lib.hid (HB.out.alloc (by have := HFQ.out.size; omega) _)
    rw [← hx0, ← hb0]
    clear hx0 hb0 HG HFQ HB
    have OP0 : Hid (p0.ok x0.drew) := Lib.hid (hp0.out.below (below_drw (HBB.out ▸ XB0.out)))
    have OQ0 : Hid (q0.ok x0.drew) := Lib.hid (hq0.out.below (below_drw (HBB.out ▸ XB0.out)))
    obtain ⟨g0, g1, g2, g3, g4, y0, y1, y2, y3, y4⟩ := five XG0.out
    have k0 := cells3 XP0.out 0 _ rfl
    have m0 := cells3 XF0.out.q 0 _ rfl
    have k1 := cells3 XP0.out 1 _ rfl
    have m1 := cells3 XF0.out.q 1 _ rfl
    have k2 := cells3 XP0.out 2 _ rfl
    have m2 := cells3 XF0.out.q 2 _ rfl
    go_region_with (first | (go_at_call 16; refine (f16_P p0 q0 r0 e0 _ OP0 OQ0).mono ?_; rintro e u2 ⟨rfl, hb2⟩; have G2 : Hid (GB u2 gb G5.zero) := Lib.hid (blk_below (blk_drew XG0.out) hb2); have F2 : Hid (FQ B #[Value.int .i64 p0.W, .int .i64 p0.H, .slice p0.A p0.l.length p0.c, Value.int .i64 p1.W, .int .i64 p1.H, .slice p1.A p1.l.length p1.c, Value.int .i64 p2.W, .int .i64 p2.H, .slice p2.A p2.l.length p2.c] #[Value.int .i64 q0.W, .int .i64 q0.H, .slice q0.A q0.l.length q0.c, Value.int .i64 q1.W, .int .i64 q1.H, .slice q1.A q1.l.length q1.c, Value.int .i64 q2.W, .int .i64 q2.H, .slice q2.A q2.l.length q2.c] #[Value.int .i64 0, .int .i64 0, .int .i64 0, .int .i64 0, .int .i64 0] u2) := Lib.hid (XF0.out.below (below_drw2 hb2)); have B2 : Hid (Below B w u2) := Lib.hid (XB0.out.trans ((below_drw2 hb2).mono (by have := XF0.out.size; omega))); clear hb2; obtain ⟨h0, h1, h2, h3, h4, z0, z1, z2, z3, z4⟩ := five G2.out) | (go_at_call 23; refine (f23_r G5.zero r0 t1 j0 _).mono ?_; rintro e u3 ⟨rfl, hb3⟩; have G3 : Hid (GB u3 gb G5.zero) := Lib.hid (blk_below G2.out hb3); have F3 : Hid (FQ B #[Value.int .i64 p0.W, .int .i64 p0.H, .slice p0.A p0.l.length p0.c, Value.int .i64 p1.W, .int .i64 p1.H, .slice p1.A p1.l.length p1.c, Value.int .i64 p2.W, .int .i64 p2.H, .slice p2.A p2.l.length p2.c] #[Value.int .i64 q0.W, .int .i64 q0.H, .slice q0.A q0.l.length q0.c, Value.int .i64 q1.W, .int .i64 q1.H, .slice q1.A q1.l.length q1.c, Value.int .i64 q2.W, .int .i64 q2.H, .slice q2.A q2.l.length q2.c] #[Value.int .i64 0, .int .i64 0, .int .i64 0, .int .i64 0, .int .i64 0] u3) := Lib.hid (F2.out.below hb3); have B3 : Hid (Below B w u3) := Lib.hid (B2.out.trans (hb3.mono (by have := F2.out.size; omega))); clear hb3; obtain ⟨n0, n1, n2, n3, n4, o0, o1, o2, o3, o4⟩ := five G3.out))
    all_goals (go_wp2_with fail; go_meet; exact ⟨rfl, Lib.hid (five_put G3.out), Lib.hid (F3.out.below' hgB (five_below (Below.refl _ _) (Nat.le_refl _))), Lib.hid (five_below B3.out (by omega))⟩)
  case rest =>
    clear HG HFQ HB
    obtain ⟨rfl, HG, HFQ, HB⟩ := hcut
    obtain ⟨v1, hv1⟩ : ∃ v, v = wc := ⟨_, rfl⟩
    rw [← hv1] at HG HFQ HB
    rw [← hv1]
    clear hv1
    go_wp2_with fail
    rw [rounds_succ]
    go_upto_block 1 with fail
    go_cut [10] from 10 to 22 (fun v10 wc => v10 = .int .i64 1 ∧ Hid (GB wc gb t2) ∧ Hid (FQ B #[Value.int .i64 p0.W, .int .i64 p0.H, .slice p0.A p0.l.length p0.c, Value.int .i64 p1.W, .int .i64 p1.H, .slice p1.A p1.l.length p1.c, Value.int .i64 p2.W, .int .i64 p2.H, .slice p2.A p2.l.length p2.c] #[Value.int .i64 q0.W, .int .i64 q0.H, .slice q0.A q0.l.length q0.c, Value.int .i64 q1.W, .int .i64 q1.H, .slice q1.A q1.l.length q1.c, Value.int .i64 q2.W, .int .i64 q2.H, .slice q2.A q2.l.length q2.c] #[Value.int .i64 0, .int .i64 0, .int .i64 0, .int .i64 0, .int .i64 0] wc) ∧ Hid (Below B w wc))
    case first =>
      go_upto_region 5 with fail
      obtain ⟨x1, hx1⟩ : ∃ x, x = v1.alloc (.cells #[Value.int .i64 p1.W, .int .i64 p1.H, .slice p1.A p1.l.length p1.c] 32) := ⟨_, rfl⟩
      obtain ⟨b1, hb1⟩ : ∃ b, b = v1.heap.size := ⟨_, rfl⟩
      have XG1 : Hid (GB x1 gb t1) := by rw [hx1]; exact Lib.hid (blk_alloc HG.out _)
      have XP1 : Hid (x1.heap[b1]? = some (.cells #[Value.int .i64 p1.W, .int .i64 p1.H, .slice p1.A p1.l.length p1.c] 32 (0, 0))) := by rw [hx1, hb1]; exact Lib.hid (blk_new _ _)
      have XF1 : Hid (FQ B #[Value.int .i64 p0.W, .int .i64 p0.H, .slice p0.A p0.l.length p0.c, Value.int .i64 p1.W, .int .i64 p1.H, .slice p1.A p1.l.length p1.c, Value.int .i64 p2.W, .int .i64 p2.H, .slice p2.A p2.l.length p2.c] #[Value.int .i64 q0.W, .int .i64 q0.H, .slice q0.A q0.l.length q0.c, Value.int .i64 q1.W, .int .i64 q1.H, .slice q1.A q1.l.length q1.c, Value.int .i64 q2.W, .int .i64 q2.H, .slice q2.A q2.l.length q2.c] #[Value.int .i64 0, .int .i64 0, .int .i64 0, .int .i64 0, .int .i64 0] x1) := by rw [hx1]; exact Lib.hid (HFQ.out.below (by go_grown))
      have XB1 : Hid (Below B w x1) := by rw [hx1]; exact Lib.hid (HB.out.alloc (by have := HFQ.out.size; omega) _)
      rw [← hx1, ← hb1]
      clear hx1 hb1 HG HFQ HB
      have OP1 : Hid (p1.ok x1.drew) := Lib.hid (hp1.out.below (below_drw (HBB.out ▸ XB1.out)))
      have OQ1 : Hid (q1.ok x1.drew) := Lib.hid (hq1.out.below (below_drw (HBB.out ▸ XB1.out)))
      obtain ⟨g0, g1, g2, g3, g4, y0, y1, y2, y3, y4⟩ := five XG1.out
      have k0 := cells3 XP1.out 0 _ rfl
      have m0 := cells3 XF1.out.q 3 _ rfl
      have k1 := cells3 XP1.out 1 _ rfl
      have m1 := cells3 XF1.out.q 4 _ rfl
      have k2 := cells3 XP1.out 2 _ rfl
      have m2 := cells3 XF1.out.q 5 _ rfl
      go_region_with (first | (go_at_call 16; refine (f16_P p1 q1 r1 e1 _ OP1 OQ1).mono ?_; rintro e u2 ⟨rfl, hb2⟩; have G2 : Hid (GB u2 gb t1) := Lib.hid (blk_below (blk_drew XG1.out) hb2); have F2 : Hid (FQ B #[Value.int .i64 p0.W, .int .i64 p0.H, .slice p0.A p0.l.length p0.c, Value.int .i64 p1.W, .int .i64 p1.H, .slice p1.A p1.l.length p1.c, Value.int .i64 p2.W, .int .i64 p2.H, .slice p2.A p2.l.length p2.c] #[Value.int .i64 q0.W, .int .i64 q0.H, .slice q0.A q0.l.length q0.c, Value.int .i64 q1.W, .int .i64 q1.H, .slice q1.A q1.l.length q1.c, Value.int .i64 q2.W, .int .i64 q2.H, .slice q2.A q2.l.length q2.c] #[Value.int .i64 0, .int .i64 0, .int .i64 0, .int .i64 0, .int .i64 0] u2) := Lib.hid (XF1.out.below (below_drw2 hb2)); have B2 : Hid (Below B w u2) := Lib.hid (XB1.out.trans ((below_drw2 hb2).mono (by have := XF1.out.size; omega))); clear hb2; obtain ⟨h0, h1, h2, h3, h4, z0, z1, z2, z3, z4⟩ := five G2.out) | (go_at_call 23; refine (f23_r t1 r1 t2 j1 _).mono ?_; rintro e u3 ⟨rfl, hb3⟩; have G3 : Hid (GB u3 gb t1) := Lib.hid (blk_below G2.out hb3); have F3 : Hid (FQ B #[Value.int .i64 p0.W, .int .i64 p0.H, .slice p0.A p0.l.length p0.c, Value.int .i64 p1.W, .int .i64 p1.H, .slice p1.A p1.l.length p1.c, Value.int .i64 p2.W, .int .i64 p2.H, .slice p2.A p2.l.length p2.c] #[Value.int .i64 q0.W, .int .i64 q0.H, .slice q0.A q0.l.length q0.c, Value.int .i64 q1.W, .int .i64 q1.H, .slice q1.A q1.l.length q1.c, Value.int .i64 q2.W, .int .i64 q2.H, .slice q2.A q2.l.length q2.c] #[Value.int .i64 0, .int .i64 0, .int .i64 0, .int .i64 0, .int .i64 0] u3) := Lib.hid (F2.out.below hb3); have B3 : Hid (Below B w u3) := Lib.hid (B2.out.trans (hb3.mono (by have := F2.out.size; omega))); clear hb3; obtain ⟨n0, n1, n2, n3, n4, o0, o1, o2, o3, o4⟩ := five G3.out))
      all_goals (go_wp2_with fail; go_meet; exact ⟨rfl, Lib.hid (five_put G3.out), Lib.hid (F3.out.below' hgB (five_below (Below.refl _ _) (Nat.le_refl _))), Lib.hid (five_below B3.out (by omega))⟩)
    case rest =>
      clear HG HFQ HB
      obtain ⟨rfl, HG, HFQ, HB⟩ := hcut
      obtain ⟨v2, hv2⟩ : ∃ v, v = wc := ⟨_, rfl⟩
      rw [← hv2] at HG HFQ HB
      rw [← hv2]
      clear hv2
      go_wp2_with fail
      rw [rounds_succ]
      go_upto_block 1 with fail
      go_cut [10] from 10 to 22 (fun v10 wc => v10 = .int .i64 2 ∧ Hid (GB wc gb r) ∧ Hid (FQ B #[Value.int .i64 p0.W, .int .i64 p0.H, .slice p0.A p0.l.length p0.c, Value.int .i64 p1.W, .int .i64 p1.H, .slice p1.A p1.l.length p1.c, Value.int .i64 p2.W, .int .i64 p2.H, .slice p2.A p2.l.length p2.c] #[Value.int .i64 q0.W, .int .i64 q0.H, .slice q0.A q0.l.length q0.c, Value.int .i64 q1.W, .int .i64 q1.H, .slice q1.A q1.l.length q1.c, Value.int .i64 q2.W, .int .i64 q2.H, .slice q2.A q2.l.length q2.c] #[Value.int .i64 0, .int .i64 0, .int .i64 0, .int .i64 0, .int .i64 0] wc) ∧ Hid (Below B w wc))
      case first =>
        go_upto_region 5 with fail
        obtain ⟨x2, hx2⟩ : ∃ x, x = v2.alloc (.cells #[Value.int .i64 p2.W, .int .i64 p2.H, .slice p2.A p2.l.length p2.c] 32) := ⟨_, rfl⟩
        obtain ⟨b2, hb2⟩ : ∃ b, b = v2.heap.size := ⟨_, rfl⟩
        have XG2 : Hid (GB x2 gb t2) := by rw [hx2]; exact Lib.hid (blk_alloc HG.out _)
        have XP2 : Hid (x2.heap[b2]? = some (.cells #[Value.int .i64 p2.W, .int .i64 p2.H, .slice p2.A p2.l.length p2.c] 32 (0, 0))) := by rw [hx2, hb2]; exact Lib.hid (blk_new _ _)
        have XF2 : Hid (FQ B #[Value.int .i64 p0.W, .int .i64 p0.H, .slice p0.A p0.l.length p0.c, Value.int .i64 p1.W, .int .i64 p1.H, .slice p1.A p1.l.length p1.c, Value.int .i64 p2.W, .int .i64 p2.H, .slice p2.A p2.l.length p2.c] #[Value.int .i64 q0.W, .int .i64 q0.H, .slice q0.A q0.l.length q0.c, Value.int .i64 q1.W, .int .i64 q1.H, .slice q1.A q1.l.length q1.c, Value.int .i64 q2.W, .int .i64 q2.H, .slice q2.A q2.l.length q2.c] #[Value.int .i64 0, .int .i64 0, .int .i64 0, .int .i64 0, .int .i64 0] x2) := by rw [hx2]; exact Lib.hid (HFQ.out.below (by go_grown))
        have XB2 : Hid (Below B w x2) := by rw [hx2]; exact Lib.hid (HB.out.alloc (by have := HFQ.out.size; omega) _)
        rw [← hx2, ← hb2]
        clear hx2 hb2 HG HFQ HB
        have OP2 : Hid (p2.ok x2.drew) := Lib.hid (hp2.out.below (below_drw (HBB.out ▸ XB2.out)))
        have OQ2 : Hid (q2.ok x2.drew) := Lib.hid (hq2.out.below (below_drw (HBB.out ▸ XB2.out)))
        obtain ⟨g0, g1, g2, g3, g4, y0, y1, y2, y3, y4⟩ := five XG2.out
        have k0 := cells3 XP2.out 0 _ rfl
        have m0 := cells3 XF2.out.q 6 _ rfl
        have k1 := cells3 XP2.out 1 _ rfl
        have m1 := cells3 XF2.out.q 7 _ rfl
        have k2 := cells3 XP2.out 2 _ rfl
        have m2 := cells3 XF2.out.q 8 _ rfl
        go_region_with (first | (go_at_call 16; refine (f16_P p2 q2 r2 e2 _ OP2 OQ2).mono ?_; rintro e u2 ⟨rfl, hb2⟩; have G2 : Hid (GB u2 gb t2) := Lib.hid (blk_below (blk_drew XG2.out) hb2); have F2 : Hid (FQ B #[Value.int .i64 p0.W, .int .i64 p0.H, .slice p0.A p0.l.length p0.c, Value.int .i64 p1.W, .int .i64 p1.H, .slice p1.A p1.l.length p1.c, Value.int .i64 p2.W, .int .i64 p2.H, .slice p2.A p2.l.length p2.c] #[Value.int .i64 q0.W, .int .i64 q0.H, .slice q0.A q0.l.length q0.c, Value.int .i64 q1.W, .int .i64 q1.H, .slice q1.A q1.l.length q1.c, Value.int .i64 q2.W, .int .i64 q2.H, .slice q2.A q2.l.length q2.c] #[Value.int .i64 0, .int .i64 0, .int .i64 0, .int .i64 0, .int .i64 0] u2) := Lib.hid (XF2.out.below (below_drw2 hb2)); have B2 : Hid (Below B w u2) := Lib.hid (XB2.out.trans ((below_drw2 hb2).mono (by have := XF2.out.size; omega))); clear hb2; obtain ⟨h0, h1, h2, h3, h4, z0, z1, z2, z3, z4⟩ := five G2.out) | (go_at_call 23; refine (f23_r t2 r2 r j2 _).mono ?_; rintro e u3 ⟨rfl, hb3⟩; have G3 : Hid (GB u3 gb t2) := Lib.hid (blk_below G2.out hb3); have F3 : Hid (FQ B #[Value.int .i64 p0.W, .int .i64 p0.H, .slice p0.A p0.l.length p0.c, Value.int .i64 p1.W, .int .i64 p1.H, .slice p1.A p1.l.length p1.c, Value.int .i64 p2.W, .int .i64 p2.H, .slice p2.A p2.l.length p2.c] #[Value.int .i64 q0.W, .int .i64 q0.H, .slice q0.A q0.l.length q0.c, Value.int .i64 q1.W, .int .i64 q1.H, .slice q1.A q1.l.length q1.c, Value.int .i64 q2.W, .int .i64 q2.H, .slice q2.A q2.l.length q2.c] #[Value.int .i64 0, .int .i64 0, .int .i64 0, .int .i64 0, .int .i64 0] u3) := Lib.hid (F2.out.below hb3); have B3 : Hid (Below B w u3) := Lib.hid (B2.out.trans (hb3.mono (by have := F2.out.size; omega))); clear hb3; obtain ⟨n0, n1, n2, n3, n4, o0, o1, o2, o3, o4⟩ := five G3.out))
        all_goals (go_wp2_with fail; go_meet; exact ⟨rfl, Lib.hid (five_put G3.out), Lib.hid (F3.out.below' hgB (five_below (Below.refl _ _) (Nat.le_refl _))), Lib.hid (five_below B3.out (by omega))⟩)
      case rest =>
        clear HG HFQ HB
        obtain ⟨rfl, HG, HFQ, HB⟩ := hcut
        obtain ⟨v3, hv3⟩ : ∃ v, v = wc := ⟨_, rfl⟩
        rw [← hv3] at HG HFQ HB
        rw [← hv3]
        clear hv3
        go_wp2_with fail
        rw [rounds_succ]
        obtain ⟨g0, g1, g2, g3, g4, y0, y1, y2, y3, y4⟩ := five HG.out
        obtain ⟨n0, n1, n2, n3, n4, o0, o1, o2, o3, o4⟩ := five HFQ.out.r
        go_wp2_with fail
        exact bodyPost_ret (results_cell_row rfl _ _ (B + 1 + 1) 23 #[.int .i64 r.c, .int .i64 r.d, .int .i64 r.m, .int .i64 r.s, .int .i64 r.q] (0, 0) _ rfl (five_put HFQ.out.r) Tryd.underlying23 rfl (by kernel_rfl)) rfl ⟨rfl, five_below (by rw [← HBB.out]; exact HB.out) (by rw [← HBB.out]; omega)⟩
end Go.Proofs.YtecijaibbjafoaaDoor
