import Derived.Test.YtecijaibbjafoaaDoorPl
namespace Go.Proofs.YtecijaibbjafoaaDoor
open Go.RowKit Go.Proofs.YtecijaibbjafoaaDoorW.PrintWords Go.Proofs.YtecijaibbjafoaaDoorW.PrintLast Go.Proofs.YtecijaibbjafoaaDoorW.PrintMore Go.Proofs.YtecijaibbjafoaaDoor.PG
/-- What lies on from B: the two planes, the result. -/
structure PQ (B : Nat) (p q r : Array Value) (w : World) : Prop where
  p : w.heap[B]? = some (.cells p 32 (0, 0))
  q : w.heap[B + 1]? = some (.cells q 32 (0, 0))
  r : w.heap[B + 1 + 1]? = some (.cells r 23 (0, 0))
theorem PQ.below {B : Nat} {p q r : Array Value} {w w1 : World} (h : PQ B p q r w) (hb : Below w.heap.size w w1) : PQ B p q r w1 := ⟨blk_below h.p hb, blk_below h.q hb, blk_below h.r hb⟩
theorem PQ.below' {B g : Nat} {p q r : Array Value} {w w1 : World} (h : PQ B p q r w) (hg : B + 2 < g) (hb : Below g w w1) : PQ B p q r w1 := ⟨(hb.block _ (by omega)).trans h.p, (hb.block _ (by omega)).trans h.q, (hb.block _ (by omega)).trans h.r⟩
theorem PQ.size {B : Nat} {p q r : Array Value} {w : World} (h : PQ B p q r w) : B + 2 < w.heap.size := blk_lt h.r
theorem PQ.cells {B : Nat} {W H W' H' : Int} {s s' : Value} {r0 r1 r2 r3 r4 : Value} {w : World} (h : PQ B #[.int .i64 W, .int .i64 H, s] #[.int .i64 W', .int .i64 H', s'] #[r0, r1, r2, r3, r4] w) :
    w.cell? ⟨B, 0, none⟩ = some (.int .i64 W) ∧ w.cell? ⟨B, 1, none⟩ = some (.int .i64 H) ∧ w.cell? ⟨B, 2, none⟩ = some s ∧ w.cell? ⟨B + 1, 0, none⟩ = some (.int .i64 W') ∧ w.cell? ⟨B + 1, 1, none⟩ = some (.int .i64 H') ∧ w.cell? ⟨B + 1, 2, none⟩ = some s' :=
  ⟨(blk_cell h.p 0).trans rfl, (blk_cell h.p 1).trans rfl, (blk_cell h.p 2).trans rfl, (blk_cell h.q 0).trans rfl, (blk_cell h.q 1).trans rfl, (blk_cell h.q 2).trans rfl⟩
/-- Five cells. -/
theorem five {w : World} {g : Nat} {a0 a1 a2 a3 a4 : Value} (h : w.heap[g]? = some (.cells #[a0, a1, a2, a3, a4] 23 (0, 0))) :
    w.cell? ⟨g, 0, none⟩ = some a0 ∧ w.cell? ⟨g, 1, none⟩ = some a1 ∧ w.cell? ⟨g, 2, none⟩ = some a2 ∧ w.cell? ⟨g, 3, none⟩ = some a3 ∧ w.cell? ⟨g, 4, none⟩ = some a4 ∧
    w.frozen? ⟨g, 0, none⟩ = false ∧ w.frozen? ⟨g, 1, none⟩ = false ∧ w.frozen? ⟨g, 2, none⟩ = false ∧ w.frozen? ⟨g, 3, none⟩ = false ∧ w.frozen? ⟨g, 4, none⟩ = false :=
  ⟨(blk_cell h 0).trans rfl, (blk_cell h 1).trans rfl, (blk_cell h 2).trans rfl, (blk_cell h 3).trans rfl, (blk_cell h 4).trans rfl, blk_frozen h 0, blk_frozen h 1, blk_frozen h 2, blk_frozen h 3, blk_frozen h 4⟩
theorem five_put {w : World} {g : Nat} {a0 a1 a2 a3 a4 b0 b1 b2 b3 b4 : Value} (h : w.heap[g]? = some (.cells #[a0, a1, a2, a3, a4] 23 (0, 0))) :
    (((((w.setCell ⟨g, 0, none⟩ b0).setCell ⟨g, 1, none⟩ b1).setCell ⟨g, 2, none⟩ b2).setCell ⟨g, 3, none⟩ b3).setCell ⟨g, 4, none⟩ b4).heap[g]? = some (.cells #[b0, b1, b2, b3, b4] 23 (0, 0)) :=
  blk_put (blk_put (blk_put (blk_put (blk_put h 0 b0 rfl) 1 b1 rfl) 2 b2 rfl) 3 b3 rfl) 4 b4 rfl
theorem five_below {B g : Nat} {w0 w : World} {b0 b1 b2 b3 b4 : Value} (h : Below B w0 w) (hg : B ≤ g) :
    Below B w0 (((((w.setCell ⟨g, 0, none⟩ b0).setCell ⟨g, 1, none⟩ b1).setCell ⟨g, 2, none⟩ b2).setCell ⟨g, 3, none⟩ b3).setCell ⟨g, 4, none⟩ b4) :=
  ((((h.setCell (p := ⟨g, 0, none⟩) hg _).setCell (p := ⟨g, 1, none⟩) hg _).setCell (p := ⟨g, 2, none⟩) hg _).setCell (p := ⟨g, 3, none⟩) hg _).setCell (p := ⟨g, 4, none⟩) hg _
theorem pq_start (w : World) (p q : Array Value) : PQ w.heap.size p q #[.int .i64 0, .int .i64 0, .int .i64 0, .int .i64 0, .int .i64 0] (((w.alloc (.cells p 32)).alloc (.cells q 32)).alloc (.cells #[.int .i64 0, .int .i64 0, .int .i64 0, .int .i64 0, .int .i64 0] 23)) :=
  ⟨blk_alloc (blk_alloc (blk_new _ _) _) _, by have := blk_alloc (blk_new (w.alloc (.cells p 32)) (.cells q 32)) (.cells #[.int .i64 0, .int .i64 0, .int .i64 0, .int .i64 0, .int .i64 0] 23); simpa using this, by have := blk_new ((w.alloc (.cells p 32)).alloc (.cells q 32)) (.cells #[.int .i64 0, .int .i64 0, .int .i64 0, .int .i64 0, .int .i64 0] 23); simpa using this⟩
set_option maxHeartbeats 4000000 in
set_option maxRecDepth 100000 in
theorem f16_no (W H : Int) (A : Option Addr) (c : Nat) (l : List Int) (W' H' : Int) (A' : Option Addr) (c' : Nat) (l' : List Int) (w : World) (h : Hid (RW w A c l)) (h' : Hid (RW w A' c' l'))
    (hl : likeB W H l.length W' H' l'.length = false) :
    Calls Tryd.prog 16 #[.agg #[.int .i64 W, .int .i64 H, .slice A l.length c], .agg #[.int .i64 W', .int .i64 H', .slice A' l'.length c']] w fun e w' => e = .returned G5.zero.v ∧ Below w.heap.size w w' := by
  unfold likeB at hl
  obtain ⟨wb, hwb⟩ : ∃ wb, wb = ((w.alloc (.cells #[.int .i64 W, .int .i64 H, .slice A l.length c] 32)).alloc (.cells #[.int .i64 W', .int .i64 H', .slice A' l'.length c'] 32)).alloc (.cells #[.int .i64 0, .int .i64 0, .int .i64 0, .int .i64 0, .int .i64 0] 23) := ⟨_, rfl⟩
  have HB : Hid (Below w.heap.size w wb) := by rw [hwb]; exact Lib.hid (by go_grown)
  have HPQ : Hid (PQ w.heap.size #[.int .i64 W, .int .i64 H, .slice A l.length c] #[.int .i64 W', .int .i64 H', .slice A' l'.length c'] #[.int .i64 0, .int .i64 0, .int .i64 0, .int .i64 0, .int .i64 0] wb) := by
    rw [hwb]; exact Lib.hid (pq_start _ _ _)
  obtain ⟨B, hB⟩ : ∃ B, B = w.heap.size := ⟨_, rfl⟩
  go_enter Tryd.func16, Tryd.ntmps16
  go_wp2_with fail
  rw [← hwb, ← hB]
  rw [← hB] at HB HPQ
  have H1 : Hid (RW wb A c l) := Lib.hid (h.out.below (hB ▸ HB.out))
  have H2 : Hid (RW wb A' c' l') := Lib.hid (h'.out.below (hB ▸ HB.out))
  have HBB := Lib.hid hB
  clear hwb hB h h'
  refine (f30_any W H A c l wb H1).mono ?_
  rintro e w1 ⟨rfl, hb1⟩
  have HQ1 := Lib.hid (HPQ.out.below hb1)
  have HR1 := Lib.hid (H1.out.below hb1)
  have HS1 := Lib.hid (H2.out.below hb1)
  have HB1 := Lib.hid (HB.out.trans (hb1.mono (by have := HPQ.out.size; omega)))
  clear hb1 HPQ H1 H2 HB
  obtain ⟨p0, p1, p2, q0, q1, q2⟩ := HQ1.out.cells
  cases hr1 : rtB W H l.length with
  | false =>
    clear hl
    obtain ⟨r0, r1, r2, r3, r4, z0, z1, z2, z3, z4⟩ := five HQ1.out.r
    go_wp2_with fail
    exact bodyPost_ret (results_cell_row rfl _ _ (B + 1 + 1) 23 #[.int .i64 0, .int .i64 0, .int .i64 0, .int .i64 0, .int .i64 0] (0, 0) _ rfl (five_put HQ1.out.r) Tryd.underlying23 rfl (by kernel_rfl)) rfl ⟨rfl, five_below (by rw [← HBB.out]; exact HB1.out) (by rw [← HBB.out]; omega)⟩
  | true =>
    rw [hr1] at hl
    clear hr1
    go_wp2_with fail
    refine (f30_any W' H' A' c' l' w1 HS1).mono ?_
    rintro e w2 ⟨rfl, hb2⟩
    have HQ2 := Lib.hid (HQ1.out.below hb2)
    have HB2 := Lib.hid (HB1.out.trans (hb2.mono (by have := HQ1.out.size; omega)))
    clear hb2 HQ1 HB1 HR1 HS1 p0 p1 p2 q0 q1 q2
    obtain ⟨p0, p1, p2, q0, q1, q2⟩ := HQ2.out.cells
    obtain ⟨r0, r1, r2, r3, r4, z0, z1, z2, z3, z4⟩ := five HQ2.out.r
    cases hr2 : rtB W' H' l'.length with
    | false =>
      clear hl
      go_wp2_with fail
      exact bodyPost_ret (results_cell_row rfl _ _ (B + 1 + 1) 23 #[.int .i64 0, .int .i64 0, .int .i64 0, .int .i64 0, .int .i64 0] (0, 0) _ rfl (five_put HQ2.out.r) Tryd.underlying23 rfl (by kernel_rfl)) rfl ⟨rfl, five_below (by rw [← HBB.out]; exact HB2.out) (by rw [← HBB.out]; omega)⟩
    | true =>
      rw [hr2] at hl
      clear hr2
      by_cases hW : W = W'
      · have hH : (H == H') = false := by simpa [hW] using hl
        have hH2 : (H != H') = true := by simp [bne, hH]
        have hW2 : (W != W') = false := by simp [hW]
        clear hl hW
        go_wp2_with fail
        exact bodyPost_ret (results_cell_row rfl _ _ (B + 1 + 1) 23 #[.int .i64 0, .int .i64 0, .int .i64 0, .int .i64 0, .int .i64 0] (0, 0) _ rfl (five_put HQ2.out.r) Tryd.underlying23 rfl (by kernel_rfl)) rfl ⟨rfl, five_below (by rw [← HBB.out]; exact HB2.out) (by rw [← HBB.out]; omega)⟩
      · have hW2 : (W != W') = true := by simpa using hW
        clear hl hW
        go_wp2_with fail
        exact bodyPost_ret (results_cell_row rfl _ _ (B + 1 + 1) 23 #[.int .i64 0, .int .i64 0, .int .i64 0, .int .i64 0, .int .i64 0] (0, 0) _ rfl (five_put HQ2.out.r) Tryd.underlying23 rfl (by kernel_rfl)) rfl ⟨rfl, five_below (by rw [← HBB.out]; exact HB2.out) (by rw [← HBB.out]; omega)⟩
end Go.Proofs.YtecijaibbjafoaaDoor
