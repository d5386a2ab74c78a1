import Derived.Test.YtecijaibbjafoaaDoorFirst
namespace Go.Proofs.YtecijaibbjafoaaDoor
open Go.RowKit Go.Proofs.YtecijaibbjafoaaDoorW.PrintWords Go.Proofs.YtecijaibbjafoaaDoorW.PrintLast Go.Proofs.YtecijaibbjafoaaDoorW.PrintMore Go.Proofs.YtecijaibbjafoaaDoor.PG
theorem two {w : World} {g : Nat} {a0 a1 : Value} {t : TypeId} (h : w.heap[g]? = some (.cells #[a0, a1] t (0, 0))) : w.cell? ⟨g, 0, none⟩ = some a0 ∧ w.cell? ⟨g, 1, none⟩ = some a1 := ⟨(blk_cell h 0).trans rfl, (blk_cell h 1).trans rfl⟩
/-- The boxes of the call. -/
structure LB (B : Nat) (g : G5) (n0 n1 : Int) (w : World) : Prop where
  g : w.heap[B]? = some (.cells #[.int .i64 g.c, .int .i64 g.d, .int .i64 g.m, .int .i64 g.s, .int .i64 g.q] 23 (0, 0))
  n : w.heap[B + 1]? = some (.cells #[.int .i64 n0, .int .i64 n1] 24 (0, 0))
theorem LB.below {B : Nat} {g : G5} {n0 n1 : Int} {w w1 : World} (h : LB B g n0 n1 w) (hb : Below w.heap.size w w1) : LB B g n0 n1 w1 := ⟨blk_below h.g hb, blk_below h.n hb⟩
/-- All the seven cells. -/
def Seven (B : Nat) (g : G5) (n0 n1 : Int) (w : World) : Prop := w.cell? ⟨B, 0, none⟩ = some (.int .i64 g.c) ∧ w.cell? ⟨B, 1, none⟩ = some (.int .i64 g.d) ∧ w.cell? ⟨B, 2, none⟩ = some (.int .i64 g.m) ∧ w.cell? ⟨B, 3, none⟩ = some (.int .i64 g.s) ∧ w.cell? ⟨B, 4, none⟩ = some (.int .i64 g.q) ∧ w.cell? ⟨B + 1, 0, none⟩ = some (.int .i64 n0) ∧ w.cell? ⟨B + 1, 1, none⟩ = some (.int .i64 n1)
theorem LB.cells {B : Nat} {g : G5} {n0 n1 : Int} {w : World} (h : LB B g n0 n1 w) : Seven B g n0 n1 w := by
  obtain ⟨g0, g1, g2, g3, g4, _⟩ := five h.g
  obtain ⟨n0, n1⟩ := two h.n
  exact ⟨g0, g1, g2, g3, g4, n0, n1⟩
theorem below_same (w : World) : Below w.heap.size w w := Below.refl _ _
set_option maxHeartbeats 8000000 in
set_option maxRecDepth 100000 in
theorem f3_any (g : G5) (hg : Hid g.inR) (peak n0 n1 : Int) (w : World) (ht : Hid (Tab w)) : Calls Tryd.prog 3 #[.agg #[.int .i64 g.c, .int .i64 g.d, .int .i64 g.m, .int .i64 g.s, .int .i64 g.q], .int .i64 peak, .agg #[.int .i64 n0, .int .i64 n1]] w fun e w' => e = .returned (.bool true) ∧ Below w.heap.size w w' := by
  obtain ⟨wb, hwb⟩ : ∃ wb, wb = (w.alloc (.cells #[.int .i64 g.c, .int .i64 g.d, .int .i64 g.m, .int .i64 g.s, .int .i64 g.q] 23)).alloc (.cells #[.int .i64 n0, .int .i64 n1] 24) := ⟨_, rfl⟩
  obtain ⟨B, hB⟩ : ∃ B, B = w.heap.size := ⟨_, rfl⟩
  have HL : Hid (LB B g n0 n1 wb) := by rw [hwb, hB]; exact Lib.hid ⟨blk_alloc (blk_new _ _) _, blk_at0 _ _ _ (by simp)⟩
  have HB : Hid (Below w.heap.size w wb) := by rw [hwb]; exact Lib.hid (by go_grown)
  have HWB := Lib.hid hwb
  have HBB := Lib.hid hB
  clear hwb hB
  go_enter Tryd.func3, Tryd.ntmps3
  go_wp2_with fail
  rw [← HWB.out, ← HBB.out]
  clear HWB
  refine (f7_any wb (Lib.hid (ht.out.below HB.out))).mono ?_
  rintro e w1 ⟨rfl, hb1⟩
  have HB1 := Lib.hid (HB.out.trans (hb1.mono HB.out.size))
  have HL1 := Lib.hid (HL.out.below hb1)
  clear HB HL hb1
  go_upto_region 3 with fail
  have HBX : Hid (Below w.heap.size w w1.drew) := Lib.hid HB1.out.drew
  have HLX : Hid (LB B g n0 n1 w1.drew) := Lib.hid (HL1.out.below (Below.refl _ _).drew)
  obtain ⟨g0, g1, g2, g3, g4, k0, k1⟩ := HL1.out.cells
  clear HB1 HL1
  have F8 := Lib.hid (fun w => f8_any g.c g.d g.m g.s g.q peak w)
  have F9 := Lib.hid (fun w => f9_any g.c g.d g.m g.s g.q peak w)
  have F10 := Lib.hid (fun w => f10_any n0 n1 w)
  have F11 := Lib.hid (fun w => f11_any n0 n1 w)
  have F12 := Lib.hid (fun w (h : Hid (Tab w)) => f12_any g hg w h)
  have F13 := Lib.hid (fun w => f13_any g hg w)
  obtain ⟨lv, hlv⟩ : ∃ x, levelR g.c g.q peak = x := ⟨_, rfl⟩
  obtain ⟨rt, hrt⟩ : ∃ x, rateR n0 n1 = x := ⟨_, rfl⟩
  obtain ⟨tx, htx⟩ : ∃ x, txt (numB g.c) (numB g.d) (numB g.m) (numB g.s) (numB g.q) = x := ⟨_, rfl⟩
  rw [hlv] at F8 F9
  rw [hrt] at F10 F11
  rw [htx] at F12 F13
  clear hlv hrt htx
  have q1 : (lv == lv) = true := by simp
  have q2 : (rt == rt) = true := by simp
  go_region_held3 (fun w' => w'.cell? ⟨B, 0, none⟩ = some (.int .i64 g.c) ∧ w'.cell? ⟨B, 1, none⟩ = some (.int .i64 g.d) ∧ w'.cell? ⟨B, 2, none⟩ = some (.int .i64 g.m) ∧ w'.cell? ⟨B, 3, none⟩ = some (.int .i64 g.s) ∧ w'.cell? ⟨B, 4, none⟩ = some (.int .i64 g.q) ∧ w'.cell? ⟨B + 1, 0, none⟩ = some (.int .i64 n0) ∧ w'.cell? ⟨B + 1, 1, none⟩ = some (.int .i64 n1)) (first | exact HLX.out.cells | (simp [*]; done))
    (first
      | (go_at_call 8; with_reducible refine (F8.out _).mono ?_; rintro e wn ⟨rfl, hbn⟩; replace HBX : Hid (Below w.heap.size w wn) := Lib.hid (HBX.out.trans (hbn.mono HBX.out.size)); replace HLX : Hid (LB B g n0 n1 wn) := Lib.hid (HLX.out.below hbn); clear hbn)
      | (go_at_call 9; with_reducible refine (F9.out _).mono ?_; rintro e wn ⟨rfl, hbn⟩; replace HBX : Hid (Below w.heap.size w wn) := Lib.hid (HBX.out.trans (hbn.mono HBX.out.size)); replace HLX : Hid (LB B g n0 n1 wn) := Lib.hid (HLX.out.below hbn); clear hbn)
      | (go_at_call 10; with_reducible refine (F10.out _).mono ?_; rintro e wn ⟨rfl, rfl⟩)
      | (go_at_call 11; with_reducible refine (F11.out _).mono ?_; rintro e wn ⟨rfl, rfl⟩)
      | (go_at_call 12; with_reducible refine (F12.out _ (Lib.hid (ht.out.below HBX.out))).mono ?_; rintro e wn ⟨rfl, hbn⟩; replace HBX : Hid (Below w.heap.size w wn) := Lib.hid (HBX.out.trans (hbn.mono HBX.out.size)); replace HLX : Hid (LB B g n0 n1 wn) := Lib.hid (HLX.out.below hbn); clear hbn)
      | (go_at_call 13; with_reducible refine (F13.out _).mono ?_; rintro e wn ⟨rfl, hbn⟩; replace HBX : Hid (Below w.heap.size w wn) := Lib.hid (HBX.out.trans (hbn.mono HBX.out.size)); replace HLX : Hid (LB B g n0 n1 wn) := Lib.hid (HLX.out.below hbn); clear hbn))
  all_goals (go_wp2; go_ret; exact ⟨rfl, HBX.out⟩)
end Go.Proofs.YtecijaibbjafoaaDoor
