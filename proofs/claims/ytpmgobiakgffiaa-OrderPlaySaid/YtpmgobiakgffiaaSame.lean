import Derived.Test.YtpmgobiakgffiaaProg
import Derived.Test.YtpmgobiakgffiaaIns
import Derived.Test.YtpmgobiakgffiaaDel
import Derived.Test.YtpmgobiakgffiaaFr
import Derived.WalkKit
import Derived.Handy
import Derived.Deep.QuietTactic
import Derived.BigQuiet
import Derived.WalkSpells
import Derived.WalkLawsBesides
import Derived.Outline
import Derived.Lib.Hide
import Derived.Deep.DeepFit
import Derived.StillTailTactics
import Derived.Deep.RegionHeld3
import Derived.Deep.RegionWith
namespace Go.Proofs.Ytpmgobiakgffiaa
open Go.RowKit
set_option maxHeartbeats 1000000 in
set_option maxRecDepth 100000 in
theorem f10_any (n : Int) (w : World) : Calls Try.prog 10 #[.int .i64 n] w fun e w' => ∃ v, e = .returned (.agg v) ∧ Fr w' w.heap.size v (wrap64 n) (wrap64 (n + 1)) (wrap64 (n + 2)) ∧ Below w.heap.size w w' := by
  go_enter Try.func10, Try.ntmps10
  go_wp2
  refine wp_loop_rounds 4 ?_
  rw [rounds_succ]
  go_wp2
  rw [rounds_succ]
  go_wp2
  rw [rounds_succ]
  go_wp2
  rw [rounds_succ]
  go_wp2
  refine bodyPost_ret (v := .agg (fr9 _ 1 _ 1 _ 1)) (by simp [results, Try.results10, go_sem, fr9]; exact ⟨rfl, rfl, rfl⟩) rfl ⟨_, rfl, ⟨_, _, _, _, _, _, rfl, ⟨?_, #[.int .i64 (wrap64 n)], ?_, rfl⟩, ⟨?_, #[.int .i64 (wrap64 (n + 1))], ?_, rfl⟩, ⟨?_, #[.int .i64 (wrap64 (n + 2))], ?_, rfl⟩⟩, by go_grown⟩
  · omega
  · repeat (first | exact blk_at _ _ _ (by simp) | refine blk_drew ?_ | refine blk_old ?_)
  · omega
  · repeat (first | exact blk_at _ _ _ (by simp) | refine blk_drew ?_ | refine blk_old ?_)
  · omega
  · repeat (first | exact blk_at _ _ _ (by simp) | refine blk_drew ?_ | refine blk_old ?_)
theorem region_tail {P : Program} {id : Nat} {Q : Exit → Act → World → Prop} {a : Act} {w : World} {l : List Oper} (n : Nat) (hm : P.follows .mixedOrders = true) (hB : Region.lexTailB .any l.toArray n = true)
    (h : wpStill P l.toArray w.drew (fun a' => wpList P l.toArray Q (l.drop n) a' w.drew) (l.take n) a) : (Code.region id l.toArray true).wp P Q a w := wp_region_still_tail n hm hB h
theorem bcell {W w1 : World} (hb : Below W.heap.size W w1) : (∀ b o, b < W.heap.size → w1.cell? ⟨b, o, none⟩ = W.cell? ⟨b, o, none⟩) ∧ (∀ b o, b < W.heap.size → w1.frozen? ⟨b, o, none⟩ = W.frozen? ⟨b, o, none⟩) :=
  ⟨fun b o h => hb.cell (p := ⟨b, o, none⟩) h, fun b o h => hb.frozen (p := ⟨b, o, none⟩) h⟩
theorem bcellD {W w1 : World} (hb : Below W.drew.heap.size W.drew w1) : (∀ b o, b < W.heap.size → w1.cell? ⟨b, o, none⟩ = W.cell? ⟨b, o, none⟩) ∧ (∀ b o, b < W.heap.size → w1.frozen? ⟨b, o, none⟩ = W.frozen? ⟨b, o, none⟩) :=
  ⟨fun b o h => hb.cell (p := ⟨b, o, none⟩) h, fun b o h => hb.frozen (p := ⟨b, o, none⟩) h⟩
theorem below_up {w W w1 : World} (h : Below w.heap.size w W) (k : Below W.heap.size W w1) : Below w.heap.size w w1 := h.trans (k.mono h.size)
theorem below_drew {B : Nat} {w W : World} (h : Below B w W) : Below B w W.drew := ⟨h.os, h.tape, h.output, h.size, h.block⟩
theorem belowN {B : Nat} {w W : World} (h : Below B w W) (n : Nat) : Below B w (W.drewN n) := ⟨h.os, h.tape, h.output, h.size, h.block⟩
theorem ret_bool {x y : Bool} (h : x = y) : Ending.returned (.bool x) = .returned (.bool y) := by rw [h]
set_option maxHeartbeats 400000 in
theorem f33_one (p c q d : Nat) (a b : Int) (w : World) (h0 : w.cell? ⟨p, 0, none⟩ = some (.int .i64 a)) (h1 : w.cell? ⟨q, 0, none⟩ = some (.int .i64 b)) :
    Calls Try.prog 33 #[.agg #[.int .i64 1, .int .i64 1, .slice (some ⟨p, 0, none⟩) 1 c], .agg #[.int .i64 1, .int .i64 1, .slice (some ⟨q, 0, none⟩) 1 d]] w fun e w' => e = .returned (.bool (a == b)) ∧ Below w.heap.size w w' := by
  have g0 := fun o1 o2 => cell_later (w := w) (wx := (w.alloc o1).alloc o2) (by go_grown) h0
  have g1 := fun o1 o2 => cell_later (w := w) (wx := (w.alloc o1).alloc o2) (by go_grown) h1
  by_cases hab : a = b
  · subst hab
    have hd : (a == a) = true := by simp
    have hd2 : (a != a) = false := by simp
    go_enter Try.func33, Try.ntmps33
    go_wp2
    refine wp_loop_rounds 2 ?_
    rw [rounds_succ]
    go_wp2
    go_quiet (fail)
    go_wp2
    rw [rounds_succ]
    go_wp2
    go_ret
    exact ⟨ret_bool (x := true) hd.symm, by refine belowN ?_ _; go_grown⟩
  · have hd : (a == b) = false := by simpa using hab
    have hd2 : (a != b) = true := by simpa using hab
    go_enter Try.func33, Try.ntmps33
    go_wp2
    refine wp_loop_rounds 2 ?_
    rw [rounds_succ]
    go_wp2
    go_quiet (fail)
    go_wp2
    go_ret
    exact ⟨ret_bool (x := false) hd.symm, by refine belowN ?_ _; go_grown⟩

set_option maxHeartbeats 1000000 in
set_option maxRecDepth 100000 in
theorem f13_any (v u : Array Value) (lo lo' : Nat) (a b c a' b' c' : Int) (w : World) (hv : Fr w lo v a b c) (hu : Fr w lo' u a' b' c') :
    Calls Try.prog 13 #[.agg v, .agg u] w fun e w' => e = .returned (.bool (a == a' && b == b' && c == c')) ∧ Below w.heap.size w w' := by
  obtain ⟨p0, c0, p1, c1, p2, c2, rfl, k0, k1, k2⟩ := hv
  obtain ⟨q0, d0, q1, d1, q2, d2, rfl, g0, g1, g2⟩ := hu
  replace k0 := k0.cell
  replace k1 := k1.cell
  replace k2 := k2.cell
  replace g0 := g0.cell
  replace g1 := g1.cell
  replace g2 := g2.cell
  unfold fr9
  go_enter Try.func13, Try.ntmps13
  go_wp2
  refine wp_loop_rounds 4 ?_
  rw [rounds_succ]
  go_wp2
  refine region_tail 8 (by kernel_rfl) (by kernel_rfl) ?_
  simp only [List.take_succ_cons, List.take_zero, List.drop_succ_cons, List.drop_zero]
  repeat still_step
  refine wpStill_nil ?_
  go_wp2_with fail
  refine (f33_one p0 c0 q0 d0 a a' _ ?_ ?_).mono ?_
  · exact cell_later (by go_grown) k0
  · exact cell_later (by go_grown) g0
  rintro e w1 ⟨rfl, hb0⟩
  obtain ⟨hc0, hf0⟩ := bcellD hb0
  have hz0 : w.heap.size < w1.heap.size := by have := hb0.size; simp at this; omega
  have hz1 : w.heap.size + 1 < w1.heap.size := by have := hb0.size; simp at this; omega
  have HB0 := Lib.hid hb0; clear hb0
  go_wp2
  · have hx : (a == a' && b == b' && c == c') = false := by simp_all
    go_ret
    exact ⟨ret_bool (x := false) hx.symm, (below_up (by go_grown) HB0.out)⟩
  rw [rounds_succ]
  go_wp2
  refine region_tail 8 (by kernel_rfl) (by kernel_rfl) ?_
  simp only [List.take_succ_cons, List.take_zero, List.drop_succ_cons, List.drop_zero]
  repeat still_step
  refine wpStill_nil ?_
  go_wp2_with fail
  refine (f33_one p1 c1 q1 d1 b b' _ ?_ ?_).mono ?_
  · exact cell_later (below_drew (below_up (by go_grown) HB0.out)) k1
  · exact cell_later (below_drew (below_up (by go_grown) HB0.out)) g1
  rintro e w2 ⟨rfl, hb1⟩
  obtain ⟨hc1, hf1⟩ := bcellD hb1
  have HB1 := Lib.hid hb1; clear hb1
  go_wp2
  · have hx : (a == a' && b == b' && c == c') = false := by simp_all
    go_ret
    exact ⟨ret_bool (x := false) hx.symm, (below_up (below_drew (below_up (by go_grown) HB0.out)) HB1.out)⟩
  rw [rounds_succ]
  go_wp2
  refine region_tail 8 (by kernel_rfl) (by kernel_rfl) ?_
  simp only [List.take_succ_cons, List.take_zero, List.drop_succ_cons, List.drop_zero]
  repeat still_step
  refine wpStill_nil ?_
  go_wp2_with fail
  refine (f33_one p2 c2 q2 d2 c c' _ ?_ ?_).mono ?_
  · exact cell_later (below_drew (below_up (below_drew (below_up (by go_grown) HB0.out)) HB1.out)) k2
  · exact cell_later (below_drew (below_up (below_drew (below_up (by go_grown) HB0.out)) HB1.out)) g2
  rintro e w3 ⟨rfl, hb2⟩
  obtain ⟨hc2, hf2⟩ := bcellD hb2
  have HB2 := Lib.hid hb2; clear hb2
  go_wp2
  · have hx : (a == a' && b == b' && c == c') = false := by simp_all
    go_ret
    exact ⟨ret_bool (x := false) hx.symm, (below_up (below_drew (below_up (below_drew (below_up (by go_grown) HB0.out)) HB1.out)) HB2.out)⟩
  rw [rounds_succ]
  go_wp2
  have hx : (a == a' && b == b' && c == c') = true := by simp_all
  go_ret
  exact ⟨ret_bool (x := true) hx.symm, (below_up (below_drew (below_up (below_drew (below_up (by go_grown) HB0.out)) HB1.out)) HB2.out)⟩
end Go.Proofs.Ytpmgobiakgffiaa
