import Derived.Test.YtecijaibbjafoaaDoorPlRef
namespace Go.Proofs.YtecijaibbjafoaaDoor
open Go.RowKit Go.Proofs.YtecijaibbjafoaaDoorW.PrintWords Go.Proofs.YtecijaibbjafoaaDoorW.PrintLast Go.Proofs.YtecijaibbjafoaaDoorW.PrintMore Go.Proofs.YtecijaibbjafoaaDoor.PG
/-- One number in a block of its own reads as a row. -/
theorem rw_one {w : World} {g : Nat} {x : Int} (h : w.heap[g]? = some (.cells #[.int .i64 x] 3 (0, 0))) : RW w (some ⟨g, 0, none⟩) 1 [x] := by
  refine ⟨⟨rfl, by simp, fun _ => ⟨_, rfl, fun j p hj => ?_⟩⟩, Nat.le_refl _⟩
  cases j with
  | zero =>
    simp at hj
    subst hj
    refine ⟨[.int .i64 x], rfl, rfl, fun i u hu => ?_⟩
    cases i with
    | zero =>
      simp at hu
      subst hu
      exact (blk_cell h 0).trans rfl
    | succ i => simp at hu
  | succ j => simp at hj
theorem blk_at0 (w : World) (o : Obj) (k : Nat) (hk : k = w.heap.size) : (w.alloc o).heap[k]? = some o := by subst hk; exact heap_alloc_new w o
def fr9 (p0 p1 p2 : Nat) : Array Value := #[.int .i64 1, .int .i64 1, .slice (some ⟨p0, 0, none⟩) 1 1, .int .i64 1, .int .i64 1, .slice (some ⟨p1, 0, none⟩) 1 1, .int .i64 1, .int .i64 1, .slice (some ⟨p2, 0, none⟩) 1 1]
set_option maxHeartbeats 1000000 in
set_option maxRecDepth 100000 in
theorem f24_any (n : Int) (w : World) : Calls Tryd.prog 24 #[.int .i64 n] w fun e w' => ∃ p0 p1 p2, e = .returned (.agg (fr9 p0 p1 p2)) ∧ RW w' (some ⟨p0, 0, none⟩) 1 [wrap64 n] ∧ RW w' (some ⟨p1, 0, none⟩) 1 [wrap64 (n + 1)] ∧ RW w' (some ⟨p2, 0, none⟩) 1 [wrap64 (n + 2)] ∧ Below w.heap.size w w' := by
  go_enter Tryd.func24, Tryd.ntmps24
  go_wp2
  refine wp_loop_rounds 4 ?_
  rw [rounds_succ]
  go_wp2
  rw [rounds_succ]
  go_wp2
  rw [rounds_succ]
  go_wp2
  rw [rounds_succ]
  go_wp2
  refine bodyPost_ret (v := .agg (fr9 _ _ _)) (by simp [results, Tryd.results24, go_sem, fr9]; exact ⟨rfl, rfl, rfl⟩) rfl ⟨_, _, _, rfl, rw_one ?_, rw_one ?_, rw_one ?_, by go_grown⟩
  all_goals repeat (first | exact blk_at0 _ _ _ (by simp) | refine blk_alloc ?_ _)
end Go.Proofs.YtecijaibbjafoaaDoor
