import Derived.Test.YtpmgobiakgffiaaProg
import Derived.Test.YtpmgobiakgffiaaIns
import Derived.WalkKit
import Derived.Handy
import Derived.Deep.QuietTactic
import Derived.BigQuiet
import Derived.WalkSpells
import Derived.WalkLawsBesides
import Derived.Outline
import Derived.Lib.Hide
import Derived.Deep.DeepFit
namespace Go.Proofs.Ytpmgobiakgffiaa
open Go.RowKit
theorem info3 : (Try.prog.info? 3).map (fun i => (i.zero, i.size, i.bytes)) = some (some (.int .i64 0), 1, 8) := by kernel_rfl
theorem row_head (x : Value) (Z : Array Value) : (([x] : List Value).toArray ++ Z)[0]? = some x := by
  rw [Array.getElem?_append_left (by simp)]; rfl
/-- append([]int(nil), p...) of one number: a new row. -/
theorem wpList_app1 (w : World) {ops : Array Oper} {rest : List Oper} {o : Oper} {a : Act} {Q : Exit → Act → World → Prop} (hgd : o.guard = none) (d s : Operand)
    (ho : o.op = .call { callee := .builtin .append, args := #[d, s], argTypes := #[24, 24] }) (p c : Nat) (n : Int) (hd : a.eval d = .slice none 0 0) (hs : a.eval s = .slice (some ⟨p, 0, none⟩) 1 c)
    (hc : w.cell? ⟨p, 0, none⟩ = some (.int .i64 n))
    (h : ∀ (k : Nat) (R : Array Value), Hid (R[0]? = some (.int .i64 n)) → Hid (1 ≤ k) → wpList Try.prog ops Q rest (a.put o.dst (.slice (some ⟨w.heap.size, 0, none⟩) 1 k)) (w.drew.alloc (.cells R 3))) :
    wpList Try.prog ops Q (o :: rest) a w := by
  obtain ⟨q0, hi0, hz0, hzs, hzb⟩ := info_parts info3
  have hr := fun ty => run_append_nil (P := Try.prog) w 24 ty 3 q0 _ Try.underlying24 hi0 hz0 ⟨p, 0, none⟩ 1 c [.int .i64 n] (by rw [hzs]; rfl) (fun j v hj => by
    cases j with
    | zero => rw [Addr.add_lit]; simp at hj; rw [← hj]; exact hc
    | succ j => simp at hj) (by omega) (by omega) (by rw [hzb]; omega)
  exact wpList_run2 w hgd .append d s _ ho _ _ hd hs (fun cs => builtin_append _ _ _ _ _ (hr _)) (h _ _ (Lib.hid (row_head _ _)) (Lib.hid (grownCap_ge w 1 0 3)))
def fr9 (p0 c0 p1 c1 p2 c2 : Nat) : Array Value := #[.int .i64 1, .int .i64 1, .slice (some ⟨p0, 0, none⟩) 1 c0, .int .i64 1, .int .i64 1, .slice (some ⟨p1, 0, none⟩) 1 c1, .int .i64 1, .int .i64 1, .slice (some ⟨p2, 0, none⟩) 1 c2]
/-- Block p, from lo on, is of numbers, and its first one is a. -/
def VB (w : World) (lo p : Nat) (a : Int) : Prop := lo ≤ p ∧ ∃ cur, w.heap[p]? = some (.cells cur 3 (0, 0)) ∧ cur[0]? = some (.int .i64 a)
theorem VB.cell {w : World} {lo p : Nat} {a : Int} (h : VB w lo p a) : w.cell? ⟨p, 0, none⟩ = some (.int .i64 a) := by
  obtain ⟨_, cur, hh, hc⟩ := h
  exact (cell_of_row w p 0 cur 3 (0, 0) hh).trans hc
theorem VB.lt {w : World} {lo p : Nat} {a : Int} (h : VB w lo p a) : p < w.heap.size := by
  obtain ⟨_, cur, hh, hc⟩ := h
  exact (Array.getElem?_eq_some_iff.1 hh).1
/-- A world in which blocks of numbers are as they were. -/
def Nums (w w' : World) : Prop := w.heap.size ≤ w'.heap.size ∧ ∀ (k : Nat) (cur : Array Value), w.heap[k]? = some (Obj.cells cur 3 (0, 0)) → w'.heap[k]? = some (Obj.cells cur 3 (0, 0))
theorem VB.nums {w w' : World} {lo p : Nat} {a : Int} (h : VB w lo p a) (hn : Nums w w') : VB w' lo p a := by
  obtain ⟨hl, cur, hh, hc⟩ := h
  exact ⟨hl, cur, hn.2 p cur hh, hc⟩
theorem VB.low {w : World} {lo lo' p : Nat} {a : Int} (h : VB w lo p a) (hl : lo' ≤ lo) : VB w lo' p a := ⟨Nat.le_trans hl h.1, h.2⟩
theorem Nums.refl (w : World) : Nums w w := ⟨Nat.le_refl _, fun _ _ h => h⟩
theorem Nums.trans {a b c : World} (h : Nums a b) (k : Nums b c) : Nums a c := ⟨Nat.le_trans h.1 k.1, fun i cur hi => k.2 i cur (h.2 i cur hi)⟩
theorem Nums.below {w w' : World} (h : Below w.heap.size w w') : Nums w w' := ⟨h.size, fun k _ hk => (h.block k (Array.getElem?_eq_some_iff.1 hk).1).trans hk⟩
theorem Nums.grown {w w' : World} {r : Option Nat} (h : w.grownBy w' r) (hr : ∀ g, r = some g → ∃ cs t fr, w.heap[g]? = some (Obj.cells cs t fr) ∧ t ≠ 3) : Nums w w' :=
  ⟨h.size, fun k cur hk => (h.block k (Array.getElem?_eq_some_iff.1 hk).1 (fun e => by
    obtain ⟨cs, t, fr, hg, ht⟩ := hr k e.symm
    rw [hk] at hg; injection hg with hg; injection hg with _ ht' _; exact ht ht'.symm)).trans hk⟩
/-- A frame of three planes of one number each. -/
def Fr (w : World) (lo : Nat) (v : Array Value) (a b c : Int) : Prop := ∃ p0 c0 p1 c1 p2 c2, v = fr9 p0 c0 p1 c1 p2 c2 ∧ VB w lo p0 a ∧ VB w lo p1 b ∧ VB w lo p2 c
theorem Fr.nums {w w' : World} {lo : Nat} {v : Array Value} {a b c : Int} (h : Fr w lo v a b c) (hn : Nums w w') : Fr w' lo v a b c := by
  obtain ⟨p0, c0, p1, c1, p2, c2, e, h0, h1, h2⟩ := h
  exact ⟨p0, c0, p1, c1, p2, c2, e, h0.nums hn, h1.nums hn, h2.nums hn⟩
theorem Fr.low {w : World} {lo lo' : Nat} {v : Array Value} {a b c : Int} (h : Fr w lo v a b c) (hl : lo' ≤ lo) : Fr w lo' v a b c := by
  obtain ⟨p0, c0, p1, c1, p2, c2, e, h0, h1, h2⟩ := h
  exact ⟨p0, c0, p1, c1, p2, c2, e, h0.low hl, h1.low hl, h2.low hl⟩
theorem blk_at (w : World) (o : Obj) (k : Nat) (hk : k = w.heap.size) : (w.alloc o).heap[k]? = some o := by subst hk; exact heap_alloc_new w o
theorem blk_old {w : World} {o o' : Obj} {k : Nat} (h : w.heap[k]? = some o') : (w.alloc o).heap[k]? = some o' := (Below.heap_alloc w o k (Array.getElem?_eq_some_iff.1 h).1).trans h
theorem blk_drew {w : World} {o' : Obj} {k : Nat} (h : w.heap[k]? = some o') : w.drew.heap[k]? = some o' := h
set_option maxHeartbeats 1000000 in
set_option maxRecDepth 100000 in
theorem f31_any (v : Array Value) (lo : Nat) (a b c : Int) (w : World) (hf : Fr w lo v a b c) :
    Calls Try.prog 31 #[.agg v] w fun e w' => ∃ v', e = .returned (.agg v') ∧ Fr w' w.heap.size v' a b c ∧ Below w.heap.size w w' := by
  obtain ⟨p0, c0, p1, c1, p2, c2, rfl, h0, h1, h2⟩ := hf
  have h0 := h0.cell
  have h1 := h1.cell
  have h2 := h2.cell
  have i0 : ∀ w, (Instr.index 29 (.agg (fr9 p0 c0 p1 c1 p2 c2)) (.int .i64 0)).run Try.prog w = .ok (.agg #[.int .i64 1, .int .i64 1, .slice (some ⟨p0, 0, none⟩) 1 c0]) w := fun _ => by kernel_rfl
  have i1 : ∀ w, (Instr.index 29 (.agg (fr9 p0 c0 p1 c1 p2 c2)) (.int .i64 1)).run Try.prog w = .ok (.agg #[.int .i64 1, .int .i64 1, .slice (some ⟨p1, 0, none⟩) 1 c1]) w := fun _ => by kernel_rfl
  have i2 : ∀ w, (Instr.index 29 (.agg (fr9 p0 c0 p1 c1 p2 c2)) (.int .i64 2)).run Try.prog w = .ok (.agg #[.int .i64 1, .int .i64 1, .slice (some ⟨p2, 0, none⟩) 1 c2]) w := fun _ => by kernel_rfl
  unfold fr9 at i0 i1 i2 ⊢
  go_enter Try.func31, Try.ntmps31
  go_wp2
  refine wp_loop_rounds 4 ?_
  rw [rounds_succ]
  go_wp2_with (at_builtin; refine wpList_app1 _ rfl _ _ rfl p0 c0 a rfl rfl ?c1 ?_)
  case c1 => exact cell_later (by go_grown) h0
  intro k0 R0 HR0 HK0
  go_wp2
  rw [rounds_succ]
  go_wp2_with (at_builtin; refine wpList_app1 _ rfl _ _ rfl p1 c1 b rfl rfl ?c1 ?_)
  case c1 => exact cell_later (by go_grown) h1
  intro k1 R1 HR1 HK1
  go_wp2
  rw [rounds_succ]
  go_wp2_with (at_builtin; refine wpList_app1 _ rfl _ _ rfl p2 c2 c rfl rfl ?c1 ?_)
  case c1 => exact cell_later (by go_grown) h2
  intro k2 R2 HR2 HK2
  go_wp2
  rw [rounds_succ]
  go_wp2
  refine bodyPost_ret (v := .agg (fr9 _ k0 _ k1 _ k2)) (by simp [results, Try.results31, go_sem, fr9]; exact ⟨rfl, rfl, rfl⟩) rfl ⟨_, rfl, ⟨_, _, _, _, _, _, rfl, ⟨?_, R0, ?_, HR0.out⟩, ⟨?_, R1, ?_, HR1.out⟩, ⟨?_, R2, ?_, HR2.out⟩⟩, by go_grown⟩
  · omega
  · repeat (first | exact blk_at _ _ _ (by simp) | refine blk_drew ?_ | refine blk_old ?_)
  · omega
  · repeat (first | exact blk_at _ _ _ (by simp) | refine blk_drew ?_ | refine blk_old ?_)
  · omega
  · repeat (first | exact blk_at _ _ _ (by simp) | refine blk_drew ?_ | refine blk_old ?_)
end Go.Proofs.Ytpmgobiakgffiaa
