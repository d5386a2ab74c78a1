import Derived.Test.YtpmgobiakgffiaaProg
import Derived.Test.YtpmgobiakgffiaaIns
import Derived.Test.YtpmgobiakgffiaaDel
import Derived.Test.YtpmgobiakgffiaaFr
import Derived.Test.YtpmgobiakgffiaaSame
import Derived.Test.YtpmgobiakgffiaaPut2
import Derived.Test.YtpmgobiakgffiaaTake
import Derived.Deep.LoopGhost
import Derived.Test.YtpmgobiakgffiaaSmall
import Derived.WalkKit
import Derived.Handy
import Derived.Deep.QuietTactic
import Derived.BigQuiet
import Derived.WalkSpells
import Derived.WalkLawsBesides
import Derived.Outline
import Derived.Lib.Hide
import Derived.Deep.DeepFit
import Derived.StillTailTactics
import Derived.Deep.RegionHeld3
import Derived.Deep.RegionWith
namespace Go.Proofs.Ytpmgobiakgffiaa
open Go.RowKit
/-- Nine cells of a frame. -/
structure Nine where
  a0 : Int
  a1 : Int
  A2 : Option Addr
  n2 : Nat
  c2 : Nat
  a3 : Int
  a4 : Int
  A5 : Option Addr
  n5 : Nat
  c5 : Nat
  a6 : Int
  a7 : Int
  A8 : Option Addr
  n8 : Nat
  c8 : Nat
def Nine.arr (r : Nine) : Array Value := #[.int .i64 r.a0, .int .i64 r.a1, .slice r.A2 r.n2 r.c2, .int .i64 r.a3, .int .i64 r.a4, .slice r.A5 r.n5 r.c5, .int .i64 r.a6, .int .i64 r.a7, .slice r.A8 r.n8 r.c8]
def upd {α : Type} (f : Nat → α) (i : Nat) (u : α) (j : Nat) : α := if j = i then u else f j
theorem upd_same {α : Type} (f : Nat → α) (i : Nat) (u : α) : upd f i u i = u := if_pos rfl
theorem upd_ne {α : Type} (f : Nat → α) (i j : Nat) (u : α) (e : j ≠ i) : upd f i u j = f j := if_neg e
/-- The reference's queue at block x: the next number, which are there, their frames. -/
def RB (w : World) (x : Nat) (next : Int) (h : Nat → Bool) (g : Nat → Nine) : Prop :=
  ∃ cur : Array Value, w.heap[x]? = some (.cells cur 46 (0, 0)) ∧ cur.size = 91 ∧ cur[0]? = some (.int .i64 next) ∧ (∀ i, i < 9 → cur[1 + i]? = some (.bool (h i))) ∧ ∀ i, i < 9 → ∀ t, t < 9 → cur[10 + i * 9 + t]? = (g i).arr[t]?
section
variable {w : World} {x : Nat} {next : Int} {h : Nat → Bool} {g : Nat → Nine}
theorem RB.c0 (r : RB w x next h g) : w.cell? ⟨x, 0, none⟩ = some (.int .i64 next) := by
  obtain ⟨cur, hh, _, h0, _⟩ := r
  exact (cell_of_row w x 0 cur 46 (0, 0) hh).trans h0
theorem RB.ch (r : RB w x next h g) (i : Nat) (hi : i < 9) : w.cell? ⟨x, 1 + i, none⟩ = some (.bool (h i)) := by
  obtain ⟨cur, hh, _, _, h1, _⟩ := r
  exact (cell_of_row w x (1 + i) cur 46 (0, 0) hh).trans (h1 i hi)
theorem RB.cg (r : RB w x next h g) (i t : Nat) (hi : i < 9) (ht : t < 9) : w.cell? ⟨x, 10 + i * 9 + t, none⟩ = (g i).arr[t]? := by
  obtain ⟨cur, hh, _, _, _, h2⟩ := r
  exact (cell_of_row w x (10 + i * 9 + t) cur 46 (0, 0) hh).trans (h2 i hi t ht)
theorem RB.fz (r : RB w x next h g) (o : Nat) : w.frozen? ⟨x, o, none⟩ = false := by
  obtain ⟨cur, hh, _⟩ := r
  exact frozen_of_row w x o cur 46 hh
theorem RB.lt (r : RB w x next h g) : x < w.heap.size := by
  obtain ⟨cur, hh, _⟩ := r
  exact (Array.getElem?_eq_some_iff.1 hh).1
theorem RB.same {w' : World} (r : RB w x next h g) (e : w'.heap[x]? = w.heap[x]?) : RB w' x next h g := by
  obtain ⟨cur, hh, r⟩ := r
  exact ⟨cur, e.trans hh, r⟩
theorem RB.below {w' : World} (r : RB w x next h g) (hb : Below w.heap.size w w') : RB w' x next h g := r.same (hb.block x r.lt)
theorem RB.keep {w' : World} (r : RB w x next h g) (hb : Keep w w') : RB w' x next h g := by
  obtain ⟨cur, hh, r⟩ := r
  exact ⟨cur, hb.2 x cur 46 _ hh (by decide) (by decide), r⟩
theorem RB.set0 (r : RB w x next h g) (n : Int) : RB (w.setCell ⟨x, 0, none⟩ (.int .i64 n)) x n h g := by
  obtain ⟨cur, hh, hs, h0, h1, h2⟩ := r
  refine ⟨_, heap_setCell_same w x 0 cur 46 _ hh, by simpa using hs, ?_, fun i hi => ?_, fun i hi t ht => ?_⟩
  · rw [Array.getElem?_setIfInBounds, if_pos rfl, if_pos (by omega)]
  · rw [Array.getElem?_setIfInBounds, if_neg (by omega)]; exact h1 i hi
  · rw [Array.getElem?_setIfInBounds, if_neg (by omega)]; exact h2 i hi t ht
theorem RB.seth (r : RB w x next h g) (i : Nat) (hi : i < 9) (b : Bool) : RB (w.setCell ⟨x, 1 + i, none⟩ (.bool b)) x next (upd h i b) g := by
  obtain ⟨cur, hh, hs, h0, h1, h2⟩ := r
  refine ⟨_, heap_setCell_same w x (1 + i) cur 46 _ hh, by simpa using hs, ?_, fun j hj => ?_, fun j hj t ht => ?_⟩
  · rw [Array.getElem?_setIfInBounds, if_neg (by omega)]; exact h0
  · rw [Array.getElem?_setIfInBounds]
    by_cases e : j = i
    · subst e; rw [if_pos rfl, if_pos (by omega), upd_same]
    · rw [if_neg (by omega), upd_ne _ _ _ _ e]; exact h1 j hj
  · rw [Array.getElem?_setIfInBounds, if_neg (by omega)]; exact h2 j hj t ht
/-- The nine cells of one frame are written. -/
theorem RB.setg (r : RB w x next h g) (i : Nat) (hi : i < 9) (u : Nine) :
    RB (((((((((w.setCell ⟨x, 10 + i * 9, none⟩ (.int .i64 u.a0)).setCell ⟨x, 10 + i * 9 + 1, none⟩ (.int .i64 u.a1)).setCell ⟨x, 10 + i * 9 + 2, none⟩ (.slice u.A2 u.n2 u.c2)).setCell ⟨x, 10 + i * 9 + 3, none⟩ (.int .i64 u.a3)).setCell ⟨x, 10 + i * 9 + 4, none⟩ (.int .i64 u.a4)).setCell ⟨x, 10 + i * 9 + 5, none⟩ (.slice u.A5 u.n5 u.c5)).setCell ⟨x, 10 + i * 9 + 6, none⟩ (.int .i64 u.a6)).setCell ⟨x, 10 + i * 9 + 7, none⟩ (.int .i64 u.a7)).setCell ⟨x, 10 + i * 9 + 8, none⟩ (.slice u.A8 u.n8 u.c8)) x next h (upd g i u) := by
  obtain ⟨cur, hh, hs, h0, h1, h2⟩ := r
  have s0 := heap_setCell_same w x (10 + i * 9) cur 46 (.int .i64 u.a0) hh
  have s1 := heap_setCell_same _ x (10 + i * 9 + 1) _ 46 (.int .i64 u.a1) s0
  have s2 := heap_setCell_same _ x (10 + i * 9 + 2) _ 46 (.slice u.A2 u.n2 u.c2) s1
  have s3 := heap_setCell_same _ x (10 + i * 9 + 3) _ 46 (.int .i64 u.a3) s2
  have s4 := heap_setCell_same _ x (10 + i * 9 + 4) _ 46 (.int .i64 u.a4) s3
  have s5 := heap_setCell_same _ x (10 + i * 9 + 5) _ 46 (.slice u.A5 u.n5 u.c5) s4
  have s6 := heap_setCell_same _ x (10 + i * 9 + 6) _ 46 (.int .i64 u.a6) s5
  have s7 := heap_setCell_same _ x (10 + i * 9 + 7) _ 46 (.int .i64 u.a7) s6
  have s8 := heap_setCell_same _ x (10 + i * 9 + 8) _ 46 (.slice u.A8 u.n8 u.c8) s7
  refine ⟨_, s8, by simp [hs], ?_, fun j hj => ?_, fun j hj t ht => ?_⟩
  · rw [Array.getElem?_setIfInBounds, if_neg (by omega), Array.getElem?_setIfInBounds, if_neg (by omega), Array.getElem?_setIfInBounds, if_neg (by omega), Array.getElem?_setIfInBounds, if_neg (by omega), Array.getElem?_setIfInBounds, if_neg (by omega), Array.getElem?_setIfInBounds, if_neg (by omega), Array.getElem?_setIfInBounds, if_neg (by omega), Array.getElem?_setIfInBounds, if_neg (by omega), Array.getElem?_setIfInBounds, if_neg (by omega)]
    exact h0
  · rw [Array.getElem?_setIfInBounds, if_neg (by omega), Array.getElem?_setIfInBounds, if_neg (by omega), Array.getElem?_setIfInBounds, if_neg (by omega), Array.getElem?_setIfInBounds, if_neg (by omega), Array.getElem?_setIfInBounds, if_neg (by omega), Array.getElem?_setIfInBounds, if_neg (by omega), Array.getElem?_setIfInBounds, if_neg (by omega), Array.getElem?_setIfInBounds, if_neg (by omega), Array.getElem?_setIfInBounds, if_neg (by omega)]
    exact h1 j hj
  · by_cases e : j = i
    · subst e
      rw [upd_same]
      have ht9 : t = 0 ∨ t = 1 ∨ t = 2 ∨ t = 3 ∨ t = 4 ∨ t = 5 ∨ t = 6 ∨ t = 7 ∨ t = 8 := by omega
      rcases ht9 with rfl | rfl | rfl | rfl | rfl | rfl | rfl | rfl | rfl <;> simp [Array.getElem?_setIfInBounds, Nine.arr, hs] <;> omega
    · rw [upd_ne _ _ _ _ e]
      have h3 := h2 j hj t ht
      rw [Array.getElem?_setIfInBounds, if_neg (by omega), Array.getElem?_setIfInBounds, if_neg (by omega), Array.getElem?_setIfInBounds, if_neg (by omega), Array.getElem?_setIfInBounds, if_neg (by omega), Array.getElem?_setIfInBounds, if_neg (by omega), Array.getElem?_setIfInBounds, if_neg (by omega), Array.getElem?_setIfInBounds, if_neg (by omega), Array.getElem?_setIfInBounds, if_neg (by omega), Array.getElem?_setIfInBounds, if_neg (by omega)]
      exact h3
end
def nine (p0 c0 p1 c1 p2 c2 : Nat) : Nine := ⟨1, 1, some ⟨p0, 0, none⟩, 1, c0, 1, 1, some ⟨p1, 0, none⟩, 1, c1, 1, 1, some ⟨p2, 0, none⟩, 1, c2⟩
theorem nine_arr (p0 c0 p1 c1 p2 c2 : Nat) : (nine p0 c0 p1 c1 p2 c2).arr = fr9 p0 c0 p1 c1 p2 c2 := rfl
/-- All blocks but the reference's queue are as they were. -/
def KeepR (w w' : World) : Prop := w.heap.size ≤ w'.heap.size ∧ ∀ (k : Nat) (cur : Array Value) (t : TypeId) (fr : Nat × Nat), w.heap[k]? = some (.cells cur t fr) → t ≠ 46 → w'.heap[k]? = some (.cells cur t fr)
theorem KeepR.nums {w w' : World} (h : KeepR w w') : Nums w w' := ⟨h.1, fun k cur hk => h.2 k cur 3 _ hk (by decide)⟩
theorem KeepR.refl (w : World) : KeepR w w := ⟨Nat.le_refl _, fun _ _ _ _ h _ => h⟩
theorem KeepR.trans {a b c : World} (h : KeepR a b) (k : KeepR b c) : KeepR a c := ⟨Nat.le_trans h.1 k.1, fun i cur t fr hi h1 => k.2 i cur t fr (h.2 i cur t fr hi h1) h1⟩
theorem KeepR.below {w w' : World} (h : Below w.heap.size w w') : KeepR w w' := ⟨h.size, fun k _ _ _ hk _ => (h.block k (Array.getElem?_eq_some_iff.1 hk).1).trans hk⟩
theorem KeepR.set {w : World} {x : Nat} {next : Int} {h : Nat → Bool} {g : Nat → Nine} (r : RB w x next h g) (i : Nat) (u : Value) : KeepR w (w.setCell ⟨x, i, none⟩ u) :=
  ⟨by simp [World.setCell], fun k cur t fr hk h1 => by
    obtain ⟨cs, hx, _⟩ := r
    have hne : k ≠ x := fun e => by
      subst e
      rw [hk] at hx; injection hx with hx; injection hx with _ ht' _
      exact h1 ht'
    exact (Below.heap_setCell w ⟨x, i, none⟩ u k hne).trans hk⟩
theorem QS.keepR {w w' : World} {B q : Nat} {next : Int} {ms : List M} (h : QS w B q next ms) (hk : KeepR w w') : QS w' B q next ms := by
  obtain ⟨v, xs, hh, hr, ha⟩ := h.out
  refine ⟨⟨v, xs, hk.2 q _ 73 _ hh (by decide), ⟨hr.1, ?_⟩, ha.imp (fun _ _ k => k.nums hk.nums)⟩, h.base, h.good⟩
  rcases hr.2 with h0 | ⟨g, cap, cur, e, hb, hg, r⟩
  · exact .inl h0
  · exact .inr ⟨g, cap, cur, e, hb, hk.2 g cur 78 _ hg (by decide), r⟩
/-- The nine cells of one frame are written: what stays. -/
theorem KeepR.setg {w : World} {x : Nat} {next : Int} {h : Nat → Bool} {g : Nat → Nine} (r : RB w x next h g) (o0 o1 o2 o3 o4 o5 o6 o7 o8 : Nat) (u0 u1 u2 u3 u4 u5 u6 u7 u8 : Value) : KeepR w (((((((((w.setCell ⟨x, o0, none⟩ u0).setCell ⟨x, o1, none⟩ u1).setCell ⟨x, o2, none⟩ u2).setCell ⟨x, o3, none⟩ u3).setCell ⟨x, o4, none⟩ u4).setCell ⟨x, o5, none⟩ u5).setCell ⟨x, o6, none⟩ u6).setCell ⟨x, o7, none⟩ u7).setCell ⟨x, o8, none⟩ u8) := by
  have n : ∀ (w : World) (o : Nat) (u : Value) (k : Nat), k ≠ x → (w.setCell ⟨x, o, none⟩ u).heap[k]? = w.heap[k]? := fun w o u k hk => Below.heap_setCell w ⟨x, o, none⟩ u k hk
  refine ⟨by simp [World.setCell], fun k cur t fr hk h1 => ?_⟩
  obtain ⟨cs, hx, _⟩ := r
  have hne : k ≠ x := fun e => by
    subst e
    rw [hk] at hx; injection hx with hx; injection hx with _ ht' _
    exact h1 ht'
  rw [n _ _ _ _ hne, n _ _ _ _ hne, n _ _ _ _ hne, n _ _ _ _ hne, n _ _ _ _ hne, n _ _ _ _ hne, n _ _ _ _ hne, n _ _ _ _ hne, n _ _ _ _ hne]
  exact hk
set_option maxHeartbeats 4000000 in
set_option maxRecDepth 100000 in
theorem f16_back (x : Nat) (next n : Int) (h : Nat → Bool) (g : Nat → Nine) (f : Nine) (w : World) (HR : Hid (RB w x next h g)) (h1 : n < next) :
    Calls Try.prog 16 #[.pointer (some ⟨x, 0, none⟩), .int .i64 n, .agg f.arr] w fun e w' => e = .returned (.int .i64 251) ∧ Below w.heap.size w w' := by
  have hx := HR.out.lt
  have k0 := HR.out.c0
  unfold Nine.arr
  go_enter Try.func16, Try.ntmps16
  go_wp2
  go_ret
  exact ⟨rfl, (Below.refl _ _).alloc (Nat.le_refl _) _⟩
set_option maxHeartbeats 4000000 in
set_option maxRecDepth 100000 in
theorem f16_far (x : Nat) (next n : Int) (h : Nat → Bool) (g : Nat → Nine) (f : Nine) (w : World) (HR : Hid (RB w x next h g)) (h0 : 0 ≤ next ∧ next ≤ 1000000) (h1 : next + 8 < n) :
    Calls Try.prog 16 #[.pointer (some ⟨x, 0, none⟩), .int .i64 n, .agg f.arr] w fun e w' => e = .returned (.int .i64 260) ∧ Below w.heap.size w w' := by
  have hx := HR.out.lt
  have k0 := HR.out.c0
  have h2 : ¬ (n < next) := by omega
  unfold Nine.arr
  go_enter Try.func16, Try.ntmps16
  go_wp2
  go_ret
  exact ⟨rfl, (Below.refl _ _).alloc (Nat.le_refl _) _⟩
set_option maxHeartbeats 4000000 in
set_option maxRecDepth 100000 in
theorem f16_twice (x i : Nat) (next : Int) (h : Nat → Bool) (g : Nat → Nine) (f : Nine) (w : World) (HR : Hid (RB w x next h g)) (h0 : 0 ≤ next ∧ next ≤ 1000000) (hi : i < 9) (hh : h i = true) :
    Calls Try.prog 16 #[.pointer (some ⟨x, 0, none⟩), .int .i64 (next + i), .agg f.arr] w fun e w' => e = .returned (.int .i64 251) ∧ Below w.heap.size w w' := by
  have hx := HR.out.lt
  have k0 := HR.out.c0
  have k1 := HR.out.ch i hi
  rw [hh] at k1
  have h2 : ¬ (next + i < next) := by omega
  have h3 : ¬ (next + 8 < next + i) := by omega
  have h4 : next + (i : Int) - next = i := by omega
  have h5 : ((i : Int)).toNat = i := by omega
  unfold Nine.arr
  go_enter Try.func16, Try.ntmps16
  go_wp2
  go_ret
  exact ⟨rfl, (Below.refl _ _).alloc (Nat.le_refl _) _⟩
set_option maxHeartbeats 4000000 in
set_option maxRecDepth 100000 in
theorem f16_ok (B x i p0 c0 p1 c1 p2 c2 : Nat) (next : Int) (h : Nat → Bool) (g : Nat → Nine) (w : World) (HR : Hid (RB w x next h g)) (h0 : 0 ≤ next ∧ next ≤ 1000000) (hi : i < 9) (hh : h i = false) :
    Calls Try.prog 16 #[.pointer (some ⟨x, 0, none⟩), .int .i64 (next + i), .agg (fr9 p0 c0 p1 c1 p2 c2)] w fun e w' => e = .returned (.int .i64 0) ∧ RB w' x next (upd h i true) (upd g i (nine p0 c0 p1 c1 p2 c2)) ∧ KeepR w w' ∧ (B ≤ x → B ≤ w.heap.size → Below B w w') := by
  have hx := HR.out.lt
  have k0 := HR.out.c0
  have k1 := HR.out.ch i hi
  rw [hh] at k1
  have z1 := HR.out.fz (1 + i)
  have z2 := HR.out.fz (10 + i * 9)
  have h2 : ¬ (next + i < next) := by omega
  have h3 : ¬ (next + 8 < next + i) := by omega
  have h4 : next + (i : Int) - next = i := by omega
  unfold fr9
  go_enter Try.func16, Try.ntmps16
  go_wp2
  have RS : RB (w.setCell ⟨x, 1 + i, none⟩ (.bool true)) x next (upd h i true) g := HR.out.seth i hi true
  have KS : KeepR w (w.setCell ⟨x, 1 + i, none⟩ (.bool true)) := KeepR.set HR.out _ _
  have hsz : (w.setCell ⟨x, 1 + i, none⟩ (.bool true)).heap.size = w.heap.size := by simp
  obtain ⟨wA, hwA⟩ : ∃ wA, wA = (w.setCell ⟨x, 1 + i, none⟩ (.bool true)).alloc (.cells (fr9 p0 c0 p1 c1 p2 c2) 31) := ⟨_, rfl⟩
  have RA : RB wA x next (upd h i true) g := by rw [hwA]; exact RS.below ((Below.refl _ _).alloc (Nat.le_refl _) _)
  have KA : Hid (KeepR w wA) := by rw [hwA]; exact Lib.hid (KS.trans (KeepR.below ((Below.refl _ _).alloc (Nat.le_refl _) _)))
  have HBA : Hid (B ≤ x → B ≤ w.heap.size → Below B w wA) := by rw [hwA]; exact Lib.hid (fun h1 h2 => ((Below.refl B w).setCell (by exact h1) _).alloc (by rw [hsz]; exact h2) _)
  have hbx : wA.heap[w.heap.size]? = some (.cells (fr9 p0 c0 p1 c1 p2 c2) 31 (0, 0)) := by rw [hwA]; exact blk_at _ _ _ hsz.symm
  unfold fr9 at hwA
  rw [← hwA]
  clear hwA hsz KS RS
  obtain ⟨bx, hbe⟩ : ∃ bx, bx = w.heap.size := ⟨_, rfl⟩
  rw [← hbe] at hbx hx
  rw [← hbe]
  clear hbe k0 k1 z1 z2
  have b0 : wA.cell? ⟨bx, 0, none⟩ = some (.int .i64 1) := (cell_of_row wA bx 0 _ 31 (0, 0) hbx).trans rfl
  have b1 : wA.cell? ⟨bx, 1, none⟩ = some (.int .i64 1) := (cell_of_row wA bx 1 _ 31 (0, 0) hbx).trans rfl
  have b2 : wA.cell? ⟨bx, 2, none⟩ = some (.slice (some ⟨p0, 0, none⟩) 1 c0) := (cell_of_row wA bx 2 _ 31 (0, 0) hbx).trans rfl
  have b3 : wA.cell? ⟨bx, 3, none⟩ = some (.int .i64 1) := (cell_of_row wA bx 3 _ 31 (0, 0) hbx).trans rfl
  have b4 : wA.cell? ⟨bx, 4, none⟩ = some (.int .i64 1) := (cell_of_row wA bx 4 _ 31 (0, 0) hbx).trans rfl
  have b5 : wA.cell? ⟨bx, 5, none⟩ = some (.slice (some ⟨p1, 0, none⟩) 1 c1) := (cell_of_row wA bx 5 _ 31 (0, 0) hbx).trans rfl
  have b6 : wA.cell? ⟨bx, 6, none⟩ = some (.int .i64 1) := (cell_of_row wA bx 6 _ 31 (0, 0) hbx).trans rfl
  have b7 : wA.cell? ⟨bx, 7, none⟩ = some (.int .i64 1) := (cell_of_row wA bx 7 _ 31 (0, 0) hbx).trans rfl
  have b8 : wA.cell? ⟨bx, 8, none⟩ = some (.slice (some ⟨p2, 0, none⟩) 1 c2) := (cell_of_row wA bx 8 _ 31 (0, 0) hbx).trans rfl
  have e0 : wA.cell? ⟨x, 10 + i * 9, none⟩ = some (.int .i64 (g i).a0) := RA.cg i 0 hi (by omega)
  have f0 : wA.frozen? ⟨x, 10 + i * 9, none⟩ = false := RA.fz _
  have e1 : wA.cell? ⟨x, 10 + i * 9 + 1, none⟩ = some (.int .i64 (g i).a1) := RA.cg i 1 hi (by omega)
  have f1 : wA.frozen? ⟨x, 10 + i * 9 + 1, none⟩ = false := RA.fz _
  have e2 : wA.cell? ⟨x, 10 + i * 9 + 2, none⟩ = some (.slice (g i).A2 (g i).n2 (g i).c2) := RA.cg i 2 hi (by omega)
  have f2 : wA.frozen? ⟨x, 10 + i * 9 + 2, none⟩ = false := RA.fz _
  have e3 : wA.cell? ⟨x, 10 + i * 9 + 3, none⟩ = some (.int .i64 (g i).a3) := RA.cg i 3 hi (by omega)
  have f3 : wA.frozen? ⟨x, 10 + i * 9 + 3, none⟩ = false := RA.fz _
  have e4 : wA.cell? ⟨x, 10 + i * 9 + 4, none⟩ = some (.int .i64 (g i).a4) := RA.cg i 4 hi (by omega)
  have f4 : wA.frozen? ⟨x, 10 + i * 9 + 4, none⟩ = false := RA.fz _
  have e5 : wA.cell? ⟨x, 10 + i * 9 + 5, none⟩ = some (.slice (g i).A5 (g i).n5 (g i).c5) := RA.cg i 5 hi (by omega)
  have f5 : wA.frozen? ⟨x, 10 + i * 9 + 5, none⟩ = false := RA.fz _
  have e6 : wA.cell? ⟨x, 10 + i * 9 + 6, none⟩ = some (.int .i64 (g i).a6) := RA.cg i 6 hi (by omega)
  have f6 : wA.frozen? ⟨x, 10 + i * 9 + 6, none⟩ = false := RA.fz _
  have e7 : wA.cell? ⟨x, 10 + i * 9 + 7, none⟩ = some (.int .i64 (g i).a7) := RA.cg i 7 hi (by omega)
  have f7 : wA.frozen? ⟨x, 10 + i * 9 + 7, none⟩ = false := RA.fz _
  have e8 : wA.cell? ⟨x, 10 + i * 9 + 8, none⟩ = some (.slice (g i).A8 (g i).n8 (g i).c8) := RA.cg i 8 hi (by omega)
  have f8 : wA.frozen? ⟨x, 10 + i * 9 + 8, none⟩ = false := RA.fz _
  have HRA := Lib.hid RA
  clear RA hbx
  go_region
  go_wp2
  go_ret
  exact ⟨rfl, (HRA.out.setg i hi (nine p0 c0 p1 c1 p2 c2)).below ((Below.refl _ _).drew), KA.out.trans ((KeepR.setg HRA.out _ _ _ _ _ _ _ _ _ _ _ _ _ _ _ _ _ _).trans (KeepR.below (Below.refl _ _).drew)), fun h1 h2 => (((((((((((HBA.out h1 h2).setCell (by exact h1) _).setCell (by exact h1) _).setCell (by exact h1) _).setCell (by exact h1) _).setCell (by exact h1) _).setCell (by exact h1) _).setCell (by exact h1) _).setCell (by exact h1) _).setCell (by exact h1) _).drew)⟩
end Go.Proofs.Ytpmgobiakgffiaa
