import Derived.Test.YtpmgobiakgffiaaProg
import Derived.Test.YtpmgobiakgffiaaIns
import Derived.Test.YtpmgobiakgffiaaDel
import Derived.Test.YtpmgobiakgffiaaFr
import Derived.Test.YtpmgobiakgffiaaSame
import Derived.Test.YtpmgobiakgffiaaPlace
import Derived.Test.YtpmgobiakgffiaaSmall
import Derived.WalkKit
import Derived.Handy
import Derived.Deep.QuietTactic
import Derived.BigQuiet
import Derived.WalkSpells
import Derived.WalkLawsBesides
import Derived.Outline
import Derived.Lib.Hide
import Derived.Deep.DeepFit
import Derived.StillTailTactics
import Derived.Deep.RegionHeld3
import Derived.Deep.RegionWith
namespace Go.Proofs.Ytpmgobiakgffiaa
open Go.RowKit
/-- Two lists, element by element. -/
def All2 {α β : Type} (R : α → β → Prop) : List α → List β → Prop
  | [], [] => True
  | x :: xs, y :: ys => R x y ∧ All2 R xs ys
  | _, _ => False
section
variable {α β : Type} {R S : α → β → Prop}
theorem All2.length : ∀ {xs : List α} {ys : List β}, All2 R xs ys → xs.length = ys.length
  | [], [], _ => rfl
  | _ :: _, _ :: _, h => by rw [List.length_cons, List.length_cons, All2.length h.2]
theorem All2.imp (h : ∀ x y, R x y → S x y) : ∀ {xs : List α} {ys : List β}, All2 R xs ys → All2 S xs ys
  | [], [], _ => trivial
  | _ :: _, _ :: _, k => ⟨h _ _ k.1, All2.imp h k.2⟩
theorem All2.take (n : Nat) : ∀ {xs : List α} {ys : List β}, All2 R xs ys → All2 R (xs.take n) (ys.take n) := by
  induction n with
  | zero => intro xs ys _; simp [All2]
  | succ n ih => intro xs ys h; match xs, ys, h with
    | [], [], _ => simp [All2]
    | x :: xs, y :: ys, h => exact ⟨h.1, ih h.2⟩
theorem All2.drop (n : Nat) : ∀ {xs : List α} {ys : List β}, All2 R xs ys → All2 R (xs.drop n) (ys.drop n) := by
  induction n with
  | zero => intro xs ys h; simpa using h
  | succ n ih => intro xs ys h; match xs, ys, h with
    | [], [], _ => simp [All2]
    | x :: xs, y :: ys, h => exact ih h.2
theorem All2.append : ∀ {xs : List α} {ys : List β} {xs' : List α} {ys' : List β}, All2 R xs ys → All2 R xs' ys' → All2 R (xs ++ xs') (ys ++ ys')
  | [], [], _, _, _, k => k
  | _ :: _, _ :: _, _, _, h, k => ⟨h.1, All2.append h.2 k⟩
end
/-- A number and what its frame's three planes hold. -/
structure M where
  n : Int
  a : Int
  b : Int
  c : Int
def It.arr (x : It) : Array Value := #[x.a.1, x.a.2.1, x.a.2.2.1, x.a.2.2.2.1, x.a.2.2.2.2.1, x.a.2.2.2.2.2.1, x.a.2.2.2.2.2.2.1, x.a.2.2.2.2.2.2.2.1, x.a.2.2.2.2.2.2.2.2]
def Is (w : World) (x : It) (m : M) : Prop := x.n = m.n ∧ Fr w 0 x.arr m.a m.b m.c
theorem Is.nums {w w' : World} {x : It} {m : M} (h : Is w x m) (hn : Nums w w') : Is w' x m := ⟨h.1, h.2.nums hn⟩
def nthM (ms : List M) (i : Nat) : M := ms.getD i ⟨0, 0, 0, 0⟩
theorem All2.nth {w : World} : ∀ {xs : List It} {ms : List M}, All2 (Is w) xs ms → ∀ i, i < xs.length → (nth xs i).n = (nthM ms i).n
  | [], [], _, i, hi => by simp at hi
  | x :: xs, m :: ms, h, i, hi => by
    cases i with
    | zero => exact h.1.1
    | succ i =>
      have := All2.nth h.2 i (by simpa using hi)
      simpa [Ytpmgobiakgffiaa.nth, nthM] using this
/-- The numbers that wait, in the model: rising, from 'next' on, at most eight ahead. -/
def Good (next : Int) (ms : List M) : Prop := 0 ≤ next ∧ next ≤ 9223372036854775807 ∧ (∀ i, i < ms.length → next ≤ (nthM ms i).n ∧ (nthM ms i).n ≤ next + 8 ∧ (nthM ms i).n ≤ 9223372036854775807) ∧ ∀ i j, i < j → j < ms.length → (nthM ms i).n < (nthM ms j).n
/-- The queue at block q. -/
structure QS (w : World) (B q : Nat) (next : Int) (ms : List M) : Prop where
  out : ∃ v xs, w.heap[q]? = some (.cells #[.int .i64 next, v] 73 (0, 0)) ∧ Rw w B v xs ∧ All2 (Is w) xs ms
  base : B ≤ q
  good : Good next ms
/-- All blocks but those of a queue are as they were. -/
def Keep (w w' : World) : Prop := w.heap.size ≤ w'.heap.size ∧ ∀ (k : Nat) (cur : Array Value) (t : TypeId) (fr : Nat × Nat), w.heap[k]? = some (.cells cur t fr) → t ≠ 73 → t ≠ 78 → w'.heap[k]? = some (.cells cur t fr)
theorem Keep.nums {w w' : World} (h : Keep w w') : Nums w w' := ⟨h.1, fun k cur hk => h.2 k cur 3 _ hk (by decide) (by decide)⟩
theorem Keep.refl (w : World) : Keep w w := ⟨Nat.le_refl _, fun _ _ _ _ h _ _ => h⟩
theorem Keep.trans {a b c : World} (h : Keep a b) (k : Keep b c) : Keep a c := ⟨Nat.le_trans h.1 k.1, fun i cur t fr hi h1 h2 => k.2 i cur t fr (h.2 i cur t fr hi h1 h2) h1 h2⟩
theorem Keep.below {w w' : World} (h : Below w.heap.size w w') : Keep w w' := ⟨h.size, fun k _ _ _ hk _ _ => (h.block k (Array.getElem?_eq_some_iff.1 hk).1).trans hk⟩
theorem Keep.grown {w w' : World} {r : Option Nat} (h : w.grownBy w' r) (hr : ∀ g, r = some g → ∃ cs t fr, w.heap[g]? = some (Obj.cells cs t fr) ∧ (t = 73 ∨ t = 78)) : Keep w w' :=
  ⟨h.size, fun k cur t fr hk h1 h2 => (h.block k (Array.getElem?_eq_some_iff.1 hk).1 (fun e => by
    obtain ⟨cs, t', fr', hg, ht⟩ := hr k e.symm
    rw [hk] at hg; injection hg with hg; injection hg with _ ht' _
    rcases ht with rfl | rfl
    · exact h1 ht'
    · exact h2 ht')).trans hk⟩
theorem Keep.set {w : World} {q : Nat} {cs : Array Value} {t : TypeId} (hq : w.heap[q]? = some (.cells cs t (0, 0))) (ht : t = 73 ∨ t = 78) (i : Nat) (u : Value) : Keep w (w.setCell ⟨q, i, none⟩ u) :=
  ⟨by simp [World.setCell], fun k cur t' fr hk h1 h2 => by
    have hne : k ≠ q := fun e => by
      subst e
      rw [hk] at hq; injection hq with hq; injection hq with _ ht' _
      rcases ht with rfl | rfl
      · exact h1 ht'
      · exact h2 ht'
    exact (Below.heap_setCell w ⟨q, i, none⟩ u k hne).trans hk⟩
theorem good_len : ∀ {next : Int} {ms : List M}, Good next ms → ms.length ≤ 9 := by
  intro next ms h
  obtain ⟨h0, h1, h2, h3⟩ := h
  by_cases hl : ms.length ≤ 9
  · exact hl
  · have key : ∀ i : Nat, i < ms.length → next + (i : Int) ≤ (nthM ms i).n := by
      intro i
      induction i with
      | zero => intro hi; have := (h2 0 hi).1; omega
      | succ i ih => intro hi; have := ih (by omega); have := h3 i (i + 1) (by omega) hi; omega
    have := key 9 (by omega)
    have := (h2 9 (by omega)).2.1
    omega
theorem QS.rising {w : World} {next : Int} {ms : List M} {xs : List It} (h : All2 (Is w) xs ms) (hg : Good next ms) : Rising xs := by
  have hl := h.length
  obtain ⟨h0, h1, h2, h3⟩ := hg
  refine ⟨fun i hi => ?_, fun i j hij hj => ?_⟩
  · rw [h.nth i hi]; have := h2 i (by omega); omega
  · rw [h.nth i (by omega), h.nth j hj]; exact h3 i j hij (by omega)
theorem QS.ones {w : World} : ∀ {xs : List It} {ms : List M}, All2 (Is w) xs ms → ∀ u ∈ flat xs, u.oneCell' = true
  | [], [], _, u, hu => by simp [flat] at hu
  | x :: xs, m :: ms, h, u, hu => by
    rw [flat_cons] at hu
    rcases List.mem_append.1 hu with hu | hu
    · obtain ⟨p0, c0, p1, c1, p2, c2, e, _⟩ := h.1.2
      simp only [It.arr, fr9, Array.mk.injEq, List.cons.injEq, and_true] at e
      obtain ⟨e1, e2, e3, e4, e5, e6, e7, e8, e9⟩ := e
      simp only [It.cells, e1, e2, e3, e4, e5, e6, e7, e8, e9, List.mem_cons, List.not_mem_nil, or_false] at hu
      rcases hu with rfl | rfl | rfl | rfl | rfl | rfl | rfl | rfl | rfl | rfl <;> rfl
    · exact QS.ones h.2 u hu
end Go.Proofs.Ytpmgobiakgffiaa
