import Derived.Test.YtpmgobiakgffiaaProg
import Derived.Test.YtpmgobiakgffiaaIns
import Derived.Test.YtpmgobiakgffiaaDel
import Derived.Test.YtpmgobiakgffiaaFr
import Derived.Test.YtpmgobiakgffiaaSame
import Derived.Test.YtpmgobiakgffiaaQ
import Derived.Test.YtpmgobiakgffiaaSmall
import Derived.WalkKit
import Derived.Handy
import Derived.Deep.QuietTactic
import Derived.BigQuiet
import Derived.WalkSpells
import Derived.WalkLawsBesides
import Derived.Outline
import Derived.Lib.Hide
import Derived.Deep.DeepFit
import Derived.StillTailTactics
import Derived.Deep.RegionHeld3
import Derived.Deep.RegionWith
namespace Go.Proofs.Ytpmgobiakgffiaa
open Go.RowKit
theorem own_far {w w2 : World} {B : Nat} {v : Value} {xs : List It} (h : Hid (Rw w B v xs)) (hb : Hid (Below w.heap.size w w2)) : v.ownBlock ≠ some w2.heap.size := fun e => by
  have := (World.ownsRow.lt h.out _ e).2
  have := hb.out.size
  omega
theorem own_ge {w : World} {B : Nat} {v : Value} {xs : List It} (h : Hid (Rw w B v xs)) : some w.heap.size ≠ v.ownBlock := fun e => by
  have := (World.ownsRow.lt h.out _ e.symm).2
  omega
theorem own_ne73 {w : World} {B q : Nat} {v : Value} {cs : Array Value} {xs : List It} (h : Hid (Rw w B v xs)) (hq : Hid (w.heap[q]? = some (.cells cs 73 (0, 0)))) : some q ≠ v.ownBlock := fun e => by
  rcases h.out.2 with ⟨rfl, _⟩ | ⟨g, cap, cur, rfl, _, hg, _⟩
  · simp [Value.ownBlock] at e
  · simp only [Value.ownBlock, Option.some.injEq] at e
    subst e
    have := hq.out
    rw [hg] at this
    injection this with this
    injection this with _ ht _
    exact absurd ht (by decide)
theorem own_78 {w : World} {B : Nat} {v : Value} {xs : List It} (h : Rw w B v xs) : ∀ g, v.ownBlock = some g → ∃ cs t fr, w.heap[g]? = some (Obj.cells cs t fr) ∧ (t = 73 ∨ t = 78) := fun g e => by
  rcases h.2 with ⟨rfl, _⟩ | ⟨g', cap, cur, rfl, _, hg, _⟩
  · simp [Value.ownBlock] at e
  · simp only [Value.ownBlock, Option.some.injEq] at e
    subst e
    exact ⟨cur, 78, (0, 0), hg, .inr rfl⟩
theorem ones_cons {w w2 : World} {lo p0 c0 p1 c1 p2 c2 : Nat} {n a b c : Int} {xs : List It} {ms : List M} (h : All2 (Is w) xs ms) (_hf : Fr w2 lo (fr9 p0 c0 p1 c1 p2 c2) a b c) :
    ∀ u ∈ flat (⟨n, .int .i64 1, .int .i64 1, .slice (some ⟨p0, 0, none⟩) 1 c0, .int .i64 1, .int .i64 1, .slice (some ⟨p1, 0, none⟩) 1 c1, .int .i64 1, .int .i64 1, .slice (some ⟨p2, 0, none⟩) 1 c2⟩ :: xs), u.oneCell' = true := by
  intro u hu
  rw [flat_cons] at hu
  rcases List.mem_append.1 hu with hu | hu
  · simp only [It.cells, List.mem_cons, List.not_mem_nil, or_false] at hu
    rcases hu with rfl | rfl | rfl | rfl | rfl | rfl | rfl | rfl | rfl | rfl <;> rfl
  · exact QS.ones h u hu
theorem nthM_ins (ms : List M) (m : M) (r : Nat) (hr : r ≤ ms.length) (i : Nat) : nthM (ms.take r ++ m :: ms.drop r) i = if i < r then nthM ms i else if i = r then m else nthM ms (i - 1) := by
  have ht : (ms.take r).length = r := by simp; omega
  simp only [nthM, List.getD_eq_getElem?_getD]
  by_cases h1 : i < r
  · rw [if_pos h1, List.getElem?_append_left (by omega), List.getElem?_take, if_pos h1]
  · rw [if_neg h1, List.getElem?_append_right (by omega), ht]
    by_cases h2 : i = r
    · subst h2; simp
    · rw [if_neg h2, show i - r = (i - r - 1) + 1 by omega, List.getElem?_cons_succ, List.getElem?_drop, show r + (i - r - 1) = i - 1 by omega]
theorem good_ins {next n a b c : Int} {ms : List M} (h : Good next ms) (r : Nat) (hr : r ≤ ms.length) (h1 : next ≤ n) (h2 : n ≤ next + 8) (h3 : n ≤ 9223372036854775807)
    (hlo : ∀ i, i < r → (nthM ms i).n < n) (hhi : ∀ i, r ≤ i → i < ms.length → n < (nthM ms i).n) : Good next (ms.take r ++ ⟨n, a, b, c⟩ :: ms.drop r) := by
  obtain ⟨g0, g1, g2, g3⟩ := h
  have hlen : (ms.take r ++ (⟨n, a, b, c⟩ : M) :: ms.drop r).length = ms.length + 1 := by simp; omega
  refine ⟨g0, g1, fun i hi => ?_, fun i j hij hj => ?_⟩
  · rw [nthM_ins ms _ r hr i]
    rw [hlen] at hi
    by_cases c1 : i < r
    · rw [if_pos c1]; exact g2 i (by omega)
    · rw [if_neg c1]
      by_cases c2 : i = r
      · rw [if_pos c2]; exact ⟨h1, h2, h3⟩
      · rw [if_neg c2]; exact g2 (i - 1) (by omega)
  · rw [hlen] at hj
    rw [nthM_ins ms _ r hr i, nthM_ins ms _ r hr j]
    by_cases c1 : i < r
    · rw [if_pos c1]
      by_cases d1 : j < r
      · rw [if_pos d1]; exact g3 i j hij (by omega)
      · rw [if_neg d1]
        by_cases d2 : j = r
        · rw [if_pos d2]; exact hlo i c1
        · rw [if_neg d2]
          have := hlo i c1
          have := hhi (j - 1) (by omega) (by omega)
          omega
    · rw [if_neg c1, if_neg (by omega : ¬ j < r), if_neg (by omega : ¬ j = r)]
      by_cases c2 : i = r
      · rw [if_pos c2]; exact hhi (j - 1) (by omega) (by omega)
      · rw [if_neg c2]; exact g3 (i - 1) (j - 1) (by omega) (by omega)
/-- What Put leaves. -/
def PutPost (B q : Nat) (next n a b c : Int) (ms : List M) (w : World) (e : Ending) (w' : World) : Prop :=
  Keep w w' ∧ Below B w w' ∧ (((∃ i, i < ms.length ∧ (nthM ms i).n = n) ∧ e = .returned (.int .i64 251) ∧ QS w' B q next ms) ∨
    (∃ r, r ≤ ms.length ∧ (∀ i, i < r → (nthM ms i).n < n) ∧ (∀ i, r ≤ i → i < ms.length → n < (nthM ms i).n) ∧ e = .returned (.int .i64 0) ∧ QS w' B q next (ms.take r ++ ⟨n, a, b, c⟩ :: ms.drop r)))
theorem QS.keep {w w' : World} {B q : Nat} {next : Int} {ms : List M} (h : QS w B q next ms) (hb : Below w.heap.size w w') : QS w' B q next ms := by
  obtain ⟨v, xs, hh, hr, ha⟩ := h.out
  exact ⟨⟨v, xs, (hb.block q (Array.getElem?_eq_some_iff.1 hh).1).trans hh, hr.below hb, ha.imp (fun _ _ k => k.nums (Nums.below hb))⟩, h.base, h.good⟩
theorem found_none {xs : List It} {n : Int} {r : Nat} (hf : Found xs n r false) (hx : Rising xs) : (∀ i, i < r → (nth xs i).n < n) ∧ (∀ i, r ≤ i → i < xs.length → n < (nth xs i).n) := by
  obtain ⟨h0, h1, h2, h3⟩ := hf
  refine ⟨fun i hi => h1 i hi (by omega), fun i hi hl => ?_⟩
  have h4 : ¬ (r < xs.length ∧ (nth xs r).n = n) := by simpa using h3
  have h5 := h2 r (Nat.le_refl _) (by omega)
  have h6 := hx.le hi hl
  have : (nth xs r).n ≠ n := fun e => h4 ⟨by omega, e⟩
  omega
/-- An item's frame has its numbers at block p. -/
def Uses (x : It) (p : Nat) : Prop := ∃ p0 c0 p1 c1 p2 c2, x.arr = fr9 p0 c0 p1 c1 p2 c2 ∧ (p = p0 ∨ p = p1 ∨ p = p2)
/-- The queue at block q, its items named. -/
structure QSx (w : World) (B q : Nat) (next : Int) (ms : List M) (xs : List It) : Prop where
  out : ∃ v, w.heap[q]? = some (.cells #[.int .i64 next, v] 73 (0, 0)) ∧ Rw w B v xs ∧ All2 (Is w) xs ms
  base : B ≤ q
  good : Good next ms
theorem QSx.qs {w : World} {B q : Nat} {next : Int} {ms : List M} {xs : List It} (h : QSx w B q next ms xs) : QS w B q next ms := by
  obtain ⟨⟨v, h1, h2, h3⟩, hb, hg⟩ := h
  exact ⟨⟨v, xs, h1, h2, h3⟩, hb, hg⟩
theorem QS.x {w : World} {B q : Nat} {next : Int} {ms : List M} (h : QS w B q next ms) : ∃ xs, QSx w B q next ms xs := by
  obtain ⟨⟨v, xs, h1, h2, h3⟩, hb, hg⟩ := h
  exact ⟨xs, ⟨v, h1, h2, h3⟩, hb, hg⟩
/-- What Put leaves, its items named. -/
def PutPostX (B q : Nat) (next n a b c : Int) (ms : List M) (xs : List It) (w : World) (e : Ending) (w' : World) : Prop :=
  Keep w w' ∧ Below B w w' ∧ (((∃ i, i < ms.length ∧ (nthM ms i).n = n) ∧ e = .returned (.int .i64 251) ∧ QSx w' B q next ms xs) ∨
    (∃ r, r ≤ ms.length ∧ (∀ i, i < r → (nthM ms i).n < n) ∧ (∀ i, r ≤ i → i < ms.length → n < (nthM ms i).n) ∧ e = .returned (.int .i64 0) ∧ ∃ xs', QSx w' B q next (ms.take r ++ ⟨n, a, b, c⟩ :: ms.drop r) xs' ∧
      ∀ p, (∃ x, x ∈ xs' ∧ Uses x p) → (∃ x, x ∈ xs ∧ Uses x p) ∨ w.heap.size ≤ p))
theorem PutPostX.put {B q : Nat} {next n a b c : Int} {ms : List M} {xs : List It} {w w' : World} {e : Ending} (h : PutPostX B q next n a b c ms xs w e w') : PutPost B q next n a b c ms w e w' := by
  obtain ⟨hk, hb, ⟨h1, h2, h3⟩ | ⟨r, h1, h2, h3, h4, xs', h5, _⟩⟩ := h
  · exact ⟨hk, hb, .inl ⟨h1, h2, h3.qs⟩⟩
  · exact ⟨hk, hb, .inr ⟨r, h1, h2, h3, h4, h5.qs⟩⟩
/-- A number of a frame that the queue does not use is written. -/
theorem QSx.poke {w : World} {B q p : Nat} {next : Int} {ms : List M} {xs : List It} (h : QSx w B q next ms xs) {cur : Array Value} (hp : w.heap[p]? = some (.cells cur 3 (0, 0))) (hu : ∀ x, x ∈ xs → ¬ Uses x p) (i : Nat) (u : Value) : QSx (w.setCell ⟨p, i, none⟩ u) B q next ms xs := by
  obtain ⟨⟨v, h1, h2, h3⟩, hb, hg⟩ := h
  have hn : ∀ k, k ≠ p → (w.setCell ⟨p, i, none⟩ u).heap[k]? = w.heap[k]? := fun k hk => Below.heap_setCell w ⟨p, i, none⟩ u k hk
  refine ⟨⟨v, ?_, ?_, ?_⟩, hb, hg⟩
  · rw [hn q (fun e => by subst e; rw [hp] at h1; injection h1 with h1; injection h1 with _ ht _; exact absurd ht (by decide))]; exact h1
  · refine World.ownsRow.kept (row := some p) h2 ⟨rfl, rfl, rfl, by simp [World.setCell], fun k _ hk => hn k (fun e => hk (by rw [e]))⟩ (.inr (fun e => ?_))
    rcases h2.2 with ⟨rfl, _⟩ | ⟨g, cap, cur', rfl, _, hg', _⟩
    · simp [Value.ownBlock] at e
    · simp only [Value.ownBlock, Option.some.injEq] at e
      subst e
      rw [hp] at hg'; injection hg' with hg'; injection hg' with _ ht _; exact absurd ht (by decide)
  · have key : ∀ {xs : List It} {ms : List M}, All2 (Is w) xs ms → (∀ x, x ∈ xs → ¬ Uses x p) → All2 (Is (w.setCell ⟨p, i, none⟩ u)) xs ms := by
      intro xs
      induction xs with
      | nil => intro ms h _; cases ms with
        | nil => trivial
        | cons m ms => exact h
      | cons x xs ih => intro ms h hx; cases ms with
        | nil => exact h
        | cons m ms =>
          refine ⟨⟨h.1.1, ?_⟩, ih h.2 (fun y hy => hx y (List.mem_cons_of_mem _ hy))⟩
          obtain ⟨p0, c0, p1, c1, p2, c2, e, v0, v1, v2⟩ := h.1.2
          have hne := hx x List.mem_cons_self
          have vb : ∀ k t, k ≠ p → VB w 0 k t → VB (w.setCell ⟨p, i, none⟩ u) 0 k t := fun k t hk ⟨hl, cur, hc, h0⟩ => ⟨hl, cur, (hn k hk).trans hc, h0⟩
          exact ⟨p0, c0, p1, c1, p2, c2, e, vb p0 _ (fun e' => hne ⟨p0, c0, p1, c1, p2, c2, e, .inl e'.symm⟩) v0, vb p1 _ (fun e' => hne ⟨p0, c0, p1, c1, p2, c2, e, .inr (.inl e'.symm)⟩) v1, vb p2 _ (fun e' => hne ⟨p0, c0, p1, c1, p2, c2, e, .inr (.inr e'.symm)⟩) v2⟩
    exact key h3 hu
/-- What the queue uses lies in memory. -/
theorem QSx.lt {w : World} {B q : Nat} {next : Int} {ms : List M} {xs : List It} (h : QSx w B q next ms xs) : ∀ p, (∃ x, x ∈ xs ∧ Uses x p) → p < w.heap.size := by
  obtain ⟨⟨v, h1, h2, h3⟩, hb, hg⟩ := h
  have key : ∀ {xs : List It} {ms : List M}, All2 (Is w) xs ms → ∀ p, (∃ x, x ∈ xs ∧ Uses x p) → p < w.heap.size := by
    intro xs
    induction xs with
    | nil => rintro ms _ p ⟨x, hx, _⟩; simp at hx
    | cons x xs ih => rintro ms h p ⟨y, hy, hu⟩; cases ms with
      | nil => exact h.elim
      | cons m ms =>
        rcases List.mem_cons.1 hy with rfl | hy
        · obtain ⟨p0, c0, p1, c1, p2, c2, e, v0, v1, v2⟩ := h.1.2
          obtain ⟨s0, d0, s1, d1, s2, d2, e', hp⟩ := hu
          rw [e] at e'
          simp only [fr9, Array.mk.injEq, List.cons.injEq, Value.slice.injEq, Option.some.injEq, Addr.mk.injEq, and_true, true_and] at e'
          have := v0.lt
          have := v1.lt
          have := v2.lt
          omega
        · exact ih h.2 p ⟨y, hy, hu⟩
  exact key h3
theorem QSx.keep {w w' : World} {B q : Nat} {next : Int} {ms : List M} {xs : List It} (h : QSx w B q next ms xs) (hb : Below w.heap.size w w') : QSx w' B q next ms xs := by
  obtain ⟨⟨v, hh, hr, ha⟩, h2, h3⟩ := h
  exact ⟨⟨v, (hb.block q (Array.getElem?_eq_some_iff.1 hh).1).trans hh, hr.below hb, ha.imp (fun _ _ k => k.nums (Nums.below hb))⟩, h2, h3⟩
theorem put_donex {B q lo p0 c0 p1 c1 p2 c2 r gr cr : Nat} {next n a b c : Int} {ms : List M} {xs : List It} {v : Value} {w w2 w3 : World} (hB : B ≤ w.heap.size) (hq : Hid (QS w B q next ms))
    (HH : Hid (w.heap[q]? = some (.cells #[.int .i64 next, v] 73 (0, 0)))) (HRW : Hid (Rw w B v xs)) (HALL : Hid (All2 (Is w) xs ms)) (HF : Hid (Found xs n r false))
    (h1 : next ≤ n) (h2 : n ≤ next + 8) (h3 : n ≤ 9223372036854775807) (HBW : Hid (Below w.heap.size w w2)) (hlo : w.heap.size ≤ lo) (HF2 : Hid (Fr w2 lo (fr9 p0 c0 p1 c1 p2 c2) a b c))
    (HG3 : Hid ((w2.alloc (.cells #[.int .i64 n, .int .i64 1, .int .i64 1, .slice (some ⟨p0, 0, none⟩) 1 c0, .int .i64 1, .int .i64 1, .slice (some ⟨p1, 0, none⟩) 1 c1, .int .i64 1, .int .i64 1, .slice (some ⟨p2, 0, none⟩) 1 c2] 78)).grownBy w3 v.ownBlock))
    (HRW3 : Hid (Rw w3 B (.slice (some ⟨gr, 0, none⟩) (xs.length + 1) cr) (xs.take r ++ ⟨n, .int .i64 1, .int .i64 1, .slice (some ⟨p0, 0, none⟩) 1 c0, .int .i64 1, .int .i64 1, .slice (some ⟨p1, 0, none⟩) 1 c1, .int .i64 1, .int .i64 1, .slice (some ⟨p2, 0, none⟩) 1 c2⟩ :: xs.drop r))) :
    PutPostX B q next n a b c ms xs w (.returned (.int .i64 0)) (w3.setCell ⟨q, 1, none⟩ (.slice (some ⟨gr, 0, none⟩) (xs.length + 1) cr)) := by
  have hbw := HBW.out
  have hqw : q < w.heap.size := (Array.getElem?_eq_some_iff.1 HH.out).1
  have hq2 : w2.heap[q]? = some (.cells #[.int .i64 next, v] 73 (0, 0)) := (hbw.block q hqw).trans HH.out
  obtain ⟨WA, hWA⟩ : ∃ WA, WA = w2.alloc (.cells #[.int .i64 n, .int .i64 1, .int .i64 1, .slice (some ⟨p0, 0, none⟩) 1 c0, .int .i64 1, .int .i64 1, .slice (some ⟨p1, 0, none⟩) 1 c1, .int .i64 1, .int .i64 1, .slice (some ⟨p2, 0, none⟩) 1 c2] 78) := ⟨_, rfl⟩
  have hg3 := HG3.out
  rw [← hWA] at hg3
  have hba : Below w.heap.size w WA := by rw [hWA]; exact hbw.alloc hbw.size _
  have hqa : WA.heap[q]? = some (.cells #[.int .i64 next, v] 73 (0, 0)) := (hba.block q hqw).trans HH.out
  have hne := own_ne73 HRW HH
  have hq3 : w3.heap[q]? = some (.cells #[.int .i64 next, v] 73 (0, 0)) := (hg3.block q (Array.getElem?_eq_some_iff.1 hqa).1 hne).trans hqa
  have hk1 : Keep w WA := Keep.below hba
  have hk2 : Keep WA w3 := Keep.grown hg3 (own_78 (HRW.out.below hba))
  have hk3 : Keep w3 (w3.setCell ⟨q, 1, none⟩ (.slice (some ⟨gr, 0, none⟩) (xs.length + 1) cr)) := Keep.set hq3 (.inl rfl) _ _
  have hkf := hk1.trans (hk2.trans hk3)
  have hf2 : Fr WA 0 (fr9 p0 c0 p1 c1 p2 c2) a b c := (HF2.out.nums (by rw [hWA]; exact Nums.below ((Below.refl _ _).alloc (Nat.le_refl _) _))).low (Nat.zero_le _)
  have hlen := HALL.out.length
  have hx := QS.rising HALL.out hq.out.good
  obtain ⟨f1, f2⟩ := found_none HF.out hx
  have hrl := HF.out.1
  refine ⟨hkf, ?_, .inr ⟨r, by omega, fun i hi => ?_, fun i hi hl => ?_, rfl, xs.take r ++ ⟨n, .int .i64 1, .int .i64 1, .slice (some ⟨p0, 0, none⟩) 1 c0, .int .i64 1, .int .i64 1, .slice (some ⟨p1, 0, none⟩) 1 c1, .int .i64 1, .int .i64 1, .slice (some ⟨p2, 0, none⟩) 1 c2⟩ :: xs.drop r, ⟨⟨.slice (some ⟨gr, 0, none⟩) (xs.length + 1) cr, ?_, ?_, ?_⟩, hq.out.base, ?_⟩, ?_⟩⟩
  · have hb1 : Below B w WA := hba.mono hB
    have hb3 : Below B w w3 := hb1.grown hg3 (by have := hba.size; omega) (fun k hk => ((World.ownsRow.lt HRW.out) k hk).1)
    exact hb3.setCell (hq.out.base) _
  · rw [← HALL.out.nth i (by omega)]; exact f1 i hi
  · rw [← HALL.out.nth i (by omega)]; exact f2 i hi (by omega)
  · exact (heap_setCell_same w3 q 1 _ 73 _ hq3).trans rfl
  · refine World.ownsRow.kept (row := some q) HRW3.out ⟨rfl, rfl, rfl, by simp [World.setCell], fun k _ hk => Below.heap_setCell w3 ⟨q, 1, none⟩ _ k (fun e => hk (by rw [e]))⟩ (.inr ?_)
    have := own_ne73 HRW3 (Lib.hid hq3)
    exact fun e => this e.symm
  · have ha : All2 (Is (w3.setCell ⟨q, 1, none⟩ (.slice (some ⟨gr, 0, none⟩) (xs.length + 1) cr))) xs ms := HALL.out.imp (fun _ _ k => k.nums hkf.nums)
    exact (ha.take r).append ⟨⟨rfl, hf2.nums (hk2.trans hk3).nums⟩, ha.drop r⟩
  · exact good_ins hq.out.good r (by omega) h1 h2 h3 (fun i hi => by rw [← HALL.out.nth i (by omega)]; exact f1 i hi) (fun i hi hl => by rw [← HALL.out.nth i (by omega)]; exact f2 i hi (by omega))
  · intro p ⟨x, hx', hu⟩
    rw [List.mem_append, List.mem_cons] at hx'
    rcases hx' with h | rfl | h
    · exact .inl ⟨x, List.mem_of_mem_take h, hu⟩
    · refine .inr ?_
      obtain ⟨s0, d0, s1, d1, s2, d2, e, hp⟩ := hu
      obtain ⟨t0, e0, t1, e1, t2, e2, ef, v0, v1, v2⟩ := HF2.out
      simp only [It.arr, fr9, Array.mk.injEq, List.cons.injEq, Value.slice.injEq, Option.some.injEq, Addr.mk.injEq, and_true, true_and] at e
      simp only [fr9, Array.mk.injEq, List.cons.injEq, Value.slice.injEq, Option.some.injEq, Addr.mk.injEq, and_true, true_and] at ef
      have h0 := v0.1
      have h1' := v1.1
      have h2' := v2.1
      omega
    · exact .inl ⟨x, List.mem_of_mem_drop h, hu⟩
theorem put_twicex {B q r : Nat} {next n a b c : Int} {ms : List M} {xs : List It} {w w1 : World} (hq : Hid (QSx w B q next ms xs)) (HALL : Hid (All2 (Is w) xs ms)) (HF : Hid (Found xs n r true)) (hB : B ≤ w.heap.size) (hb : Below w.heap.size w w1) :
    PutPostX B q next n a b c ms xs w (.returned (.int .i64 251)) w1 := by
  refine ⟨Keep.below hb, hb.mono hB, .inl ⟨?_, rfl, hq.out.keep hb⟩⟩
  obtain ⟨_, _, _, h3⟩ := HF.out
  have h4 : r < xs.length ∧ (nth xs r).n = n := by simpa using h3.symm
  exact ⟨r, by rw [← HALL.out.length]; exact h4.1, by rw [← HALL.out.nth r h4.1]; exact h4.2⟩
end Go.Proofs.Ytpmgobiakgffiaa
