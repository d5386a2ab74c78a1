import Derived.Test.YtpmgobiakgffiaaProg
import Derived.Test.YtpmgobiakgffiaaIns
import Derived.Test.YtpmgobiakgffiaaDel
import Derived.Test.YtpmgobiakgffiaaFr
import Derived.Test.YtpmgobiakgffiaaSame
import Derived.Test.YtpmgobiakgffiaaPut
import Derived.Test.YtpmgobiakgffiaaPut2
import Derived.Test.YtpmgobiakgffiaaTake
import Derived.Deep.LoopGhost
import Derived.Test.YtpmgobiakgffiaaSmall
import Derived.WalkKit
import Derived.Handy
import Derived.Deep.QuietTactic
import Derived.BigQuiet
import Derived.WalkSpells
import Derived.WalkLawsBesides
import Derived.Outline
import Derived.Lib.Hide
import Derived.Deep.DeepFit
import Derived.StillTailTactics
import Derived.Deep.RegionHeld3
import Derived.Deep.RegionWith
namespace Go.Proofs.Ytpmgobiakgffiaa
open Go.RowKit
theorem f12_nil (w : World) : Calls Try.prog 12 #[.pointer none] w fun e w' => e = .returned (.slice none 0 0) ∧ w' = w := by
  go_enter Try.func12, Try.ntmps12
  go_wp2
  go_ret
  exact ⟨rfl, rfl⟩
theorem rows_length {w : World} : ∀ {fs : List (Array Value)} {ms : List M}, All2 (fun f m => Fr w 0 f m.a m.b m.c) fs ms → (rows fs).length = fs.length * 9
  | [], [], _ => rfl
  | f :: fs, m :: ms, h => by
    obtain ⟨p0, c0, p1, c1, p2, c2, e, _⟩ := h.1
    have := rows_length h.2
    simp only [rows, List.flatMap_cons, List.length_append, e, fr9, List.length_cons, List.length_nil] at this ⊢
    omega
theorem rows_get {w : World} : ∀ {fs : List (Array Value)} {ms : List M}, All2 (fun f m => Fr w 0 f m.a m.b m.c) fs ms → ∀ i, i < ms.length →
    ∃ p0 c0 p1 c1 p2 c2, Fr w 0 (fr9 p0 c0 p1 c1 p2 c2) (nthM ms i).a (nthM ms i).b (nthM ms i).c ∧ ∀ j, j < 9 → (rows fs)[i * 9 + j]? = (fr9 p0 c0 p1 c1 p2 c2)[j]?
  | [], [], _, i, hi => by simp at hi
  | f :: fs, m :: ms, h, i, hi => by
    obtain ⟨p0, c0, p1, c1, p2, c2, e, hr⟩ := h.1
    cases i with
    | zero =>
      refine ⟨p0, c0, p1, c1, p2, c2, ⟨p0, c0, p1, c1, p2, c2, rfl, hr⟩, fun j hj => ?_⟩
      rw [rows, List.flatMap_cons, e, List.getElem?_append_left (by simp [fr9]; omega)]
      simp
    | succ i =>
      obtain ⟨q0, d0, q1, d1, q2, d2, hf, hg⟩ := rows_get h.2 i (by simpa using hi)
      refine ⟨q0, d0, q1, d1, q2, d2, hf, fun j hj => ?_⟩
      rw [← hg j hj, rows, List.flatMap_cons, e, List.getElem?_append_right (by simp [fr9]; omega)]
      congr 1
      simp [fr9]
      omega
theorem Frs.form {w : World} {W : Nat} {v : Value} {ms : List M} (h : Frs w W v ms) : ∃ A c, v = .slice A ms.length c := by
  obtain ⟨fs, ho, ha⟩ := h
  rw [← ha.length]
  rcases ho.2 with ⟨rfl, h0⟩ | ⟨g, cap, cur, rfl, _⟩
  · exact ⟨none, 0, by rw [h0]⟩
  · exact ⟨_, _, rfl⟩
/-- A frame that stands in a slice. -/
theorem Frs.item {w : World} {W : Nat} {v : Value} {ms : List M} (h : Frs w W v ms) (h0 : 0 < ms.length) : ∃ g c, v = .slice (some ⟨g, 0, none⟩) ms.length c ∧ W ≤ g ∧ (∃ cs, w.heap[g]? = some (.cells cs 31 (0, 0))) ∧ ∀ i, i < ms.length →
    ∃ p0 c0 p1 c1 p2 c2, Fr w 0 (fr9 p0 c0 p1 c1 p2 c2) (nthM ms i).a (nthM ms i).b (nthM ms i).c ∧ ∀ j, j < 9 → w.cell? ⟨g, i * 9 + j, none⟩ = (fr9 p0 c0 p1 c1 p2 c2)[j]? := by
  obtain ⟨fs, ho, ha⟩ := h
  have hl := ha.length
  rcases ho.2 with ⟨_, h1⟩ | ⟨g, cap, cur, rfl, hb, hg, hn, hm, hs, ht⟩
  · omega
  · refine ⟨g, cap, by rw [hl], hb, ⟨cur, hg⟩, fun i hi => ?_⟩
    obtain ⟨p0, c0, p1, c1, p2, c2, hf, hj⟩ := rows_get ha i hi
    refine ⟨p0, c0, p1, c1, p2, c2, hf, fun j hj9 => ?_⟩
    rw [← hj j hj9, ← ht]
    refine (cell_of_row w g (i * 9 + j) cur 31 (0, 0) hg).trans ?_
    rw [List.getElem?_take, if_pos (by omega), Array.getElem?_toList]
theorem QS.new (w : World) (B : Nat) (hB : B ≤ w.heap.size) : QS (w.alloc (.cells #[.int .i64 0, .slice none 0 0] 73)) B w.heap.size 0 [] :=
  ⟨⟨.slice none 0 0, [], heap_alloc_new w _, World.ownsRow_nil _ _ _ _, trivial⟩, hB, by omega, by omega, fun i hi => by simp at hi, fun i j _ hj => by simp at hj⟩
theorem QS.cell0 {w : World} {B q : Nat} {next : Int} {ms : List M} (h : QS w B q next ms) : w.cell? ⟨q, 0, none⟩ = some (.int .i64 next) := by
  obtain ⟨v, xs, hh, _⟩ := h.out
  exact (cell_of_row w q 0 _ 73 (0, 0) hh).trans rfl
theorem QS.cell1 {w : World} {B q : Nat} {next : Int} {ms : List M} (h : QS w B q next ms) : ∃ A c, w.cell? ⟨q, 1, none⟩ = some (.slice A ms.length c) := by
  obtain ⟨v, xs, hh, hr, ha⟩ := h.out
  rw [← ha.length]
  rcases hr.form with ⟨rfl, rfl⟩ | ⟨g, c, rfl, _⟩
  · exact ⟨none, 0, (cell_of_row w q 1 _ 73 (0, 0) hh).trans rfl⟩
  · exact ⟨_, c, (cell_of_row w q 1 _ 73 (0, 0) hh).trans rfl⟩
/-- The contracts as callers use them. -/
theorem new_call (B : Nat) (w : World) (hB : B ≤ w.heap.size) : Calls Try.prog 9 #[] w fun e w' => ∃ q, e = .returned (.pointer (some ⟨q, 0, none⟩)) ∧ Hid (QS w' B q 0 []) ∧ Hid (Keep w w') ∧ Hid (Below B w w') := by
  refine (f9_any w).mono ?_
  rintro e w' ⟨rfl, rfl⟩
  exact ⟨w.heap.size, rfl, QS.new w B hB, Keep.below ((Below.refl _ _).alloc (Nat.le_refl _) _), ((Below.refl _ _).alloc hB _)⟩
theorem one_call (B : Nat) (n : Int) (w : World) (hB : B ≤ w.heap.size) (hn : 0 ≤ n ∧ n ≤ 1000000) : Calls Try.prog 10 #[.int .i64 n] w fun e w' => ∃ p0 c0 p1 c1 p2 c2, e = .returned (.agg (fr9 p0 c0 p1 c1 p2 c2)) ∧ Hid (Fr w' w.heap.size (fr9 p0 c0 p1 c1 p2 c2) n (n + 1) (n + 2)) ∧ Hid (Keep w w') ∧ Hid (Below B w w') ∧ Hid (Below w.heap.size w w') := by
  refine (f10_any n w).mono ?_
  rintro e w' ⟨v, rfl, hf, hb⟩
  rw [show wrap64 n = n by unfold wrap64; omega, show wrap64 (n + 1) = n + 1 by unfold wrap64; omega, show wrap64 (n + 2) = n + 2 by unfold wrap64; omega] at hf
  obtain ⟨p0, c0, p1, c1, p2, c2, rfl, h⟩ := hf
  exact ⟨p0, c0, p1, c1, p2, c2, rfl, ⟨p0, c0, p1, c1, p2, c2, rfl, h⟩, Keep.below hb, hb.mono hB, hb⟩
theorem same_call (B : Nat) (v u : Array Value) (lo lo' : Nat) (a b c a' b' c' : Int) (w : World) (hB : B ≤ w.heap.size) (hv : Hid (Fr w lo v a b c)) (hu : Hid (Fr w lo' u a' b' c')) (bo : Bool) (hbo : (a == a' && b == b' && c == c') = bo) :
    Calls Try.prog 13 #[.agg v, .agg u] w fun e w' => e = .returned (.bool bo) ∧ Hid (Keep w w') ∧ Hid (Below B w w') ∧ Hid (Below w.heap.size w w') := by
  refine (f13_any v u lo lo' a b c a' b' c' w hv.out hu.out).mono ?_
  rintro e w' ⟨rfl, hb⟩
  exact ⟨by rw [hbo], Keep.below hb, hb.mono hB, hb⟩
/-- Put of a number that isn't there. -/
theorem put_call (B q lo : Nat) (next n a b c : Int) (ms : List M) (f : Array Value) (w : World) (hB : B ≤ w.heap.size) (hq : Hid (QS w B q next ms)) (hf : Hid (Fr w lo f a b c))
    (h1 : next ≤ n) (h2 : n ≤ next + 8) (h3 : n ≤ 9223372036854775807) (r : Nat) (hr : r ≤ ms.length) (hlo : ∀ i, i < r → (nthM ms i).n < n) (hhi : ∀ i, r ≤ i → i < ms.length → n < (nthM ms i).n) :
    Calls Try.prog 11 #[.pointer (some ⟨q, 0, none⟩), .int .i64 n, .agg f] w fun e w' => e = .returned (.int .i64 0) ∧ Hid (QS w' B q next (ms.take r ++ ⟨n, a, b, c⟩ :: ms.drop r)) ∧ Hid (Keep w w') ∧ Hid (Below B w w') := by
  refine (f11_ok B q lo next n a b c ms f w hB hq hf h1 h2 h3).mono ?_
  rintro e w' ⟨hk, hb, h | ⟨r', hr', hlo', hhi', rfl, hqs⟩⟩
  · obtain ⟨⟨i, hi, hn⟩, _⟩ := h
    by_cases hir : i < r
    · have := hlo i hir; omega
    · have := hhi i (by omega) hi; omega
  · have : r' = r := by
      rcases Nat.lt_trichotomy r' r with hlt | rfl | hgt
      · have a1 := hlo r' hlt; have a2 := hhi' r' (Nat.le_refl _) (by omega); omega
      · rfl
      · have a1 := hlo' r hgt; have a2 := hhi r (Nat.le_refl _) (by omega); omega
    subst this
    exact ⟨rfl, hqs, hk, hb⟩
theorem put_callx (xs : List It) (B q lo : Nat) (next n a b c : Int) (ms : List M) (f : Array Value) (w : World) (hB : B ≤ w.heap.size) (hq : Hid (QSx w B q next ms xs)) (hf : Hid (Fr w lo f a b c))
    (h1 : next ≤ n) (h2 : n ≤ next + 8) (h3 : n ≤ 9223372036854775807) (hno : Hid (∀ m, m ∈ ms → m.n ≠ n)) :
    Calls Try.prog 11 #[.pointer (some ⟨q, 0, none⟩), .int .i64 n, .agg f] w fun e w' => e = .returned (.int .i64 0) ∧ ∃ r xs', Hid (QSx w' B q next (ms.take r ++ ⟨n, a, b, c⟩ :: ms.drop r) xs') ∧
      Hid (∀ p, (∃ x, x ∈ xs' ∧ Uses x p) → (∃ x, x ∈ xs ∧ Uses x p) ∨ w.heap.size ≤ p) ∧ Hid (Keep w w') ∧ Hid (Below B w w') := by
  refine (f11_okx xs B q lo next n a b c ms f w hB hq hf h1 h2 h3).mono ?_
  rintro e w' ⟨hk, hb, h | ⟨r, hr', hlo', hhi', rfl, xs', hqs, hu⟩⟩
  · obtain ⟨⟨i, hi, hn⟩, _⟩ := h
    exact absurd hn (hno.out _ (by simp [nthM, hi]))
  · exact ⟨rfl, r, xs', hqs, hu, hk, hb⟩
theorem take_call (B q : Nat) (next : Int) (ms done rest : List M) (w : World) (hB : B ≤ w.heap.size) (hq : Hid (QS w B q next ms)) (hnx : next ≤ 1000000) (hms : ms = done ++ rest) (hrun : Run next done) (hne : ∀ m r, rest = m :: r → m.n ≠ next + done.length) :
    Calls Try.prog 12 #[.pointer (some ⟨q, 0, none⟩)] w fun e w' => ∃ A c, e = .returned (.slice A done.length c) ∧ Hid (Frs w' w.heap.size (.slice A done.length c) done) ∧ Hid (QS w' B q (next + done.length) rest) ∧ Hid (Keep w w') ∧ Hid (Below B w w') := by
  refine (f12_any B q next ms w hB hq hnx).mono ?_
  rintro e w' ⟨done', rest', v, hms', hrun', hne', rfl, hfr, hqs, hk, hb⟩
  obtain ⟨hd, hre⟩ : done' = done ∧ rest' = rest := by
    have key : ∀ (n : Int) (d d' r r' : List M), Run n d → Run n d' → d ++ r = d' ++ r' → (∀ m t, r = m :: t → m.n ≠ n + d.length) → (∀ m t, r' = m :: t → m.n ≠ n + d'.length) → d = d' ∧ r = r' := by
      intro n d
      induction d generalizing n with
      | nil =>
        intro d' r r' h h' e hn hn'
        cases d' with
        | nil => exact ⟨rfl, by simpa using e⟩
        | cons m d' =>
          have := h' 0 (by simp)
          exact absurd (by simpa [nthM] using this) (hn m (d' ++ r') (by simpa using e))
      | cons m d ih =>
        intro d' r r' h h' e hn hn'
        cases d' with
        | nil =>
          have := h 0 (by simp)
          exact absurd (by simpa [nthM] using this) (hn' m (d ++ r) (by simpa using e.symm))
        | cons m' d' =>
          rw [List.cons_append, List.cons_append, List.cons.injEq] at e
          obtain ⟨rfl, e⟩ := e
          have tl : ∀ l : List M, Run n (m :: l) → Run (n + 1) l := fun l hl i hi => by
            have := hl (i + 1) (by simpa using hi)
            have e1 : nthM (m :: l) (i + 1) = nthM l i := rfl
            rw [e1] at this; rw [this]; omega
          obtain ⟨e1, e2⟩ := ih (n + 1) d' r r' (tl d h) (tl d' h') e (fun x t ht => by have := hn x t ht; rw [List.length_cons] at this; intro hc; apply this; rw [hc]; omega) (fun x t ht => by have := hn' x t ht; rw [List.length_cons] at this; intro hc; apply this; rw [hc]; omega)
          exact ⟨by rw [e1], e2⟩
    exact key next done' done rest' rest hrun' hrun (hms'.trans hms) hne' hne
  subst hd; subst hre
  obtain ⟨A, c, rfl⟩ := hfr.form
  exact ⟨A, c, rfl, hfr, hqs, hk, hb⟩
theorem end_call (B q : Nat) (next : Int) (ms : List M) (w : World) (hq : Hid (QS w B q next ms)) (r : Int) (hr : (if ms.length = 0 then 0 else 260) = r) : Calls Try.prog 14 #[.pointer (some ⟨q, 0, none⟩)] w fun e w' => e = .returned (.int .i64 r) ∧ w = w' := by
  obtain ⟨A, c, h⟩ := hq.out.cell1
  refine (f14_any q A ms.length c w h).mono ?_
  rintro e w' ⟨rfl, rfl⟩
  exact ⟨by rw [hr], rfl⟩
theorem next_call (B q : Nat) (next : Int) (ms : List M) (w : World) (hq : Hid (QS w B q next ms)) : Calls Try.prog 15 #[.pointer (some ⟨q, 0, none⟩)] w fun e w' => e = .returned (.int .i64 next) ∧ w = w' := by
  refine (f15_any q next w hq.out.cell0).mono ?_
  rintro e w' ⟨rfl, rfl⟩
  exact ⟨rfl, rfl⟩
end Go.Proofs.Ytpmgobiakgffiaa
