import Derived.Test.YtpmgobiakgffiaaProg
import Derived.Test.YtpmgobiakgffiaaIns
import Derived.Test.YtpmgobiakgffiaaDel
import Derived.Test.YtpmgobiakgffiaaFr
import Derived.Test.YtpmgobiakgffiaaSame
import Derived.Test.YtpmgobiakgffiaaFirst
import Derived.Test.YtpmgobiakgffiaaPut2
import Derived.Test.YtpmgobiakgffiaaTake
import Derived.Deep.LoopGhost
import Derived.Test.YtpmgobiakgffiaaSmall
import Derived.WalkKit
import Derived.Handy
import Derived.Deep.QuietTactic
import Derived.BigQuiet
import Derived.WalkSpells
import Derived.WalkLawsBesides
import Derived.Outline
import Derived.Lib.Hide
import Derived.Deep.DeepFit
import Derived.StillTailTactics
import Derived.Deep.RegionHeld3
import Derived.Deep.RegionWith
namespace Go.Proofs.Ytpmgobiakgffiaa
open Go.RowKit
def lrow (L : List Nat) : Array Value := (L.map fun (v : Nat) => Value.int .i64 (v : Int)).toArray
def nthL (L : List Nat) (i : Nat) : Nat := L.getD i 0
theorem lrow_get (L : List Nat) (i : Nat) (h : i < L.length) : (lrow L)[i]? = some (.int .i64 (nthL L i)) := by
  simp [lrow, nthL, h]
theorem lrow_set (L : List Nat) (i v : Nat) : (lrow L).setIfInBounds i (.int .i64 (v : Int)) = lrow (L.set i v) := by
  simp [lrow, List.map_set]
theorem lrow_made (k : Nat) : madeCells #[.int .i64 0] k = lrow (List.replicate k 0) := by
  apply Array.ext'
  rw [toList_madeCells_one]
  simp [lrow]
def filled (k i : Nat) : List Nat := List.range i ++ List.replicate (k - i) 0
theorem filled_length (k i : Nat) (h : i ≤ k) : (filled k i).length = k := by simp [filled]; omega
theorem filled_set (k i : Nat) (h : i < k) : (filled k i).set i i = filled k (i + 1) := by
  have e : List.replicate (k - i) 0 = 0 :: List.replicate (k - (i + 1)) 0 := by rw [show k - i = (k - (i + 1)) + 1 by omega, List.replicate_succ]
  unfold filled
  rw [e, List.set_append_right _ _ (by simp), List.length_range, Nat.sub_self, List.set_cons_zero, List.range_succ, List.append_assoc]
  rfl
/-- A list of the numbers below k, each in its own four. -/
structure Perm4 (k : Nat) (L : List Nat) : Prop where
  len : L.length = k
  blk : ∀ p, p < k → nthL L p < k ∧ nthL L p / 4 = p / 4
  inj : ∀ p q, p < k → q < k → nthL L p = nthL L q → p = q
  sur : ∀ v, v < k → ∃ p, p < k ∧ nthL L p = v
theorem nthL_set (L : List Nat) (i v j : Nat) (hi : i < L.length) : nthL (L.set i v) j = if j = i then v else nthL L j := by
  simp only [nthL, List.getD_eq_getElem?_getD, List.getElem?_set]
  by_cases h : i = j
  · subst h; simp [hi]
  · rw [if_neg h, if_neg (fun e => h e.symm)]
theorem nthL_range (k p : Nat) (h : p < k) : nthL (List.range k) p = p := by simp [nthL, h]
theorem Perm4.range (k : Nat) : Perm4 k (List.range k) :=
  ⟨List.length_range, fun p hp => by rw [nthL_range k p hp]; exact ⟨hp, rfl⟩, fun p q hp hq e => by rwa [nthL_range k p hp, nthL_range k q hq] at e, fun v hv => ⟨v, hv, nthL_range k v hv⟩⟩
def swapped (L : List Nat) (a b : Nat) : List Nat := (L.set a (nthL L b)).set b (nthL L a)
theorem nthL_swapped (L : List Nat) (a b j : Nat) (ha : a < L.length) (hb : b < L.length) : nthL (swapped L a b) j = if j = b then nthL L a else if j = a then nthL L b else nthL L j := by
  rw [swapped, nthL_set _ _ _ _ (by simpa using hb), nthL_set _ _ _ _ ha]
theorem Perm4.swap {k : Nat} {L : List Nat} (h : Perm4 k L) {a b : Nat} (ha : a < k) (hb : b < k) (hab : a / 4 = b / 4) : Perm4 k (swapped L a b) := by
  obtain ⟨hl, hk, hi, hs⟩ := h
  have g := fun j => nthL_swapped L a b j (by omega) (by omega)
  refine ⟨by simp [swapped, hl], fun p hp => ?_, fun p q hp hq e => ?_, fun v hv => ?_⟩
  · rw [g]
    by_cases c1 : p = b
    · rw [if_pos c1]; have := hk a ha; omega
    · rw [if_neg c1]
      by_cases c2 : p = a
      · rw [if_pos c2]; have := hk b hb; omega
      · rw [if_neg c2]; exact hk p hp
  · rw [g, g] at e
    by_cases c1 : p = b
    · rw [if_pos c1] at e
      by_cases d1 : q = b
      · omega
      · rw [if_neg d1] at e
        by_cases d2 : q = a
        · rw [if_pos d2] at e; have := hi a b ha hb e; omega
        · rw [if_neg d2] at e; have := hi a q ha hq e; omega
    · rw [if_neg c1] at e
      by_cases c2 : p = a
      · rw [if_pos c2] at e
        by_cases d1 : q = b
        · rw [if_pos d1] at e; have := hi b a hb ha e; omega
        · rw [if_neg d1] at e
          by_cases d2 : q = a
          · omega
          · rw [if_neg d2] at e; have := hi b q hb hq e; omega
      · rw [if_neg c2] at e
        by_cases d1 : q = b
        · rw [if_pos d1] at e; have := hi p a hp ha e; omega
        · rw [if_neg d1] at e
          by_cases d2 : q = a
          · rw [if_pos d2] at e; have := hi p b hp hb e; omega
          · rw [if_neg d2] at e; exact hi p q hp hq e
  · obtain ⟨p, hp, e⟩ := hs v hv
    by_cases c1 : p = a
    · exact ⟨b, hb, by rw [g, if_pos rfl, ← c1]; exact e⟩
    · by_cases c2 : p = b
      · refine ⟨a, ha, ?_⟩
        rw [g]
        by_cases c3 : a = b
        · rw [if_pos c3]; rw [c3, ← c2]; exact e
        · rw [if_neg c3, if_pos rfl, ← c2]; exact e
      · exact ⟨p, hp, by rw [g, if_neg c2, if_neg c1]; exact e⟩
theorem swap_heap {w w1 : World} {lb a b : Nat} {L : List Nat} (hb : Below w.heap.size w w1) (h : w.heap[lb]? = some (.cells (lrow L) 3 (0, 0))) :
    ((w1.setCell ⟨lb, a, none⟩ (.int .i64 (nthL L b))).setCell ⟨lb, b, none⟩ (.int .i64 (nthL L a))).heap[lb]? = some (.cells (lrow (swapped L a b)) 3 (0, 0)) := by
  have h1 := (hb.block lb (Array.getElem?_eq_some_iff.1 h).1).trans h
  have h2 := heap_setCell_same w1 lb a _ 3 (.int .i64 (nthL L b)) h1
  rw [lrow_set] at h2
  have h3 := heap_setCell_same _ lb b _ 3 (.int .i64 (nthL L a)) h2
  rw [lrow_set] at h3
  exact h3
/-- What is known when j numbers have been put: nx is the next one to be taken; ms wait. -/
structure Inv (L : List Nat) (j nx : Nat) (ms : List M) : Prop where
  lo : ∀ v, v < nx → ∃ p, p < j ∧ nthL L p = v
  hi : ∀ m, m ∈ ms → ∃ p, p < j ∧ m.n = (nthL L p : Int)
  all : ∀ p, p < j → nthL L p < nx ∨ ∃ m, m ∈ ms ∧ m.n = (nthL L p : Int)
  hd : ∀ m r, ms = m :: r → m.n ≠ nx
  fr : ∀ m, m ∈ ms → m.a = m.n ∧ m.b = m.n + 1 ∧ m.c = m.n + 2
theorem nthM_mem (ms : List M) (i : Nat) (h : i < ms.length) : nthM ms i ∈ ms := by
  simp [nthM, h]
theorem mem_nthM {ms : List M} {m : M} (h : m ∈ ms) : ∃ i, i < ms.length ∧ nthM ms i = m := by
  obtain ⟨i, hi, e⟩ := List.getElem_of_mem h
  exact ⟨i, hi, by simp [nthM, hi, e]⟩
theorem Inv.start (L : List Nat) : Inv L 0 0 [] := ⟨fun v h => by omega, fun m h => by simp at h, fun p h => by omega, (fun m r h => by cases h), fun m h => by simp at h⟩
theorem no_nx {nx : Nat} {ms : List M} (hg : Good nx ms) (hd : ∀ m r, ms = m :: r → m.n ≠ nx) : ∀ m, m ∈ ms → m.n ≠ nx := by
  intro m hm e
  obtain ⟨t, ht, et⟩ := mem_nthM hm
  cases ms with
  | nil => simp at ht
  | cons m0 r =>
    cases t with
    | zero => exact hd m0 r rfl (by rw [← e, ← et]; rfl)
    | succ t =>
      have h1 := hg.2.2.2 0 (t + 1) (by omega) ht
      have h2 := (hg.2.2.1 0 (by simp)).1
      rw [et] at h1
      omega
/-- The number that is put: from nx on, at most eight ahead, and not there. -/
theorem Inv.may {L : List Nat} {k j nx : Nat} {ms : List M} (hp : Perm4 k L) (h : Inv L j nx ms) (hg : Good nx ms) (hj : j < k) :
    nx ≤ nthL L j ∧ nthL L j ≤ nx + 8 ∧ ∀ m, m ∈ ms → m.n ≠ (nthL L j : Int) := by
  refine ⟨?_, ?_, fun m hm e => ?_⟩
  · rcases Nat.lt_or_ge (nthL L j) nx with hlt | hge
    · obtain ⟨p, hpj, e⟩ := h.lo _ hlt
      have := hp.inj p j (by omega) hj e
      omega
    · exact hge
  · have hb := hp.blk j hj
    rcases Nat.lt_or_ge (nx + 8) (nthL L j) with hlt | hge
    · have hnk : nx < k := by omega
      obtain ⟨p, hpk, e⟩ := hp.sur nx hnk
      have hpb := hp.blk p hpk
      have hpj : p < j := by omega
      rcases h.all p hpj with hl | ⟨m, hm, hmn⟩
      · omega
      · rw [e] at hmn
        exact absurd hmn (no_nx hg h.hd m hm)
    · exact hge
  · obtain ⟨p, hpj, e'⟩ := h.hi m hm
    have h1 : nthL L p = nthL L j := by omega
    have := hp.inj p j (by omega) hj h1
    omega
theorem mem_ins {ms : List M} {x m : M} {r : Nat} : m ∈ ms.take r ++ x :: ms.drop r ↔ m = x ∨ m ∈ ms := by
  have e : m ∈ ms ↔ m ∈ ms.take r ∨ m ∈ ms.drop r := by
    rw [← List.mem_append, List.take_append_drop]
  rw [List.mem_append, List.mem_cons, e]
  constructor
  · rintro (h | h | h)
    · exact .inr (.inl h)
    · exact .inl h
    · exact .inr (.inr h)
  · rintro (h | h | h)
    · exact .inr (.inl h)
    · exact .inl h
    · exact .inr (.inr h)
theorem Inv.step {L : List Nat} {j nx r : Nat} {ms done rest : List M} (h : Inv L j nx ms) (hx : done ++ rest = ms.take r ++ ⟨nthL L j, nthL L j, nthL L j + 1, nthL L j + 2⟩ :: ms.drop r) (hrun : Run nx done)
    (hne : ∀ m r', rest = m :: r' → m.n ≠ (nx : Int) + done.length) :
    Inv L (j + 1) (nx + done.length) rest ∧ ∀ t, t < done.length → (nthM done t).a = (nx : Int) + t ∧ (nthM done t).b = (nx : Int) + t + 1 ∧ (nthM done t).c = (nx : Int) + t + 2 := by
  have hmem : ∀ m, m ∈ done ∨ m ∈ rest ↔ m = ⟨nthL L j, nthL L j, nthL L j + 1, nthL L j + 2⟩ ∨ m ∈ ms := fun m => by
    rw [← List.mem_append, hx]; exact mem_ins
  have hfr : ∀ m, m ∈ done ∨ m ∈ rest → m.a = m.n ∧ m.b = m.n + 1 ∧ m.c = m.n + 2 := fun m hm => by
    rcases (hmem m).1 hm with rfl | hm
    · exact ⟨rfl, rfl, rfl⟩
    · exact h.fr m hm
  have hpos : ∀ m, m ∈ done ∨ m ∈ rest → ∃ p, p < j + 1 ∧ m.n = (nthL L p : Int) := fun m hm => by
    rcases (hmem m).1 hm with rfl | hm
    · exact ⟨j, by omega, rfl⟩
    · obtain ⟨p, hp, e⟩ := h.hi m hm; exact ⟨p, by omega, e⟩
  refine ⟨⟨fun v hv => ?_, fun m hm => hpos m (.inr hm), fun p hp => ?_, fun m r' e => by rw [Int.natCast_add]; exact hne m r' e, fun m hm => hfr m (.inr hm)⟩, fun t ht => ?_⟩
  · by_cases hlt : v < nx
    · obtain ⟨p, hp, e⟩ := h.lo v hlt; exact ⟨p, by omega, e⟩
    · have e := hrun (v - nx) (by omega)
      obtain ⟨p, hp, e'⟩ := hpos _ (.inl (nthM_mem done (v - nx) (by omega)))
      exact ⟨p, hp, by omega⟩
  · have key : ∀ m, m.n = (nthL L p : Int) → (m ∈ done ∨ m ∈ rest) → nthL L p < nx + done.length ∨ ∃ m, m ∈ rest ∧ m.n = (nthL L p : Int) := fun m e hm => by
      rcases hm with hm | hm
      · obtain ⟨t, ht, et⟩ := mem_nthM hm
        have := hrun t ht
        rw [et] at this
        exact .inl (by omega)
      · exact .inr ⟨m, hm, e⟩
    by_cases hpj : p = j
    · subst hpj
      exact key _ rfl ((hmem _).2 (.inl rfl))
    · rcases h.all p (by omega) with hl | ⟨m, hm, e⟩
      · exact .inl (by omega)
      · exact key m e ((hmem m).2 (.inr hm))
  · have e := hrun t ht
    obtain ⟨e1, e2, e3⟩ := hfr _ (.inl (nthM_mem done t ht))
    exact ⟨by omega, by omega, by omega⟩
theorem Inv.last {L : List Nat} {k nx : Nat} {ms : List M} (hp : Perm4 k L) (h : Inv L k nx ms) (hg : Good nx ms) : nx = k ∧ ms = [] := by
  have h1 : nx ≤ k := by
    rcases Nat.lt_or_ge k nx with hlt | hge
    · obtain ⟨p, hpk, e⟩ := h.lo k hlt
      have := hp.blk p hpk
      omega
    · exact hge
  have h2 : ¬ nx < k := fun hlt => by
    obtain ⟨p, hpk, e⟩ := hp.sur nx hlt
    rcases h.all p hpk with hl | ⟨m, hm, hmn⟩
    · omega
    · rw [e] at hmn
      exact no_nx hg h.hd m hm hmn
  refine ⟨by omega, ?_⟩
  cases ms with
  | nil => rfl
  | cons m r =>
    obtain ⟨p, hpk, e⟩ := h.hi m (by simp)
    have := hp.blk p hpk
    have h3 := (hg.2.2.1 0 (by simp)).1
    have e0 : nthM (m :: r) 0 = m := rfl
    rw [e0] at h3
    omega
end Go.Proofs.Ytpmgobiakgffiaa
