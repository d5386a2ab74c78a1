import Derived.Test.YtpmgobiakgffiaaProg
import Derived.Test.YtpmgobiakgffiaaIns
import Derived.Test.YtpmgobiakgffiaaDel
import Derived.Test.YtpmgobiakgffiaaFr
import Derived.Test.YtpmgobiakgffiaaSame
import Derived.Test.YtpmgobiakgffiaaPut2
import Derived.Test.YtpmgobiakgffiaaTake
import Derived.Test.YtpmgobiakgffiaaRef
import Derived.Test.YtpmgobiakgffiaaRefT
import Derived.Test.YtpmgobiakgffiaaRefW
import Derived.Test.YtpmgobiakgffiaaCall
import Derived.Deep.LoopGhost
import Derived.Test.YtpmgobiakgffiaaSmall
import Derived.WalkKit
import Derived.Handy
import Derived.Deep.QuietTactic
import Derived.BigQuiet
import Derived.WalkSpells
import Derived.WalkLawsBesides
import Derived.Outline
import Derived.Lib.Hide
import Derived.Deep.DeepFit
import Derived.StillTailTactics
import Derived.Deep.RegionHeld3
import Derived.Deep.RegionWith
namespace Go.Proofs.Ytpmgobiakgffiaa
open Go.RowKit
open Classical in
/-- What a Put tells. -/
noncomputable def code (next n : Int) (ms : List M) : Int := if n < next then 251 else if next + 8 < n then 260 else if ∃ m, m ∈ ms ∧ m.n = n then 251 else 0
/-- What waits behind a Put. -/
def After (next n a b c : Int) (ms ms' : List M) : Prop :=
  (code next n ms = 0 ∧ ∃ r, r ≤ ms.length ∧ ms' = ms.take r ++ ⟨n, a, b, c⟩ :: ms.drop r) ∨ (code next n ms ≠ 0 ∧ ms' = ms)
theorem code_back {next n : Int} {ms : List M} (h : n < next) : code next n ms = 251 := by unfold code; rw [if_pos h]
theorem code_far {next n : Int} {ms : List M} (h0 : ¬ n < next) (h : next + 8 < n) : code next n ms = 260 := by unfold code; rw [if_neg h0, if_pos h]
theorem code_twice {next n : Int} {ms : List M} (h0 : ¬ n < next) (h1 : ¬ next + 8 < n) (h : ∃ m, m ∈ ms ∧ m.n = n) : code next n ms = 251 := by unfold code; rw [if_neg h0, if_neg h1, if_pos h]
theorem code_ok {next n : Int} {ms : List M} (h0 : ¬ n < next) (h1 : ¬ next + 8 < n) (h : ¬ ∃ m, m ∈ ms ∧ m.n = n) : code next n ms = 0 := by unfold code; rw [if_neg h0, if_neg h1, if_neg h]
theorem put_all (B q lo : Nat) (next n a b c : Int) (ms : List M) (f : Array Value) (w : World) (hB : B ≤ w.heap.size) (hq : Hid (QS w B q next ms)) (hf : Hid (Fr w lo f a b c)) (h3 : n ≤ 9223372036854775807) :
    Calls Try.prog 11 #[.pointer (some ⟨q, 0, none⟩), .int .i64 n, .agg f] w fun e w' => e = .returned (.int .i64 (code next n ms)) ∧ ∃ ms', Hid (After next n a b c ms ms') ∧ Hid (QS w' B q next ms') ∧ Hid (Keep w w') ∧ Hid (Below B w w') := by
  by_cases c1 : n < next
  · refine (f11_back B q lo next n a b c ms f w hq hf c1).mono ?_
    rintro e w' ⟨rfl, hb⟩
    exact ⟨by rw [code_back c1], ms, Lib.hid (.inr ⟨by rw [code_back c1]; decide, rfl⟩), Lib.hid (hq.out.keep hb), Lib.hid (Keep.below hb), Lib.hid (hb.mono hB)⟩
  · by_cases c2 : next + 8 < n
    · refine (f11_far B q lo next n a b c ms f w hq hf c2 h3).mono ?_
      rintro e w' ⟨rfl, hb⟩
      exact ⟨by rw [code_far c1 c2], ms, Lib.hid (.inr ⟨by rw [code_far c1 c2]; decide, rfl⟩), Lib.hid (hq.out.keep hb), Lib.hid (Keep.below hb), Lib.hid (hb.mono hB)⟩
    · refine (f11_ok B q lo next n a b c ms f w hB hq hf (by omega) (by omega) h3).mono ?_
      rintro e w' ⟨hk, hb, ⟨⟨i, hi, hn⟩, rfl, hqs⟩ | ⟨r, hr, hlo, hhi, rfl, hqs⟩⟩
      · have hm : ∃ m, m ∈ ms ∧ m.n = n := ⟨nthM ms i, by simp [nthM, hi], hn⟩
        exact ⟨by rw [code_twice c1 c2 hm], ms, Lib.hid (.inr ⟨by rw [code_twice c1 c2 hm]; decide, rfl⟩), Lib.hid hqs, Lib.hid hk, Lib.hid hb⟩
      · have hm : ¬ ∃ m, m ∈ ms ∧ m.n = n := by
          rintro ⟨m, hm, e⟩
          obtain ⟨i, hi, e'⟩ := List.getElem_of_mem hm
          have en : (nthM ms i).n = n := by rw [← e, ← e']; simp [nthM, hi]
          by_cases hir : i < r
          · have := hlo i hir; omega
          · have := hhi i (by omega) hi; omega
        exact ⟨by rw [code_ok c1 c2 hm], _, Lib.hid (.inl ⟨code_ok c1 c2 hm, r, hr, rfl⟩), Lib.hid hqs, Lib.hid hk, Lib.hid hb⟩
theorem mem_put {ms : List M} {x m : M} {r : Nat} : m ∈ ms.take r ++ x :: ms.drop r ↔ m = x ∨ m ∈ ms := by
  have e : m ∈ ms ↔ m ∈ ms.take r ∨ m ∈ ms.drop r := by
    rw [← List.mem_append, List.take_append_drop]
  rw [List.mem_append, List.mem_cons, e]
  constructor
  · rintro (h | h | h)
    · exact .inr (.inl h)
    · exact .inl h
    · exact .inr (.inr h)
  · rintro (h | h | h)
    · exact .inr (.inl h)
    · exact .inl h
    · exact .inr (.inr h)
theorem Tab.put {w : World} {next a b c : Int} {h : Nat → Bool} {g : Nat → Nine} {ms : List M} (t : Tab w next h g ms) (i : Nat) (hi : i < 9) (hh : h i = false) (u : Nine) (hu : Fr w 0 u.arr a b c) (r : Nat) :
    Tab w next (upd h i true) (upd g i u) (ms.take r ++ ⟨next + i, a, b, c⟩ :: ms.drop r) := by
  have hno : ∀ m, m ∈ ms → m.n ≠ next + i := fun m hm e => by
    have := (t.1 i hi).2 ⟨m, hm, e⟩
    rw [hh] at this
    exact absurd this (by decide)
  refine ⟨fun j hj => ?_, fun j hj m hm e => ?_⟩
  · by_cases hji : j = i
    · subst hji
      rw [upd_same]
      exact ⟨fun _ => ⟨_, mem_put.2 (.inl rfl), rfl⟩, fun _ => rfl⟩
    · rw [upd_ne _ _ _ _ hji, t.1 j hj]
      refine ⟨fun ⟨m, hm, e⟩ => ⟨m, mem_put.2 (.inr hm), e⟩, fun ⟨m, hm, e⟩ => ?_⟩
      rcases mem_put.1 hm with rfl | h
      · simp at e; omega
      · exact ⟨m, h, e⟩
  · rcases mem_put.1 hm with rfl | h
    · have : j = i := by simp at e; omega
      subst this
      rw [upd_same]
      exact hu
    · have hji : j ≠ i := fun e' => by subst e'; exact hno m h e
      rw [upd_ne _ _ _ _ hji]
      exact t.2 j hj m h e
theorem putR_all (B x : Nat) (next n a b c : Int) (ms : List M) (lo : Nat) (f : Array Value) (w : World) (hr : Hid (RS w x next ms)) (hf : Hid (Fr w lo f a b c)) (h0 : 0 ≤ next ∧ next ≤ 1000000) (hBx : B ≤ x) (hB : B ≤ w.heap.size) :
    Calls Try.prog 16 #[.pointer (some ⟨x, 0, none⟩), .int .i64 n, .agg f] w fun e w' => e = .returned (.int .i64 (code next n ms)) ∧ Hid (∀ ms', After next n a b c ms ms' → RS w' x next ms') ∧ Hid (KeepR w w') ∧ Hid (Below B w w') := by
  obtain ⟨p0, c0, p1, c1, p2, c2, rfl, k0, k1, k2⟩ := hf.out
  obtain ⟨h, g, r, t⟩ := hr.out
  have same : ∀ w', Below w.heap.size w w' → code next n ms ≠ 0 → Hid (∀ ms', After next n a b c ms ms' → RS w' x next ms') ∧ Hid (KeepR w w') ∧ Hid (Below B w w') := fun w' hb hc =>
    ⟨Lib.hid (fun ms' ha => by
      rcases ha with ⟨h0, _⟩ | ⟨_, rfl⟩
      · exact absurd h0 hc
      · exact hr.out.below hb), Lib.hid (KeepR.below hb), Lib.hid (hb.mono hB)⟩
  by_cases c1' : n < next
  · refine (f16_back x next n h g (nine p0 c0 p1 c1 p2 c2) w (Lib.hid r) c1').mono ?_
    rintro e w' ⟨rfl, hb⟩
    exact ⟨by rw [code_back c1'], same w' hb (by rw [code_back c1']; decide)⟩
  · by_cases c2' : next + 8 < n
    · refine (f16_far x next n h g (nine p0 c0 p1 c1 p2 c2) w (Lib.hid r) h0 c2').mono ?_
      rintro e w' ⟨rfl, hb⟩
      exact ⟨by rw [code_far c1' c2'], same w' hb (by rw [code_far c1' c2']; decide)⟩
    · obtain ⟨i, hi, rfl⟩ : ∃ i : Nat, i < 9 ∧ n = next + i := ⟨(n - next).toNat, by omega, by omega⟩
      cases hh : h i with
      | true =>
        have hm := (t.1 i hi).1 hh
        refine (f16_twice x i next h g (nine p0 c0 p1 c1 p2 c2) w (Lib.hid r) h0 hi hh).mono ?_
        rintro e w' ⟨rfl, hb⟩
        exact ⟨by rw [code_twice c1' c2' hm], same w' hb (by rw [code_twice c1' c2' hm]; decide)⟩
      | false =>
        have hm : ¬ ∃ m, m ∈ ms ∧ m.n = next + i := fun hm => by
          have := (t.1 i hi).2 hm
          rw [hh] at this
          exact absurd this (by decide)
        refine (f16_ok B x i p0 c0 p1 c1 p2 c2 next h g w (Lib.hid r) h0 hi hh).mono ?_
        rintro e w' ⟨rfl, hb, hk, hl⟩
        refine ⟨by rw [code_ok c1' c2' hm], Lib.hid (fun ms' ha => ?_), Lib.hid hk, Lib.hid (hl hBx hB)⟩
        rcases ha with ⟨_, r', _, rfl⟩ | ⟨h0, _⟩
        · exact ⟨_, _, hb, (t.nums hk.nums).put i hi hh (nine p0 c0 p1 c1 p2 c2) ((hf.out.low (Nat.zero_le _)).nums hk.nums) r'⟩
        · exact absurd (code_ok c1' c2' hm) h0
theorem one_all (B : Nat) (n : Int) (w : World) (hB : B ≤ w.heap.size) : Calls Try.prog 10 #[.int .i64 n] w fun e w' => ∃ p0 c0 p1 c1 p2 c2, e = .returned (.agg (fr9 p0 c0 p1 c1 p2 c2)) ∧ Hid (Fr w' w.heap.size (fr9 p0 c0 p1 c1 p2 c2) (wrap64 n) (wrap64 (n + 1)) (wrap64 (n + 2))) ∧ Hid (Keep w w') ∧ Hid (Below B w w') ∧ Hid (Below w.heap.size w w') := by
  refine (f10_any n w).mono ?_
  rintro e w' ⟨v, rfl, hf, hb⟩
  obtain ⟨p0, c0, p1, c1, p2, c2, rfl, h⟩ := hf
  exact ⟨p0, c0, p1, c1, p2, c2, rfl, ⟨p0, c0, p1, c1, p2, c2, rfl, h⟩, Keep.below hb, hb.mono hB, hb⟩
end Go.Proofs.Ytpmgobiakgffiaa
