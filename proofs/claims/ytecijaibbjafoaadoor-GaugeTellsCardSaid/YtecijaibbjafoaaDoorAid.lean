import Derived.Test.YtecijaibbjafoaaDoorRows
import Derived.Test.YtecijaibbjafoaaDoorCards
import Derived.Test.YtecijaibbjafoaaDoorTie
import Derived.WalkKit
import Derived.ProofKit
import Derived.LaidMore
import Derived.OpenShut
import Derived.ChangeOld
import Derived.Below
import Derived.Deep.Slices
import Derived.Deep.Fields
import Derived.Stop.Joined
import Derived.SevenTiedAt
import Derived.Lib.LaidTab
import Derived.Test.YtecijaibbjafoaaDoorTxt
import Derived.Test.YtecijaibbjafoaaDoorFrames
namespace Go.Proofs.YtecijaibbjafoaaDoor.aid
open Go.Proofs.YtecijaibbjafoaaDoorW.PrintWords
open Go.ChangeShapes Go.WideShapes Go.ChangeAt Go.RowKit Go.Deep
set_option linter.unusedVariables false

theorem own : ownKnob Tryd.prog.godebug = none := by kernel_rfl
theorem laidOut : laidOutB Tryd.prog = true := by kernel_rfl
abbrev laid : List (String × DataW Unit) := Rows.gaugeLevelsRow.laid
theorem door_met (os : Os) (args : Array Value) : laidMetH Tryd.prog laid ((World.doorLaid Tryd.prog 400 os).forCall (fun _ _ => 0) ⟨#[], args, []⟩).memory := by
  rw [MakeChecks.laidMetH_plain _ _ _ (by kernel_rfl)]
  exact laidMet_of_run' 8 (by kernel_rfl) (by kernel_rfl)
theorem cells5 : Tryd.prog.cellsOf 5 = 1 := by kernel_rfl
theorem tab_of_laid {W : World} (h : laidMetH Tryd.prog laid W) : Tab W := by
  rw [MakeChecks.laidMetH_plain _ _ _ (by kernel_rfl)] at h
  obtain ⟨ps, ⟨g0, t0, cs0, f0, p0, q0, hg0, ht0, hv0, hd0, ⟨g1, t1, cs1, f1, p1, q1, hg1, ht1, hv1, hd1, ⟨g2, t2, cs2, f2, p2, q2, hg2, ht2, hv2, hd2, _, _⟩, _⟩, _⟩, _⟩ := h
  have hg : Tryd.prog.globalNamed "internal/strconv.uint64pow10" = some 0 := by kernel_rfl
  have ht : (Tryd.prog.globals[0]?).map (·.type) = some 79 := by kernel_rfl
  obtain rfl := Option.some.inj (hg.symm.trans hg2)
  obtain rfl := Option.some.inj (ht.symm.trans ht2)
  unfold Tab Lib.TabIs
  have hd : DataW.trod (fun _ => ()) Tryd.prog W 0 (fun _ => true) false f2 79 cs2.toList = some (Lib.tabData .u64 Lib.pow10Tab, p2) := hd2
  rw [hv2, ← Lib.cells_of_tab Tryd.underlying79 Tryd.underlying69 (by kernel_rfl) (by kernel_rfl) hd]
theorem int_range {n : Int} (h : (Lit.int .i64 n).wf = true) : inR n := by
  have h1 : IntKind.i64.min = -9223372036854775808 := rfl
  have h2 : IntKind.i64.max = 9223372036854775807 := rfl
  simp only [Lit.wf, Bool.and_eq_true, decide_eq_true_eq] at h
  unfold inR
  omega
/-- What a slice of numbers reads as. -/
theorem open_row {H : Type} {enc : TypeId × Value → H} {w : World} {base : Nat} {spare : Nat → Bool} {held : Bool} {fuel : Nat} {A : Option Addr} {n c : Nat} {x : DataW H × List MemPlace} (h : DataW.trod enc Tryd.prog w base spare held fuel 30 [.slice A n c] = some x) :
    ∃ l : List Int, n = l.length ∧ RW w A c l ∧ ∀ y ∈ l, inR y := by
  rcases open_slice Tryd.underlying30 h with ⟨hc, _⟩ | ⟨a, len, cap, m, n', D, Pl, hc, _, hl, hm, hmm, _, hi⟩
  · injection hc with hc _
    injection hc with h1 h2 h3
    subst h2
    exact ⟨[], rfl, ⟨⟨rfl, by simp, fun h => absurd h (Nat.lt_irrefl _)⟩, Nat.zero_le _⟩, fun y hy => by cases hy⟩
  · injection hc with hc _
    injection hc with h1 h2 h3
    subst h1; subst h2; subst h3
    have hex : ∀ i, i < n → ∃ z, w.cell? (a.add i) = some (.int .i64 z) ∧ inR z := by
      intro i hin
      obtain ⟨cs, hcs, ht⟩ := hi i (by rw [hmm]; split <;> omega)
      rw [show Tryd.prog.cellsOf 3 = 1 by kernel_rfl] at hcs
      obtain ⟨_, _, hat⟩ := World.cells?_some hcs
      obtain ⟨z, g0, _, wz⟩ := DataW.trod_int Tryd.underlying3 ht
      have h0 := hat 0 (by omega)
      rw [g0] at h0
      rw [show (a.add (i * 1)).add 0 = a.add i by rw [Nat.mul_one]; rfl] at h0
      exact ⟨z, h0, int_range wz⟩
    have hch : ∃ f : Nat → Int, ∀ i, i < n → w.cell? (a.add i) = some (.int .i64 (f i)) ∧ inR (f i) :=
      ⟨fun i => if hin : i < n then Classical.choose (hex i hin) else 0, fun i hin => by
        simp only [dif_pos hin]
        exact Classical.choose_spec (hex i hin)⟩
    obtain ⟨f, hf⟩ := hch
    refine ⟨(List.range n).map f, by simp, ⟨⟨rfl, ?_, fun _ => ⟨a, rfl, fun j p hj => ?_⟩⟩, by simpa using hl⟩, fun y hy => ?_⟩
    · have := hm
      unfold maxLen at this
      simp
      omega
    · have hjn : j < n := by have := (List.getElem?_eq_some_iff.1 hj).1; simpa using this
      have hp : f j = p := by simpa [hjn] using hj
      refine ⟨[.int .i64 p], rfl, rfl, fun i u hu => ?_⟩
      have hi0 : i = 0 := by have := (List.getElem?_eq_some_iff.1 hu).1; simpa using this
      subst hi0
      simp at hu
      subst hu
      rw [← hp, show j * (Kd.int IntKind.i64).sz + 0 = j from Nat.mul_one j]
      exact (hf j hjn).1
    · obtain ⟨i, hin, rfl⟩ := List.mem_map.1 hy
      exact (hf i (List.mem_range.1 hin)).2
/-- A plane by value. -/
theorem open_plane {H : Type} {enc : TypeId × Value → H} {w : World} {base b0 : Nat} {spare : Nat → Bool} {held : Bool} {r : Reach} {v : Value} {d : DataW H} {p : List MemPlace} (hv : Value.okWide Tryd.prog w r b0 32 v) (h : DataW.Trod enc Tryd.prog w base spare held 32 v d p) :
    ∃ q : Pn, v = .agg #[.int .i64 q.W, .int .i64 q.H, .slice q.A q.l.length q.c] ∧ q.ok w := by
  obtain ⟨cs, rfl, hsz⟩ := okWide_struct Tryd.underlying32 hv
  obtain ⟨fuel, hf⟩ := h
  obtain ⟨l⟩ := cs
  have hl : l.length = 3 := hsz.trans (by kernel_rfl)
  obtain ⟨c0, c1, c2, rfl⟩ : ∃ c0 c1 c2, l = [c0, c1, c2] := by
    match l, hl with
    | [a, b, c], _ => exact ⟨a, b, c, rfl⟩
  obtain ⟨ys, k, _, _, _, hyl, hfl⟩ := DataW.trod_struct Tryd.underlying32 hf
  have hy3 : ys.length = 3 := hyl
  have t0 : DataW.trod enc Tryd.prog w base spare held k 3 [c0] = some (ys[0]'(by omega)) := (hfl 0 _ rfl).trans (List.getElem?_eq_getElem (by omega))
  have t1 : DataW.trod enc Tryd.prog w base spare held k 3 [c1] = some (ys[1]'(by omega)) := (hfl 1 _ rfl).trans (List.getElem?_eq_getElem (by omega))
  have t2 : DataW.trod enc Tryd.prog w base spare held k 30 [c2] = some (ys[2]'(by omega)) := (hfl 2 _ rfl).trans (List.getElem?_eq_getElem (by omega))
  obtain ⟨n0, e0, _, _⟩ := DataW.trod_int Tryd.underlying3 t0
  obtain ⟨n1, e1, _, _⟩ := DataW.trod_int Tryd.underlying3 t1
  injection e0 with e0
  injection e1 with e1
  subst e0; subst e1
  obtain ⟨A, n, c, rfl⟩ : ∃ A n c, c2 = .slice A n c := by
    rcases open_slice Tryd.underlying30 t2 with ⟨hc, _⟩ | ⟨a, len, cap, m, n', D, Pl, hc, _⟩
    · injection hc with hc _; exact ⟨_, _, _, hc⟩
    · injection hc with hc _; exact ⟨_, _, _, hc⟩
  obtain ⟨l, rfl, hr, hi⟩ := open_row t2
  exact ⟨⟨n0, n1, A, c, l⟩, rfl, hr, hi⟩
end Go.Proofs.YtecijaibbjafoaaDoor.aid
