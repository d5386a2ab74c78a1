/-
  PROVED: for every gauge, peak and pair of numbers 'shinglelaw40.GaugeLevels' returns true, and what it was given reads as before. Conditions: the three listed tables of Go's library hold what their text lays, which the card ties.
-/
import Derived.Test.YtecijaibbjafoaaDoorRows
import Derived.Test.YtecijaibbjafoaaDoorCards
import Derived.Test.YtecijaibbjafoaaDoorTie
import Derived.WalkKit
import Derived.ProofKit
import Derived.LaidMore
import Derived.OpenShut
import Derived.ChangeOld
import Derived.Below
import Derived.Deep.Slices
import Derived.Deep.Fields
import Derived.Stop.Joined
import Derived.SevenTiedAt
import Derived.Lib.LaidTab
import Derived.Test.YtecijaibbjafoaaDoorLevLaw
namespace Go.Proofs.YtecijaibbjafoaaDoor.gaugeLevels
open Go.ChangeShapes Go.WideShapes Go.ChangeAt Go.RowKit Go.Deep
set_option linter.unusedVariables false

theorem own : ownKnob Tryd.prog.godebug = none := by kernel_rfl
theorem laidOut : laidOutB Tryd.prog = true := by kernel_rfl
abbrev laid : List (String × DataW Unit) := Rows.gaugeLevelsRow.laid
theorem door_met (os : Os) (args : Array Value) : laidMetH Tryd.prog laid ((World.doorLaid Tryd.prog 400 os).forCall (fun _ _ => 0) ⟨#[], args, []⟩).memory := by
  rw [MakeChecks.laidMetH_plain _ _ _ (by kernel_rfl)]
  exact laidMet_of_run' 8 (by kernel_rfl) (by kernel_rfl)
theorem cells5 : Tryd.prog.cellsOf 5 = 1 := by kernel_rfl
theorem tab_of_laid {W : World} (h : laidMetH Tryd.prog laid W) : Tab W := by
  rw [MakeChecks.laidMetH_plain _ _ _ (by kernel_rfl)] at h
  obtain ⟨ps, ⟨g0, t0, cs0, f0, p0, q0, hg0, ht0, hv0, hd0, ⟨g1, t1, cs1, f1, p1, q1, hg1, ht1, hv1, hd1, ⟨g2, t2, cs2, f2, p2, q2, hg2, ht2, hv2, hd2, _, _⟩, _⟩, _⟩, _⟩ := h
  have hg : Tryd.prog.globalNamed "internal/strconv.uint64pow10" = some 0 := by kernel_rfl
  have ht : (Tryd.prog.globals[0]?).map (·.type) = some 79 := by kernel_rfl
  obtain rfl := Option.some.inj (hg.symm.trans hg2)
  obtain rfl := Option.some.inj (ht.symm.trans ht2)
  unfold Tab Lib.TabIs
  have hd : DataW.trod (fun _ => ()) Tryd.prog W 0 (fun _ => true) false f2 79 cs2.toList = some (Lib.tabData .u64 Lib.pow10Tab, p2) := hd2
  rw [hv2, ← Lib.cells_of_tab Tryd.underlying79 Tryd.underlying69 (by kernel_rfl) (by kernel_rfl) hd]
theorem int_range {n : Int} (h : (Lit.int .i64 n).wf = true) : inR n := by
  have h1 : IntKind.i64.min = -9223372036854775808 := rfl
  have h2 : IntKind.i64.max = 9223372036854775807 := rfl
  simp only [Lit.wf, Bool.and_eq_true, decide_eq_true_eq] at h
  unfold inR
  omega
/-- A gauge by value. -/
theorem open_gauge {H : Type} {enc : TypeId × Value → H} {w : World} {base b0 : Nat} {spare : Nat → Bool} {held : Bool} {r : Reach} {v : Value} {d : DataW H} {p : List MemPlace} (hv : Value.okWide Tryd.prog w r b0 23 v) (h : DataW.Trod enc Tryd.prog w base spare held 23 v d p) : ∃ g : G5, v = g.v ∧ g.inR := by
  obtain ⟨cs, rfl, hsz⟩ := okWide_struct Tryd.underlying23 hv
  obtain ⟨fuel, hf⟩ := h
  obtain ⟨l⟩ := cs
  have hl : l.length = 5 := hsz.trans (by kernel_rfl)
  obtain ⟨c0, c1, c2, c3, c4, rfl⟩ : ∃ c0 c1 c2 c3 c4, l = [c0, c1, c2, c3, c4] := by
    match l, hl with
    | [a, b, c, d, e], _ => exact ⟨a, b, c, d, e, rfl⟩
  obtain ⟨ys, k, _, _, _, hyl, hfl⟩ := DataW.trod_struct Tryd.underlying23 hf
  have hy5 : ys.length = 5 := hyl
  have hx : ∀ (j : Nat) (c : Value), [c0, c1, c2, c3, c4][j]? = some c → ∃ n, c = .int .i64 n ∧ inR n := by
    intro j c hj
    have hj5 : j < 5 := by have := (List.getElem?_eq_some_iff.1 hj).1; simpa using this
    have hone : (([c0, c1, c2, c3, c4] : List Value).drop j).take 1 = [c] := by
      rw [List.drop_eq_getElem_cons (by simpa using hj5)]
      simp only [List.take_succ_cons, List.take_zero, List.cons.injEq, and_true]
      exact Option.some.inj ((List.getElem?_eq_getElem _).symm.trans hj)
    have hys : ys[j]? = some (ys[j]'(by omega)) := List.getElem?_eq_getElem (by omega)
    have ht : DataW.trod enc Tryd.prog w base spare held k 3 [c] = some (ys[j]'(by omega)) := by
      have : j = 0 ∨ j = 1 ∨ j = 2 ∨ j = 3 ∨ j = 4 := by omega
      rw [← hone, ← hys]
      rcases this with rfl | rfl | rfl | rfl | rfl
      · exact hfl 0 _ rfl
      · exact hfl 1 _ rfl
      · exact hfl 2 _ rfl
      · exact hfl 3 _ rfl
      · exact hfl 4 _ rfl
    obtain ⟨n, e, _, hw⟩ := DataW.trod_int Tryd.underlying3 ht
    injection e with e
    exact ⟨n, e, int_range hw⟩
  obtain ⟨n0, rfl, r0⟩ := hx 0 c0 rfl
  obtain ⟨n1, rfl, r1⟩ := hx 1 c1 rfl
  obtain ⟨n2, rfl, r2⟩ := hx 2 c2 rfl
  obtain ⟨n3, rfl, r3⟩ := hx 3 c3 rfl
  obtain ⟨n4, rfl, r4⟩ := hx 4 c4 rfl
  exact ⟨⟨n0, n1, n2, n3, n4⟩, rfl, r0, r1, r2, r3, r4⟩
/-- Two numbers by value. -/
theorem open_two {H : Type} {enc : TypeId × Value → H} {w : World} {base b0 : Nat} {spare : Nat → Bool} {held : Bool} {r : Reach} {v : Value} {d : DataW H} {p : List MemPlace} (hv : Value.okWide Tryd.prog w r b0 24 v) (h : DataW.Trod enc Tryd.prog w base spare held 24 v d p) : ∃ n0 n1 : Int, v = .agg #[.int .i64 n0, .int .i64 n1] := by
  simp only [Value.okWide, Tryd.underlying24] at hv
  obtain ⟨cs, rfl, hsz, _⟩ := hv
  obtain ⟨fuel, hf⟩ := h
  obtain ⟨l⟩ := cs
  have hl : l.length = 2 := hsz.trans (by kernel_rfl)
  obtain ⟨c0, c1, rfl⟩ : ∃ c0 c1, l = [c0, c1] := by
    match l, hl with
    | [a, b], _ => exact ⟨a, b, rfl⟩
  obtain ⟨xs, m1, rfl, hx1, hlen, hn3, hel⟩ := DataW.trod_array Tryd.underlying24 hf
  have h0 := hel 0 (by decide)
  have h1 := hel 1 (by decide)
  rw [show Tryd.prog.cellsOf 3 = 1 by kernel_rfl] at h0 h1
  rw [List.getElem?_eq_getElem (by omega)] at h0 h1
  obtain ⟨n0, e0, _, _⟩ := DataW.trod_int Tryd.underlying3 h0
  obtain ⟨n1, e1, _, _⟩ := DataW.trod_int Tryd.underlying3 h1
  have f0 : [c0] = [Value.int .i64 n0] := e0
  have f1 : [c1] = [Value.int .i64 n1] := e1
  injection f0 with f0
  injection f1 with f1
  subst f0; subst f1
  exact ⟨n0, n1, rfl⟩
set_option maxRecDepth 100000 in
theorem lifted (os : Os) (started : os.Started) (H : Type) (enc : TypeId × Value → H) :
    ReturnsInHanded {} Tryd.checked os 3 .any (fun w args => (Rows.gaugeLevelsSpec.pre enc Tryd.prog Tryd.f3 [] false w args ∧ laidMetH Tryd.prog laid w) ∧ sizedMet enc Tryd.prog Tryd.f3 (OpenSpec.ofChange Rows.gaugeLevelsSpec) false w args)
      (Rows.gaugeLevelsSpec.post enc Tryd.prog Tryd.f3 false true false false) := by
  refine returnsInHanded_of_change_and (C := Tryd.checked) (X := fun w _ => laidMetH Tryd.prog laid w) (fun _ _ _ hh h => h.of_heap hh) own started (by kernel_rfl) Tryd.func3
    (ChangeSpec.witness_shaped (enc := enc) (C := Tryd.checked) (os := os) (X := fun w _ => laidMetH Tryd.prog laid w) false (World.doorLaid Tryd.prog 400 os) #[.agg #[.int .i64 0, .int .i64 0, .int .i64 0, .int .i64 0, .int .i64 0], .int .i64 0, .agg #[.int .i64 0, .int .i64 0]] 8 rfl (World.shaped_of_RefB (by kernel_rfl) (by kernel_rfl)) (by kernel_rfl) (by kernel_rfl) (by kernel_rfl) (door_met os _)) ?_
  intro W base args ds gs before hval0 hW _ _ hL _
  have hval : ∀ (j : Nat) t v, Tryd.f3.params[j]? = some t → args[j]? = some v → Value.okWide Tryd.prog W .any base t v := hval0
  have hW' := hW
  obtain ⟨p, q, hA0, hV, rfl, hfz, hnd⟩ := hW
  have hA : DataW.TrodAll enc Tryd.prog W 0 (fun _ => true) true Tryd.f3.params.toList args.toList ds p := hA0
  rw [Tryd.params3] at hA hval
  obtain ⟨v0, vs0, d0, ds0, p0, q0, hargs, rfl, rfl, h0, r0⟩ := trodAll_cons hA
  obtain ⟨v1, vs1, d1, ds1, p1, q1, rfl, rfl, rfl, h1, r1⟩ := trodAll_cons r0
  obtain ⟨v2, vs2, d2, ds2, p2, q2, rfl, rfl, rfl, h2, r2⟩ := trodAll_cons r1
  obtain ⟨rfl, rfl, rfl⟩ := trodAll_nil r2
  obtain rfl : args = #[v0, v1, v2] := by cases args; simp_all
  obtain ⟨rfl, rfl⟩ := trodVars_none hV
  have k0 := h0
  have lt0 : ∀ x ∈ p0, x.block < W.heap.size := by obtain ⟨m, hm⟩ := k0; exact DataW.trod_lt m _ _ _ hm
  have k2 := h2
  have lt2 : ∀ x ∈ p2, x.block < W.heap.size := by obtain ⟨m, hm⟩ := k2; exact DataW.trod_lt m _ _ _ hm
  obtain ⟨g, rfl, hg⟩ := open_gauge (hval 0 23 v0 rfl rfl) h0
  obtain ⟨n, rfl, rfl, rfl, hwn⟩ := open_int Tryd.underlying3 (hval 1 3 v1 rfl rfl) h1
  obtain ⟨n0, n1, rfl⟩ := open_two (hval 2 24 v2 rfl rfl) h2
  clear hA0 hval0
  refine (f3_any g (Lib.hid hg) n n0 n1 W (Lib.hid (tab_of_laid hL))).mono fun e W' ⟨he, bel⟩ => ?_
  subst he
  exact ⟨_, rfl, _, _, _, [], _, [], hW', trodAll_mk1 (shut_bool Tryd.underlying4 _), (trodAll_cons_mk (Below.trod laidOut (by kernel_rfl) (of_decide_eq_true (by kernel_rfl)) k0 bel lt0) (trodAll_cons_mk (shut_int Tryd.underlying3 hwn) (trodAll_cons_mk (Below.trod laidOut (by kernel_rfl) (of_decide_eq_true (by kernel_rfl)) k2 bel lt2) trodAll_mk0))), rfl, bel.frame _, fun h => by cases h⟩

theorem over : Rows.GaugeLevelsSaid :=
  OpenClaim.holds_of_wide 3 Tryd.f3 rfl rfl rfl rfl rfl rfl rfl ⟨rfl, rfl, rfl, rfl, rfl⟩ rfl rfl rfl rfl rfl (by kernel_rfl) Tryd.func3 (by kernel_rfl)
    (of_decide_eq_true (by kernel_rfl)) (by unfold Func.isWrapper; first | (rw [if_pos (by decide +kernel)]; kernel_rfl) | (rw [if_neg (by decide +kernel)]; exact ⟨rfl, rfl⟩))
    (fun os started H enc _ => lifted os started H enc)

/-- ████ THE TIED CARD ████ -/
theorem proved : Rows.GaugeLevelsCardSaid :=
  Claim7.holds_tied_plain_at .later [] [.data, .data, .data] true (true, "a770e75a86bd556b6619f8da9bc5e1ee3c0ec93a99155b636b369219251acf30") false
    over (fun _ h => by cases h) (by kernel_rfl) (fun _ h => by cases h) gaugeLevels_row_tie rfl ⟨rfl, rfl⟩ (by kernel_rfl) rfl
    (fun f fn hf hfn => by
      obtain rfl : f = 3 := Option.some.inj ((show Tryd.prog.funcNamed "shingle/shinglelaw40.GaugeLevels" = some 3 by kernel_rfl).symm.trans hf) |>.symm
      obtain rfl : fn = Tryd.f3 := (Option.some.inj (Tryd.func3.symm.trans hfn)).symm
      exact ⟨by kernel_rfl, fun j t ht => by
        rw [Tryd.params3] at ht
        have hm : t ∈ [23, 3, 24] := by simpa using Array.mem_of_getElem? ht
        have hall : ([23, 3, 24].all fun u => !Tryd.prog.wantsStandIn u) = true := by kernel_rfl
        exact (show Tryd.prog.wantsStandIn t = false by simpa using List.all_eq_true.1 hall t hm)⟩)
    (by kernel_rfl)
#print axioms proved
end Go.Proofs.YtecijaibbjafoaaDoor.gaugeLevels
