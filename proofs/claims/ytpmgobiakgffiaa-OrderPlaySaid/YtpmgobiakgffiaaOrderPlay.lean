/-
  PROVED: for every script of operations 'shinglelaw26.OrderPlay' returns true, and what it was given reads as before. Conditions: none.
  The row's step follows the shell that proof-skeleton.mjs wrote for OrderRuns, turned to a slice of structs.
-/
import Derived.Test.YtpmgobiakgffiaaRows
import Derived.WalkKit
import Derived.ProofKit
import Derived.OpenShut
import Derived.ShutString
import Derived.ChangeOld
import Derived.Below
import Derived.Deep.Slices
import Derived.Deep.Fields
import Derived.Test.YtpmgobiakgffiaaPlay
namespace Go.Proofs.Ytpmgobiakgffiaa.orderPlay
open Go.ChangeShapes Go.WideShapes Go.ChangeAt Go.RowKit Go.Deep
set_option linter.unusedVariables false

theorem own : ownKnob Try.prog.godebug = none := by kernel_rfl
theorem laidOut : laidOutB Try.prog = true := by kernel_rfl
theorem i64_of_wf {x : Int} (h : (Lit.int .i64 x).wf = true) : -9223372036854775808 ≤ x ∧ x ≤ 9223372036854775807 := by
  have h1 : IntKind.i64.min = -9223372036854775808 := rfl
  have h2 : IntKind.i64.max = 9223372036854775807 := rfl
  simp only [Lit.wf, Bool.and_eq_true, decide_eq_true_eq] at h
  omega
/-- What the walk is told of the script. -/
def Script (w : World) (A : Option Addr) (n : Nat) : Prop := ∀ i, i < n → ∃ g o kd nn vv nr, A = some ⟨g, o, none⟩ ∧ w.cell? ⟨g, o + i * 4, none⟩ = some (.int .i64 kd) ∧ w.cell? ⟨g, o + i * 4 + 1, none⟩ = some (.int .i64 nn) ∧ w.cell? ⟨g, o + i * 4 + 2, none⟩ = some (.int .i64 vv) ∧ w.cell? ⟨g, o + i * 4 + 3, none⟩ = some (.bool nr) ∧ -9223372036854775808 ≤ kd ∧ kd ≤ 9223372036854775807 ∧ -9223372036854775808 ≤ nn ∧ nn ≤ 9223372036854775807
theorem head_of {l : List Value} {j : Nat} {v : Value} (h : (l.drop j).take 1 = [v]) : l[j]? = some v := by
  have h0 : ((l.drop j).take 1)[0]? = some v := by rw [h]; rfl
  rw [List.getElem?_take, if_pos (by omega), List.getElem?_drop] at h0
  exact h0
set_option maxRecDepth 100000 in
theorem script_of {H : Type} {enc : TypeId × Value → H} {w : World} {base fuel : Nat} {spare : Nat → Bool} {held : Bool} {A : Option Addr} {n c : Nat} {x : DataW H × List MemPlace} (h : DataW.trod enc Try.prog w base spare held fuel 41 [.slice A n c] = some x) :
    n ≤ maxLen ∧ Script w A n := by
  rcases open_slice Try.underlying41 h with ⟨hc, _⟩ | ⟨a, len, cap, m, n', D, Pl, hc, _, hl, hm, hmm, _, hi⟩
  · injection hc with hc _
    injection hc with h1 h2 h3
    subst h2
    exact ⟨Nat.zero_le _, fun i hi => absurd hi (Nat.not_lt_zero _)⟩
  · injection hc with hc _
    injection hc with h1 h2 h3
    subst h1; subst h2; subst h3
    refine ⟨Nat.le_trans hl hm, fun i hin => ?_⟩
    have him : i < m := by rw [hmm]; split <;> omega
    obtain ⟨cs, hcs, ht⟩ := hi i him
    rw [show Try.prog.cellsOf 48 = 4 by kernel_rfl] at hcs
    obtain ⟨_, _, hat⟩ := World.cells?_some hcs
    obtain ⟨ys, k, _, _, _, hyl, hf⟩ := DataW.trod_struct Try.underlying48 ht
    have hy4 : ys.length = 4 := hyl
    have f0 : DataW.trod enc Try.prog w base spare held k 3 ((cs.drop 0).take (Try.prog.cellsOf 3)) = ys[0]? := hf 0 _ rfl
    have f1 : DataW.trod enc Try.prog w base spare held k 3 ((cs.drop 1).take (Try.prog.cellsOf 3)) = ys[1]? := hf 1 _ rfl
    have f2 : DataW.trod enc Try.prog w base spare held k 3 ((cs.drop 2).take (Try.prog.cellsOf 3)) = ys[2]? := hf 2 _ rfl
    have f3 : DataW.trod enc Try.prog w base spare held k 4 ((cs.drop 3).take (Try.prog.cellsOf 4)) = ys[3]? := hf 3 _ rfl
    rw [show Try.prog.cellsOf 3 = 1 by kernel_rfl] at f0 f1 f2
    rw [show Try.prog.cellsOf 4 = 1 by kernel_rfl] at f3
    obtain ⟨y0, e0⟩ : ∃ y, DataW.trod enc Try.prog w base spare held k 3 ((cs.drop 0).take 1) = some y := by
      rw [f0]; exact ⟨_, List.getElem?_eq_getElem (by omega)⟩
    obtain ⟨y1, e1⟩ : ∃ y, DataW.trod enc Try.prog w base spare held k 3 ((cs.drop 1).take 1) = some y := by
      rw [f1]; exact ⟨_, List.getElem?_eq_getElem (by omega)⟩
    obtain ⟨y2, e2⟩ : ∃ y, DataW.trod enc Try.prog w base spare held k 3 ((cs.drop 2).take 1) = some y := by
      rw [f2]; exact ⟨_, List.getElem?_eq_getElem (by omega)⟩
    obtain ⟨y3, e3⟩ : ∃ y, DataW.trod enc Try.prog w base spare held k 4 ((cs.drop 3).take 1) = some y := by
      rw [f3]; exact ⟨_, List.getElem?_eq_getElem (by omega)⟩
    obtain ⟨kd, g0, _, w0⟩ := DataW.trod_int Try.underlying3 e0
    obtain ⟨nn, g1, _, w1⟩ := DataW.trod_int Try.underlying3 e1
    obtain ⟨vv, g2, _, _⟩ := DataW.trod_int Try.underlying3 e2
    obtain ⟨nr, g3, _⟩ := DataW.trod_bool Try.underlying4 e3
    have c0 := (hat 0 (by omega)).trans (head_of g0)
    have c1 := (hat 1 (by omega)).trans (head_of g1)
    have c2 := (hat 2 (by omega)).trans (head_of g2)
    have c3 := (hat 3 (by omega)).trans (head_of g3)
    obtain ⟨b, off, spot⟩ := a
    have hspot : spot = none := by
      obtain ⟨cs', hcs', _⟩ := hi 0 (by rw [hmm]; split <;> omega)
      rw [show Try.prog.cellsOf 48 = 4 by kernel_rfl] at hcs'
      obtain ⟨_, hl', hat'⟩ := World.cells?_some hcs'
      have h0 := (hat' 0 (by omega)).trans (List.getElem?_eq_getElem (by omega))
      simpa [Addr.add] using World.cell?_spot h0
    subst hspot
    have hw0 := i64_of_wf w0
    have hw1 := i64_of_wf w1
    rw [Addr.add_lit, Addr.add_lit] at c0 c1 c2 c3
    exact ⟨b, off, kd, nn, vv, nr, rfl, c0, c1, c2, c3, hw0.1, hw0.2, hw1.1, hw1.2⟩
/-! ### THE ROW's STEP: WRITTEN OUT: LEAVE IT -/
set_option maxRecDepth 100000 in
theorem lifted (os : Os) (started : os.Started) (H : Type) (enc : TypeId × Value → H) :
    ReturnsInHanded {} Try.checked os 4 .any (Rows.orderPlaySpec.pre6 enc Try.prog Try.f4 Rows.orderPlayRow.domain false) (Rows.orderPlaySpec.post enc Try.prog Try.f4 false true false false) := by
  refine returnsInHanded_of_change (C := Try.checked) own started (by kernel_rfl) Try.func4
    (ChangeSpec.witness6 (enc := enc) (C := Try.checked) false ⟨#[], #[.slice none 0 0], []⟩ 8 (by kernel_rfl) (by kernel_rfl) (by kernel_rfl) (by kernel_rfl)) ?_
  intro W base args ds gs before hval0 hW hcnd _
  have hval : ∀ (j : Nat) t v, Try.f4.params[j]? = some t → args[j]? = some v → Value.okWide Try.prog W .any base t v := hval0
  have hW' := hW
  obtain ⟨p, q, hA0, hV, rfl, hfz, hnd⟩ := hW
  have hA : DataW.TrodAll enc Try.prog W 0 (fun _ => true) true Try.f4.params.toList args.toList ds p := hA0
  rw [Try.params4] at hA hval
  obtain ⟨v0, vs0, d0, ds0, p0, q0, hargs, rfl, rfl, h0, r0⟩ := trodAll_cons hA
  obtain ⟨rfl, rfl, rfl⟩ := trodAll_nil r0
  obtain rfl : args = #[v0] := by cases args; simp_all
  obtain ⟨rfl, rfl⟩ := trodVars_none hV
  obtain ⟨a0, len0, cap0, rfl⟩ := okWide_slice Try.underlying41 (hval 0 41 v0 rfl rfl)
  have k0 := h0
  have lt0 : ∀ x ∈ p0, x.block < W.heap.size := by obtain ⟨m, hm⟩ := k0; exact DataW.trod_lt m _ _ _ hm
  obtain ⟨w0, w1⟩ : len0 ≤ maxLen ∧ Script W a0 len0 := by
    obtain ⟨fuel, hf⟩ := h0
    exact script_of hf
  clear hA0 hval0
  unfold maxLen at w0
  refine (f4_any a0 len0 cap0 W (by omega) (Lib.hid w1)).mono fun e W' ⟨he, bel⟩ => ?_
  subst he
  exact ⟨_, rfl, _, _, _, [], _, [], hW', trodAll_mk1 (shut_bool Try.underlying4 _), (trodAll_cons_mk (Below.trod laidOut (by kernel_rfl) (of_decide_eq_true (by kernel_rfl)) k0 bel lt0) trodAll_mk0), rfl, bel.frame _, fun h => by cases h⟩

theorem over : Rows.orderPlayRow.holds Try.pinned (OpenSpec.ofChange Rows.orderPlaySpec) :=
  OpenClaim.holds_of_wide 4 Try.f4 rfl rfl rfl rfl rfl rfl rfl ⟨rfl, rfl, rfl, rfl, rfl⟩ rfl rfl rfl rfl rfl (by kernel_rfl) Try.func4 (by kernel_rfl)
    (of_decide_eq_true (by kernel_rfl)) (by unfold Func.isWrapper; first | (rw [if_pos (by decide +kernel)]; kernel_rfl) | (rw [if_neg (by decide +kernel)]; exact ⟨rfl, rfl⟩))
    (fun os started H enc _ => lifted os started H enc)

/-- ████ THE STATEMENT ████ -/
theorem proved : Rows.OrderPlaySaid := over
#print axioms proved
end Go.Proofs.Ytpmgobiakgffiaa.orderPlay
