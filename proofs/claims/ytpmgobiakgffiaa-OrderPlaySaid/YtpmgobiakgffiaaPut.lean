import Derived.Test.YtpmgobiakgffiaaProg
import Derived.Test.YtpmgobiakgffiaaIns
import Derived.Test.YtpmgobiakgffiaaDel
import Derived.Test.YtpmgobiakgffiaaFr
import Derived.Test.YtpmgobiakgffiaaSame
import Derived.Test.YtpmgobiakgffiaaQ2
import Derived.Test.YtpmgobiakgffiaaSmall
import Derived.WalkKit
import Derived.Handy
import Derived.Deep.QuietTactic
import Derived.BigQuiet
import Derived.WalkSpells
import Derived.WalkLawsBesides
import Derived.Outline
import Derived.Lib.Hide
import Derived.Deep.DeepFit
import Derived.StillTailTactics
import Derived.Deep.RegionHeld3
import Derived.Deep.RegionWith
namespace Go.Proofs.Ytpmgobiakgffiaa
open Go.RowKit
theorem f30_call (B : Nat) (v : Value) (n i : Nat) (xs : List It) (x : It) (vb : Nat) (w : World) (hB : B ≤ w.heap.size) (hl : Hid (xs.length = n)) (hn : n ≤ 1000) (hin : i ≤ n)
    (hr : Hid (Rw w B v xs)) (hv : Hid (w.heap[vb]? = some (.cells x.cells.toArray 78 (0, 0)))) (hne : v.ownBlock ≠ some vb) (h1 : Hid (∀ u ∈ flat (x :: xs), u.oneCell' = true)) :
    Calls Try.prog 30 #[v, .int .i64 i, .slice (some ⟨vb, 0, none⟩) 1 1] w fun e w' => ∃ g c, e = .returned (.slice (some ⟨g, 0, none⟩) (n + 1) c) ∧ Hid (Rw w' B (.slice (some ⟨g, 0, none⟩) (n + 1) c) (xs.take i ++ x :: xs.drop i)) ∧ Hid (w.grownBy w' v.ownBlock) := by
  refine (f30_any B v n i xs x vb w hB hl hn hin hr hv hne h1).mono ?_
  rintro e w' ⟨v', rfl, hr', hg⟩
  rcases hr'.form with ⟨_, h0⟩ | ⟨g, c, rfl, _⟩
  · simp at h0
  · have e : (xs.take i ++ x :: xs.drop i).length = n + 1 := by simp [hl.out]; omega
    rw [e] at hr' ⊢
    exact ⟨g, c, rfl, hr', hg⟩
theorem f31_call (v : Array Value) (lo : Nat) (a b c : Int) (w : World) (hf : Hid (Fr w lo v a b c)) :
    Calls Try.prog 31 #[.agg v] w fun e w' => ∃ p0 c0 p1 c1 p2 c2, e = .returned (.agg (fr9 p0 c0 p1 c1 p2 c2)) ∧ Hid (Fr w' w.heap.size (fr9 p0 c0 p1 c1 p2 c2) a b c) ∧ Hid (Below w.heap.size w w') := by
  refine (f31_any v lo a b c w hf.out).mono ?_
  rintro e w' ⟨v', rfl, hr', hg⟩
  obtain ⟨p0, c0, p1, c1, p2, c2, rfl, h⟩ := hr'
  exact ⟨p0, c0, p1, c1, p2, c2, rfl, ⟨p0, c0, p1, c1, p2, c2, rfl, h⟩, hg⟩
theorem cells_grown {W w1 : World} {r : Option Nat} (h : Hid (W.grownBy w1 r)) (b : Nat) (hb : b < W.heap.size) (hr : some b ≠ r) : ∀ o, w1.cell? ⟨b, o, none⟩ = W.cell? ⟨b, o, none⟩ := fun o =>
  World.cell?_of_block (w := W) (w' := w1) (a := ⟨b, o, none⟩) (h.out.block b hb hr)
theorem froz_grown {w w2 w3 : World} {o : Obj} {r : Option Nat} {q : Nat} {cs : Array Value} (h : Hid ((w2.alloc o).grownBy w3 r)) (hb : Hid (Below w.heap.size w w2)) (hq : Hid (w.heap[q]? = some (.cells cs 73 (0, 0)))) (hlt : q < (w2.alloc o).heap.size) (hr : some q ≠ r) : w3.frozen? ⟨q, 1, none⟩ = false := by
  have hqw : q < w.heap.size := (Array.getElem?_eq_some_iff.1 hq.out).1
  have e : w3.heap[q]? = some (.cells cs 73 (0, 0)) := (h.out.block q hlt hr).trans ((Below.heap_alloc w2 o q (by have := hb.out.size; omega)).trans ((hb.out.block q hqw).trans hq.out))
  simp [World.frozen?, e]
set_option maxHeartbeats 4000000 in
set_option maxRecDepth 100000 in
theorem f11_okx (xs : List It) (B q lo : Nat) (next n a b c : Int) (ms : List M) (f : Array Value) (w : World) (hB : B ≤ w.heap.size) (hq : Hid (QSx w B q next ms xs)) (hf : Hid (Fr w lo f a b c))
    (h1 : next ≤ n) (h2 : n ≤ next + 8) (h3 : n ≤ 9223372036854775807) :
    Calls Try.prog 11 #[.pointer (some ⟨q, 0, none⟩), .int .i64 n, .agg f] w (PutPostX B q next n a b c ms xs w) := by
  obtain ⟨v, hh, hrw, hall⟩ := hq.out.out
  obtain ⟨hn0, hn1, _, _⟩ := hq.out.good
  obtain ⟨p0, c0, p1, c1, p2, c2, rfl, k0, k1, k2⟩ := hf.out
  have HV0 := Lib.hid k0; have HV1 := Lib.hid k1; have HV2 := Lib.hid k2
  clear k0 k1 k2
  have HH := Lib.hid hh; have HRW := Lib.hid hrw; have HALL := Lib.hid hall
  clear hh hrw hall
  have hqw : q < w.heap.size := (Array.getElem?_eq_some_iff.1 HH.out).1
  have e0 : w.cell? ⟨q, 0, none⟩ = some (.int .i64 next) := (cell_of_row w q 0 _ 73 (0, 0) HH.out).trans rfl
  have e1 : w.cell? ⟨q, 1, none⟩ = some v := (cell_of_row w q 1 _ 73 (0, 0) HH.out).trans rfl
  unfold fr9
  have hlen : xs.length ≤ 9 := by rw [HALL.out.length]; exact good_len hq.out.good
  go_enter Try.func11, Try.ntmps11
  go_wp2_with fail
  refine (f29_any B q v n xs _ ?_ ⟨by omega, by omega⟩ (Lib.hid (QS.rising HALL.out hq.out.good)) (by omega) (Lib.hid (HRW.out.below (by go_grown)))).mono ?_
  · exact cell_later (by go_grown) e1
  rintro e w1 ⟨r, bo, rfl, hfo, hb1⟩
  have HF := Lib.hid hfo; clear hfo
  have hz0 : w.heap.size < w1.heap.size := by have := hb1.size; simp at this; omega
  have hqw1 : q < w1.heap.size := by omega
  obtain ⟨hc1, hf1⟩ := bcell hb1
  have HB1 := Lib.hid hb1; clear hb1
  cases bo with
  | true =>
    go_wp2
    go_ret
    exact put_twicex hq HALL HF hB (below_up (by go_grown) HB1.out)
  | false =>
    go_wp2_with fail
    have ev1 : w1.cell? ⟨q, 1, none⟩ = some v := (hc1 q 1 (by simp; omega)).trans (cell_later (by go_grown) e1)
    have HF1 : Hid (Fr w1 lo (fr9 p0 c0 p1 c1 p2 c2) a b c) := Lib.hid (hf.out.nums ((Nums.below (by go_grown)).trans (Nums.below HB1.out)))
    go_region_with (first | (go_at_call 31; refine (f31_call (fr9 p0 c0 p1 c1 p2 c2) lo a b c _ ?_).mono ?_; exact HF1; rintro e w2 ⟨g0, k0, g1, k1, g2, k2, rfl, HF2, HB2⟩; obtain ⟨hc2, hf2⟩ := bcellD HB2.out; have za2 : q < w2.heap.size := Nat.lt_of_lt_of_le hqw1 HB2.out.size; have zb2 : w.heap.size < w2.heap.size := Nat.lt_of_lt_of_le hz0 HB2.out.size; have HBW : Hid (Below w.heap.size w w2) := Lib.hid (below_up (below_drew (below_up (by go_grown) HB1.out)) HB2.out); unfold fr9) | (go_at_call 30; refine (f30_call B v xs.length r xs ⟨n, .int .i64 1, .int .i64 1, .slice (some ⟨g0, 0, none⟩) 1 k0, .int .i64 1, .int .i64 1, .slice (some ⟨g1, 0, none⟩) 1 k1, .int .i64 1, .int .i64 1, .slice (some ⟨g2, 0, none⟩) 1 k2⟩ w2.heap.size _ ?d1 ?d2 ?d3 ?d4 ?d5 ?d6 ?d7 ?d8).mono ?_; (case d1 => exact Nat.le_trans hB (by have := HBW.out.size; simp; omega)); (case d2 => exact Lib.hid rfl); (case d3 => omega); (case d4 => exact HF.out.1); (case d5 => exact Lib.hid (HRW.out.below (by first | exact HBW.out | exact below_drew HBW.out | exact (HBW.out.alloc HBW.out.size _) | exact below_drew (HBW.out.alloc HBW.out.size _)))); (case d6 => exact Lib.hid (blk_at _ _ _ rfl)); (case d7 => exact own_far HRW HBW); (case d8 => exact Lib.hid (ones_cons (n := n) HALL.out HF2.out)); rintro e w3 ⟨gr, cr, rfl, HRW3, HG3⟩; have hc3 := cells_grown HG3 q (by simp; omega) (own_ne73 HRW HH); have hd3 := cells_grown HG3 w.heap.size (by simp; omega) (own_ge HRW); have hz3 : w3.frozen? ⟨q, 1, none⟩ = false := froz_grown HG3 HBW HH (by simp; omega) (own_ne73 HRW HH)))
    all_goals (go_wp2; go_ret; exact put_donex hB (Lib.hid hq.out.qs) HH HRW HALL HF h1 h2 h3 HBW (Nat.le_of_lt hz0) HF2 HG3 HRW3)
theorem f11_ok (B q lo : Nat) (next n a b c : Int) (ms : List M) (f : Array Value) (w : World) (hB : B ≤ w.heap.size) (hq : Hid (QS w B q next ms)) (hf : Hid (Fr w lo f a b c))
    (h1 : next ≤ n) (h2 : n ≤ next + 8) (h3 : n ≤ 9223372036854775807) :
    Calls Try.prog 11 #[.pointer (some ⟨q, 0, none⟩), .int .i64 n, .agg f] w (PutPost B q next n a b c ms w) := by
  obtain ⟨xs, hx⟩ := hq.out.x
  exact (f11_okx xs B q lo next n a b c ms f w hB (Lib.hid hx) hf h1 h2 h3).mono fun _ _ h => h.put
end Go.Proofs.Ytpmgobiakgffiaa
