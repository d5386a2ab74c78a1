import Derived.Test.YtpmgobiakgffiaaProg
import Derived.Test.YtpmgobiakgffiaaIns
import Derived.Test.YtpmgobiakgffiaaDel
import Derived.Test.YtpmgobiakgffiaaFr
import Derived.Test.YtpmgobiakgffiaaSame
import Derived.Test.YtpmgobiakgffiaaQ2
import Derived.Test.YtpmgobiakgffiaaSmall
import Derived.WalkKit
import Derived.Handy
import Derived.Deep.QuietTactic
import Derived.BigQuiet
import Derived.WalkSpells
import Derived.WalkLawsBesides
import Derived.Outline
import Derived.Lib.Hide
import Derived.Deep.DeepFit
import Derived.StillTailTactics
import Derived.Deep.RegionHeld3
import Derived.Deep.RegionWith
namespace Go.Proofs.Ytpmgobiakgffiaa
open Go.RowKit
set_option maxHeartbeats 1000000 in
set_option maxRecDepth 100000 in
theorem f11_back (B q lo : Nat) (next n a b c : Int) (ms : List M) (f : Array Value) (w : World) (hq : Hid (QS w B q next ms)) (hf : Hid (Fr w lo f a b c))
    (h1 : n < next) : Calls Try.prog 11 #[.pointer (some ⟨q, 0, none⟩), .int .i64 n, .agg f] w fun e w' => e = .returned (.int .i64 251) ∧ Below w.heap.size w w' := by
  obtain ⟨v, xs, hh, hrw, hall⟩ := hq.out.out
  obtain ⟨p0, c0, p1, c1, p2, c2, rfl, k0, k1, k2⟩ := hf.out
  clear hrw hall k0 k1 k2
  have HH := Lib.hid hh; clear hh
  have hqw : q < w.heap.size := (Array.getElem?_eq_some_iff.1 HH.out).1
  have e0 : w.cell? ⟨q, 0, none⟩ = some (.int .i64 next) := (cell_of_row w q 0 _ 73 (0, 0) HH.out).trans rfl
  unfold fr9
  go_enter Try.func11, Try.ntmps11
  go_wp2
  go_ret
  exact ⟨rfl, by go_grown⟩
set_option maxHeartbeats 1000000 in
set_option maxRecDepth 100000 in
theorem f11_far (B q lo : Nat) (next n a b c : Int) (ms : List M) (f : Array Value) (w : World) (hq : Hid (QS w B q next ms)) (hf : Hid (Fr w lo f a b c))
    (h1 : next + 8 < n) (h2 : n ≤ 9223372036854775807) : Calls Try.prog 11 #[.pointer (some ⟨q, 0, none⟩), .int .i64 n, .agg f] w fun e w' => e = .returned (.int .i64 260) ∧ Below w.heap.size w w' := by
  obtain ⟨v, xs, hh, hrw, hall⟩ := hq.out.out
  obtain ⟨hn0, hn1, _, _⟩ := hq.out.good
  obtain ⟨p0, c0, p1, c1, p2, c2, rfl, k0, k1, k2⟩ := hf.out
  clear hrw hall k0 k1 k2
  have HH := Lib.hid hh; clear hh
  have hqw : q < w.heap.size := (Array.getElem?_eq_some_iff.1 HH.out).1
  have e0 : w.cell? ⟨q, 0, none⟩ = some (.int .i64 next) := (cell_of_row w q 0 _ 73 (0, 0) HH.out).trans rfl
  have h3 : next ≤ n := by omega
  have h4 : 8 < n - next := by omega
  have h5 : 0 ≤ n - next := by omega
  have h6 : n - next ≤ 9223372036854775807 := by omega
  unfold fr9
  go_enter Try.func11, Try.ntmps11
  go_wp2
  go_ret
  exact ⟨rfl, by go_grown⟩
set_option maxHeartbeats 1000000 in
set_option maxRecDepth 100000 in
theorem f11_nil (lo : Nat) (n a b c : Int) (f : Array Value) (w : World) (hf : Hid (Fr w lo f a b c)) : Calls Try.prog 11 #[.pointer none, .int .i64 n, .agg f] w fun e w' => e = .returned (.int .i64 1) ∧ Below w.heap.size w w' := by
  obtain ⟨p0, c0, p1, c1, p2, c2, rfl, k0, k1, k2⟩ := hf.out
  clear k0 k1 k2
  unfold fr9
  go_enter Try.func11, Try.ntmps11
  go_wp2
  go_ret
  exact ⟨rfl, by go_grown⟩
end Go.Proofs.Ytpmgobiakgffiaa
