import Derived.Test.YtpmgobiakgffiaaProg
import Derived.Test.YtpmgobiakgffiaaIns
import Derived.Test.YtpmgobiakgffiaaDel
import Derived.Test.YtpmgobiakgffiaaFr
import Derived.Test.YtpmgobiakgffiaaSame
import Derived.Test.YtpmgobiakgffiaaFind
import Derived.WalkKit
import Derived.Handy
import Derived.Deep.QuietTactic
import Derived.BigQuiet
import Derived.WalkSpells
import Derived.WalkLawsBesides
import Derived.Outline
import Derived.Lib.Hide
import Derived.Deep.DeepFit
import Derived.StillTailTactics
import Derived.Deep.RegionHeld3
import Derived.Deep.RegionWith
namespace Go.Proofs.Ytpmgobiakgffiaa
open Go.RowKit
theorem f37_zero (A : Option Addr) (cap : Nat) (t : Int) (w : World) : Calls Try.prog 37 #[.slice A 0 cap, .int .i64 t, .func (.func 38) #[] #[]] w fun e w' => e = .returned (.tuple #[.int .i64 0, .bool false]) ∧ w' = w := by
  go_enter Try.func37, Try.ntmps37
  go_wp2
  refine wp_loop_rounds 1 ?_
  rw [rounds_succ]
  go_wp2
  go_ret2
  exact ⟨rfl, rfl⟩
/-- BinarySearchFunc over a row, nil let in. -/
theorem f37_row (B : Nat) (v : Value) (t : Int) (xs : List It) (w : World) (ht : 0 ≤ t ∧ t ≤ 9223372036854775807) (hx : Hid (Rising xs)) (hn : xs.length ≤ 1000) (hr : Hid (Rw w B v xs)) :
    Calls Try.prog 37 #[v, .int .i64 t, .func (.func 38) #[] #[]] w fun e w' => ∃ (r : Nat) (b : Bool), e = .returned (.tuple #[.int .i64 r, .bool b]) ∧ Found xs t r b ∧ Below w.heap.size w w' := by
  rcases hr.out.form with ⟨rfl, rfl⟩ | ⟨g, c, rfl, _, _, hc, _⟩
  · refine (f37_zero none 0 t w).mono ?_
    rintro e w' ⟨rfl, rfl⟩
    exact ⟨0, false, rfl, ⟨Nat.le_refl _, fun i h => by omega, fun i _ h => by simp at h, by simp⟩, Below.refl _ _⟩
  · exact f37_any B g xs.length c t xs w (Lib.hid rfl) ht hx hn hr.out
theorem f29_any (B q : Nat) (v : Value) (t : Int) (xs : List It) (w : World) (c1 : w.cell? ⟨q, 1, none⟩ = some v) (ht : 0 ≤ t ∧ t ≤ 9223372036854775807) (hx : Hid (Rising xs)) (hn : xs.length ≤ 1000) (hr : Hid (Rw w B v xs)) :
    Calls Try.prog 29 #[.pointer (some ⟨q, 0, none⟩), .int .i64 t] w fun e w' => ∃ (r : Nat) (b : Bool), e = .returned (.tuple #[.int .i64 r, .bool b]) ∧ Found xs t r b ∧ Below w.heap.size w w' := by
  go_enter Try.func29, Try.ntmps29
  go_wp2_with (go_at_call 37; refine (f37_row B _ _ xs _ ht hx hn hr).mono ?_; rintro e w' ⟨r, b, rfl, hf, hb⟩)
  have HF := Lib.hid hf
  clear hf
  go_wp2
  go_ret2
  exact ⟨r, b, rfl, HF.out, hb⟩
end Go.Proofs.Ytpmgobiakgffiaa
