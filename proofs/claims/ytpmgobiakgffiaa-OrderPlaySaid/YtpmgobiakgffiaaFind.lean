import Derived.Test.YtpmgobiakgffiaaProg
import Derived.Test.YtpmgobiakgffiaaKit
import Derived.WalkKit
import Derived.Handy
import Derived.Deep.QuietTactic
import Derived.BigQuiet
import Derived.WalkSpells
import Derived.WalkLawsBesides
import Derived.Outline
import Derived.Lib.Hide
import Derived.Deep.DeepFit
namespace Go.Proofs.Ytpmgobiakgffiaa
open Go.RowKit
theorem f38_any (n t : Int) (c1 c2 c3 c4 c5 c6 c7 c8 c9 : Value) (w : World) (h : -9223372036854775808 ≤ n - t ∧ n - t ≤ 9223372036854775807): Calls Try.prog 38 #[.agg #[.int .i64 n, c1, c2, c3, c4, c5, c6, c7, c8, c9], .int .i64 t] w fun e w' => e = .returned (.int .i64 (n - t)) ∧ w' = w.alloc (.cells #[.int .i64 n, c1, c2, c3, c4, c5, c6, c7, c8, c9] 78) := by
  go_enter Try.func38, Try.ntmps38
  go_wp2
  go_ret
  exact ⟨rfl, rfl⟩
set_option maxHeartbeats 400000 in
theorem f37_any (B g n cap : Nat) (t : Int) (xs : List It) (w : World) (hl : Hid (xs.length = n)) (ht : 0 ≤ t ∧ t ≤ 9223372036854775807) (hx : Hid (Rising xs))
   (hn : n ≤ 1000) (hr : Rw w B (.slice (some ⟨g, 0, none⟩) n cap) xs) : Calls Try.prog 37 #[.slice (some ⟨g, 0, none⟩) n cap, .int .i64 t, .func (.func 38) #[] #[]] w fun e w' => ∃ (r : Nat) (b : Bool), e = .returned (.tuple #[.int .i64 r, .bool b]) ∧ Found xs t r b ∧ Below w.heap.size w w' := by
  have HR := Lib.hid hr; clear hr
  go_enter Try.func37, Try.ntmps37
  go_wp2
  go_loopw [9, 10] (fun v9 v10 wr => ∃ i j : Nat, v9 = .int .i64 i ∧ v10 = .int .i64 j ∧ i ≤ j ∧ j ≤ n ∧ Hid (∀ k, k < i → k < xs.length → (nth xs k).n < t) ∧ Hid (∀ k, j ≤ k → k < xs.length → t ≤ (nth xs k).n) ∧ Below w.heap.size w wr) (fun v9 v10 _ => (intOf v10 - intOf v9).toNat)
  case atStart => exact ⟨0, n, rfl, rfl, by omega, by omega, Lib.hid (fun k h => by omega), Lib.hid (fun k h h2 => by have := hl.out; omega), Below.refl _ _⟩
  case round =>
    obtain ⟨i, j, rfl, rfl, hij, hjn, H1, H2, hb⟩ := hrel
    by_cases hlt : i < j
    · obtain ⟨h, hh⟩ : ∃ h : Nat, (i + j) / 2 = h := ⟨_, rfl⟩
      have hhi : i ≤ h ∧ h < j := by omega
      have hhl : h < xs.length := by have := hl.out; omega
      obtain ⟨c1, c2, c3, c4, c5, c6, c7, c8, c9, hca, k0, k1, k2, k3, k4, k5, k6, k7, k8, k9⟩ := (HR.out.below hb).item h hhl
      have HN := Lib.hid (hx.out.1 h hhl)
      obtain ⟨m, hm⟩ : ∃ m, (nth xs h).n = m := ⟨_, rfl⟩
      rw [hm] at k0 HN
      have HM := Lib.hid hm
      clear hm hca hhl
      obtain ⟨hm0, hm1⟩ := HN.out
      by_cases hlt2 : m < t
      · have hd : decide (m - t < 0) = true := by simp; omega
        go_wp2_with (go_at_call 38; refine (f38_any _ _ _ _ _ _ _ _ _ _ _ _ (by omega)).mono ?_; rintro e w' ⟨rfl, rfl⟩)
        go_roundw
        case rel => exact ⟨h + 1, j, by go_num, rfl, by omega, by omega, Lib.hid (found_up hx.out HM.out hlt2 H1.out (by have := hl.out; omega)), H2, hb.alloc hb.size _⟩
        case measure => simp [intOf]; omega
      · have hd : decide (m - t < 0) = false := by simp; omega
        go_wp2_with (go_at_call 38; refine (f38_any _ _ _ _ _ _ _ _ _ _ _ _ (by omega)).mono ?_; rintro e w' ⟨rfl, rfl⟩)
        go_roundw
        case rel => exact ⟨i, h, rfl, by go_num, by omega, by omega, H1, Lib.hid (found_down hx.out HM.out (by omega)), hb.alloc hb.size _⟩
        case measure => simp [intOf]; omega
    · obtain rfl : i = j := by omega
      by_cases hin : i < n
      · have hhl : i < xs.length := by have := hl.out; omega
        obtain ⟨c1, c2, c3, c4, c5, c6, c7, c8, c9, hca, k0, k1, k2, k3, k4, k5, k6, k7, k8, k9⟩ := (HR.out.below hb).item i hhl
        have HN := Lib.hid (hx.out.1 i hhl)
        obtain ⟨m, hm⟩ : ∃ m, (nth xs i).n = m := ⟨_, rfl⟩
        rw [hm] at k0 HN
        have HM := Lib.hid hm
        clear hm hca hhl
        obtain ⟨hm0, hm1⟩ := HN.out
        go_wp2_with (go_at_call 38; refine (f38_any _ _ _ _ _ _ _ _ _ _ _ _ (by omega)).mono ?_; rintro e w' ⟨rfl, rfl⟩)
        go_ret2
        exact ⟨i, m - t == 0, rfl, found_at HM.out (by have := hl.out; omega) H1.out H2.out, hb.alloc hb.size _⟩
      · obtain rfl : i = n := by omega
        go_wp2
        go_ret2
        exact ⟨i, false, rfl, found_end hl.out H1.out, hb⟩
end Go.Proofs.Ytpmgobiakgffiaa
