import Derived.Test.YtecijaibbjafoaaDoorProg
import Derived.WalkKit
import Derived.Handy
import Derived.Deep.QuietTactic
import Derived.BigQuiet
import Derived.Outline
import Derived.Lib.Hide
import Derived.Below
import Derived.Deep.LoopGhost
namespace Go.Proofs.YtecijaibbjafoaaDoor
open Go.RowKit
/-- From 0 to most. -/
def nr (n most : Int) : Int := if n < 0 then 0 else if most < n then most else n
theorem nr_le (n most : Int) (h : 0 ≤ most) : 0 ≤ nr n most ∧ nr n most ≤ most := by
  unfold nr
  split
  · omega
  · split <;> omega
theorem f26_any (n most : Int) (w : World) : Calls Tryd.prog 26 #[.int .i64 n, .int .i64 most] w fun e w' => e = .returned (.int .i64 (nr n most)) ∧ w' = w := by
  unfold nr
  by_cases h1 : n < 0
  · rw [if_pos h1]
    go_enter Tryd.func26, Tryd.ntmps26
    go_wp2
    go_ret
    exact ⟨rfl, rfl⟩
  · rw [if_neg h1]
    by_cases h2 : most < n
    · rw [if_pos h2]
      go_enter Tryd.func26, Tryd.ntmps26
      go_wp2
      go_ret
      exact ⟨rfl, rfl⟩
    · rw [if_neg h2]
      go_enter Tryd.func26, Tryd.ntmps26
      go_wp2
      go_ret
      exact ⟨rfl, rfl⟩
def rateR (b c : Int) : Int := if nr c 1099511627776 = 0 then 0 else 8000 * nr b 1099511627776 / nr c 1099511627776
theorem f11_any (b c : Int) (w : World) : Calls Tryd.prog 11 #[.int .i64 b, .int .i64 c] w fun e w' => e = .returned (.int .i64 (rateR b c)) ∧ w' = w := by
  unfold rateR
  obtain ⟨c0, c1⟩ := nr_le c 1099511627776 (by omega)
  obtain ⟨b0, b1⟩ := nr_le b 1099511627776 (by omega)
  have FC := f26_any c 1099511627776 w
  have FB := f26_any b 1099511627776 w
  obtain ⟨x, hx⟩ : ∃ x, nr c 1099511627776 = x := ⟨_, rfl⟩
  obtain ⟨y, hy⟩ : ∃ y, nr b 1099511627776 = y := ⟨_, rfl⟩
  rw [hx] at FC c0 c1
  rw [hy] at FB b0 b1
  rw [hx, hy]
  have HFC := Lib.hid FC
  have HFB := Lib.hid FB
  clear FC FB hx hy
  by_cases h : x = 0
  · subst h
    rw [if_pos rfl]
    go_enter Tryd.func11, Tryd.ntmps11
    go_wp2_with fail
    refine HFC.out.mono ?_
    rintro e w' ⟨rfl, rfl⟩
    go_wp2_with fail
    go_ret
    exact ⟨rfl, rfl⟩
  · rw [if_neg h]
    have hxb : (x == 0) = false := by simp; exact h
    have hd : (8000 * y).tdiv x = 8000 * y / x := Int.tdiv_eq_ediv_of_nonneg (by omega)
    go_enter Tryd.func11, Tryd.ntmps11
    go_wp2_with fail
    refine HFC.out.mono ?_
    rintro e w' ⟨rfl, rfl⟩
    go_wp2_with fail
    refine HFB.out.mono ?_
    rintro e w' ⟨rfl, rfl⟩
    have h0 : 0 ≤ 8000 * y / x := Int.ediv_nonneg (by omega) c0
    have h1 : 8000 * y / x ≤ 8000 * y := Int.ediv_le_self _ (by omega)
    go_wp2_with fail
    go_ret
    exact ⟨rfl, rfl⟩
/-- The reference's level: j rounds are left, k is 62 - j. -/
def lvR (whole : Int) : Nat → Int → Int
  | 0, _ => 62
  | j + 1, s => if whole < s then 62 - ((j + 1 : Nat) : Int) else if 4611686018427387903 < s then 62 - (j : Int) else lvR whole j (s * 2)
def levelR (cnt sq peak : Int) : Int := if nr sq 1073741824 = 0 then 63 else lvR (nr peak 65535 * nr peak 65535 * nr cnt 1073741824) 63 (nr sq 1073741824)
set_option maxHeartbeats 4000000 in
theorem f9_any (cnt df ws sm sq peak : Int) (w : World) : Calls Tryd.prog 9 #[.agg #[.int .i64 cnt, .int .i64 df, .int .i64 ws, .int .i64 sm, .int .i64 sq], .int .i64 peak] w fun e w' => e = .returned (.int .i64 (levelR cnt sq peak)) ∧ Below w.heap.size w w' := by
  unfold levelR
  obtain ⟨p0, p1⟩ := nr_le peak 65535 (by omega)
  obtain ⟨s0, s1⟩ := nr_le sq 1073741824 (by omega)
  obtain ⟨c0, c1⟩ := nr_le cnt 1073741824 (by omega)
  have HP := Lib.hid (fun w => f26_any peak 65535 w)
  have HS := Lib.hid (fun w => f26_any sq 1073741824 w)
  have HC := Lib.hid (fun w => f26_any cnt 1073741824 w)
  obtain ⟨p, hp⟩ : ∃ x, nr peak 65535 = x := ⟨_, rfl⟩
  obtain ⟨s, hs⟩ : ∃ x, nr sq 1073741824 = x := ⟨_, rfl⟩
  obtain ⟨c, hc⟩ : ∃ x, nr cnt 1073741824 = x := ⟨_, rfl⟩
  rw [hp] at HP p0 p1
  rw [hs] at HS s0 s1
  rw [hc] at HC c0 c1
  rw [hp, hs, hc]
  clear hp hs hc
  have q0 : 0 ≤ p * p := Int.mul_nonneg p0 p0
  have q1 : p * p ≤ 65535 * 65535 := Int.mul_le_mul p1 p1 p0 (by omega)
  obtain ⟨pp, hpp⟩ : ∃ x, p * p = x := ⟨_, rfl⟩
  rw [hpp] at q0 q1
  have r0 : 0 ≤ pp * c := Int.mul_nonneg q0 c0
  have r1 : pp * c ≤ 65535 * 65535 * 1073741824 := Int.mul_le_mul q1 c1 c0 (by omega)
  obtain ⟨wh, hwh⟩ : ∃ x, pp * c = x := ⟨_, rfl⟩
  rw [hwh] at r0 r1
  rw [hpp, hwh]
  by_cases hs0 : s = 0
  · subst hs0
    rw [if_pos rfl]
    go_enter Tryd.func9, Tryd.ntmps9
    go_wp2_with fail
    refine (HP.out _).mono ?_
    rintro e w' ⟨rfl, rfl⟩
    go_wp2_with fail
    refine (HS.out _).mono ?_
    rintro e w' ⟨rfl, rfl⟩
    go_wp2_with fail
    go_ret
    exact ⟨rfl, (Below.refl _ _).alloc (Nat.le_refl _) _⟩
  · rw [if_neg hs0]
    obtain ⟨res, hres⟩ : ∃ x, lvR wh 63 s = x := ⟨_, rfl⟩
    rw [hres]
    have HRES := Lib.hid hres
    clear hres
    go_enter Tryd.func9, Tryd.ntmps9
    go_wp2_with fail
    refine (HP.out _).mono ?_
    rintro e w' ⟨rfl, rfl⟩
    go_wp2_with fail
    refine (HS.out _).mono ?_
    rintro e w' ⟨rfl, rfl⟩
    have hsb : (s == 0) = false := by simp; exact hs0
    go_wp2_with fail
    refine (HC.out _).mono ?_
    rintro e w' ⟨rfl, rfl⟩
    go_wp2_with fail
    obtain ⟨wb, hwb⟩ : ∃ wb, wb = w.alloc (.cells #[.int .i64 cnt, .int .i64 df, .int .i64 ws, .int .i64 sm, .int .i64 sq] 23) := ⟨_, rfl⟩
    have HB : Hid (Below w.heap.size w wb) := by rw [hwb]; exact Lib.hid ((Below.refl _ _).alloc (Nat.le_refl _) _)
    rw [← hwb]
    clear hwb
    go_loopw [6, 8] (fun v6 v8 wr => ∃ (j : Nat) (s' : Int), v6 = .int .i64 s' ∧ v8 = .int .i64 (62 - (j : Int)) ∧ j ≤ 63 ∧ 1 ≤ s' ∧ s' ≤ 9223372036854775806 ∧ Hid (lvR wh j s' = res) ∧ wr = wb) (fun _ v8 _ => (62 - intOf v8).toNat)
    case atStart => exact ⟨63, s, rfl, rfl, by omega, by omega, by omega, HRES, rfl⟩
    case round =>
      obtain ⟨j, s', rfl, rfl, hj, hs1, hs2, HL, rfl⟩ := hrel
      by_cases h1 : wh < s'
      · cases j with
        | zero =>
          have e : lvR wh 0 s' = 62 := rfl
          have h2 : (62 : Int) - ((0 : Nat) : Int) = 62 := by omega
          go_wp2_with fail
          go_ret
          exact ⟨by rw [← HL.out, e]; rfl, HB.out⟩
        | succ j =>
          have e : lvR wh (j + 1) s' = 62 - ((j + 1 : Nat) : Int) := if_pos h1
          obtain ⟨k, hk⟩ : ∃ k : Int, 62 - ((j + 1 : Nat) : Int) = k := ⟨_, rfl⟩
          have HK := Lib.hid hk
          have hk2 : (k == 62) = false := by simp; omega
          have hk3 : ¬ k = 62 := by omega
          rw [hk]
          clear hk
          go_wp2_with fail
          go_ret
          exact ⟨by rw [← HL.out, e, HK.out]; rfl, HB.out⟩
      · cases j with
        | zero =>
          have e : lvR wh 0 s' = 62 := rfl
          have h2 : (62 : Int) - ((0 : Nat) : Int) = 62 := by omega
          go_wp2_with fail
          go_ret
          exact ⟨by rw [← HL.out, e]; rfl, HB.out⟩
        | succ j =>
          obtain ⟨k, hk⟩ : ∃ k : Int, 62 - ((j + 1 : Nat) : Int) = k := ⟨_, rfl⟩
          have HK := Lib.hid hk
          have hk2 : (k == 62) = false := by simp; omega
          have hk3 : ¬ k = 62 := by omega
          have hk4 : -1 ≤ k ∧ k ≤ 61 := by omega
          rw [hk]
          clear hk
          by_cases h3 : 4611686018427387903 < s'
          · have e : lvR wh (j + 1) s' = 62 - (j : Int) := by unfold lvR; rw [if_neg h1, if_pos h3]
            go_wp2_with fail
            go_ret
            exact ⟨by rw [← HL.out, e]; have := HK.out; congr 2; omega, HB.out⟩
          · have e : lvR wh (j + 1) s' = lvR wh j (s' * 2) := by rw [lvR, if_neg h1, if_neg h3]
            go_wp2_with fail
            go_roundw
            case rel => exact ⟨j, s' * 2, rfl, by have := HK.out; congr 1; omega, by omega, by omega, by omega, Lib.hid (by rw [← e]; exact HL.out), trivial⟩
            case measure => have := HK.out; simp [intOf]; omega
end Go.Proofs.YtecijaibbjafoaaDoor
