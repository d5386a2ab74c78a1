import Derived.Test.YtecijaibbjafoaaDoorLevel
namespace Go.Proofs.YtecijaibbjafoaaDoor
open Go.RowKit
theorem f25_any (n most : Int) (h : 0 ≤ most) (w : World) : Calls Tryd.prog 25 #[.int .i64 n, .int .i64 most] w fun e w' => e = .returned (.int .i64 (nr n most)) ∧ w' = w := by
  unfold nr
  by_cases h1 : n < 0
  · rw [if_pos h1]
    go_enter Tryd.func25, Tryd.ntmps25
    go_wp2
    go_ret
    exact ⟨rfl, rfl⟩
  · rw [if_neg h1]
    by_cases h2 : most < n
    · rw [if_pos h2]
      go_enter Tryd.func25, Tryd.ntmps25
      go_wp2
      go_ret
      exact ⟨rfl, rfl⟩
    · rw [if_neg h2]
      go_enter Tryd.func25, Tryd.ntmps25
      go_wp2
      go_ret
      exact ⟨rfl, rfl⟩
theorem f10_any (b c : Int) (w : World) : Calls Tryd.prog 10 #[.int .i64 b, .int .i64 c] w fun e w' => e = .returned (.int .i64 (rateR b c)) ∧ w' = w := by
  unfold rateR
  obtain ⟨c0, c1⟩ := nr_le c 1099511627776 (by omega)
  obtain ⟨b0, b1⟩ := nr_le b 1099511627776 (by omega)
  have FC := f25_any c 1099511627776 (by omega) w
  have FB := f25_any b 1099511627776 (by omega) w
  obtain ⟨x, hx⟩ : ∃ x, nr c 1099511627776 = x := ⟨_, rfl⟩
  obtain ⟨y, hy⟩ : ∃ y, nr b 1099511627776 = y := ⟨_, rfl⟩
  rw [hx] at FC c0 c1
  rw [hy] at FB b0 b1
  rw [hx, hy]
  have HFC := Lib.hid FC
  have HFB := Lib.hid FB
  clear FC FB hx hy
  by_cases h : x = 0
  · subst h
    rw [if_pos rfl]
    go_enter Tryd.func10, Tryd.ntmps10
    go_wp2_with fail
    refine HFC.out.mono ?_
    rintro e w' ⟨rfl, rfl⟩
    go_wp2_with fail
    go_ret
    exact ⟨rfl, rfl⟩
  · rw [if_neg h]
    have hxb : (x == 0) = false := by simp; exact h
    have hd : (8000 * y).tdiv x = 8000 * y / x := Int.tdiv_eq_ediv_of_nonneg (by omega)
    go_enter Tryd.func10, Tryd.ntmps10
    go_wp2_with fail
    refine HFC.out.mono ?_
    rintro e w' ⟨rfl, rfl⟩
    go_wp2_with fail
    refine HFB.out.mono ?_
    rintro e w' ⟨rfl, rfl⟩
    have h0 : 0 ≤ 8000 * y / x := Int.ediv_nonneg (by omega) c0
    have h1 : 8000 * y / x ≤ 8000 * y := Int.ediv_le_self _ (by omega)
    go_wp2_with fail
    go_ret
    exact ⟨rfl, rfl⟩
def lvK : Nat → Int → Int → Int → Option Int
  | 0, _, _, _ => none
  | k + 1, x5, x6, x7 => if x7 < 62 then (if x6 ≤ x5 then (lvK k (x5 / 2) x6 (x7 + 1)) else (some x7)) else (some x7)
theorem lv_same (wh n : Int) (hw : wh ≤ 4611686018427387904) : ∀ (j : Nat) (c : Int), 0 < c → lvK (j + 1) (wh / c) n (62 - (j : Int)) = some (lvR wh j (n * c)) := by
  intro j
  induction j with
  | zero => intro c hc; unfold lvK; rw [if_neg (by omega)]; simp [lvR]
  | succ j ih =>
    intro c hc
    unfold lvK lvR
    rw [if_pos (by omega)]
    have e1 : n ≤ wh / c ↔ n * c ≤ wh := Int.le_ediv_iff_mul_le hc
    by_cases h1 : wh < n * c
    · rw [if_pos h1, if_neg (by rw [e1]; omega)]
    · rw [if_neg h1, if_pos (by rw [e1]; omega)]
      have e2 : wh / c / 2 = wh / (c * 2) := Int.ediv_ediv_of_nonneg (by omega)
      have e3 : (62 : Int) - ((j + 1 : Nat) : Int) + 1 = 62 - (j : Int) := by omega
      rw [e2, e3, ih (c * 2) (by omega), show n * (c * 2) = n * c * 2 by rw [Int.mul_assoc]]
      by_cases h2 : 4611686018427387903 < n * c
      · rw [if_pos h2]
        cases j with
        | zero => rfl
        | succ j => congr 1; unfold lvR; rw [if_pos (by omega)]
      · rw [if_neg h2]
theorem belowN' {B : Nat} {w W : World} (h : Below B w W) (n : Nat) : Below B w (W.drewN n) := ⟨h.os, h.tape, h.output, h.size, h.block⟩
set_option maxHeartbeats 4000000 in
theorem f8_any (cnt df ws sm sq peak : Int) (w : World) : Calls Tryd.prog 8 #[.agg #[.int .i64 cnt, .int .i64 df, .int .i64 ws, .int .i64 sm, .int .i64 sq], .int .i64 peak] w fun e w' => e = .returned (.int .i64 (levelR cnt sq peak)) ∧ Below w.heap.size w w' := by
  unfold levelR
  obtain ⟨p0, p1⟩ := nr_le peak 65535 (by omega)
  obtain ⟨s0, s1⟩ := nr_le sq 1073741824 (by omega)
  obtain ⟨c0, c1⟩ := nr_le cnt 1073741824 (by omega)
  have HP := Lib.hid (fun w => f25_any peak 65535 (by omega) w)
  have HS := Lib.hid (fun w => f25_any sq 1073741824 (by omega) w)
  have HC := Lib.hid (fun w => f25_any cnt 1073741824 (by omega) w)
  obtain ⟨p, hp⟩ : ∃ x, nr peak 65535 = x := ⟨_, rfl⟩
  obtain ⟨s, hs⟩ : ∃ x, nr sq 1073741824 = x := ⟨_, rfl⟩
  obtain ⟨c, hc⟩ : ∃ x, nr cnt 1073741824 = x := ⟨_, rfl⟩
  rw [hp] at HP p0 p1
  rw [hs] at HS s0 s1
  rw [hc] at HC c0 c1
  rw [hp, hs, hc]
  clear hp hs hc
  have q0 : 0 ≤ p * p := Int.mul_nonneg p0 p0
  have q1 : p * p ≤ 65535 * 65535 := Int.mul_le_mul p1 p1 p0 (by omega)
  obtain ⟨pp, hpp⟩ : ∃ x, p * p = x := ⟨_, rfl⟩
  rw [hpp] at q0 q1
  have r0 : 0 ≤ pp * c := Int.mul_nonneg q0 c0
  have r1 : pp * c ≤ 65535 * 65535 * 1073741824 := Int.mul_le_mul q1 c1 c0 (by omega)
  obtain ⟨wh, hwh⟩ : ∃ x, pp * c = x := ⟨_, rfl⟩
  rw [hwh] at r0 r1
  rw [hpp, hwh]
  obtain ⟨wb, hwb⟩ : ∃ wb, wb = w.alloc (.cells #[.int .i64 cnt, .int .i64 df, .int .i64 ws, .int .i64 sm, .int .i64 sq] 23) := ⟨_, rfl⟩
  have HB : Hid (Below w.heap.size w wb) := by rw [hwb]; exact Lib.hid ((Below.refl _ _).alloc (Nat.le_refl _) _)
  obtain ⟨bx, hbx⟩ : ∃ bx, bx = w.heap.size := ⟨_, rfl⟩
  have hc := heap_alloc_new w (.cells #[.int .i64 cnt, .int .i64 df, .int .i64 ws, .int .i64 sm, .int .i64 sq] 23)
  rw [← hwb, ← hbx] at hc
  have b0 : wb.cell? ⟨bx, 0, none⟩ = some (.int .i64 cnt) := (cell_of_row wb bx 0 _ 23 (0, 0) hc).trans rfl
  have b4 : wb.cell? ⟨bx, 4, none⟩ = some (.int .i64 sq) := (cell_of_row wb bx 4 _ 23 (0, 0) hc).trans rfl
  clear hc
  have HQC : Hid (∀ n, Calls Tryd.prog 25 #[.int .i64 cnt, .int .i64 1073741824] (wb.drewN n) fun e w' => e = .returned (.int .i64 c) ∧ w' = wb.drewN n) := Lib.hid (fun n => HC.out _)
  have HQS : Hid (∀ n, Calls Tryd.prog 25 #[.int .i64 sq, .int .i64 1073741824] (wb.drewN n) fun e w' => e = .returned (.int .i64 s) ∧ w' = wb.drewN n) := Lib.hid (fun n => HS.out _)
  by_cases hs0 : s = 0
  · subst hs0
    rw [if_pos rfl]
    go_enter Tryd.func8, Tryd.ntmps8
    go_wp2_with fail
    refine (HP.out _).mono ?_
    rintro e w' ⟨rfl, rfl⟩
    rw [← hwb, ← hbx]
    clear hwb hbx
    go_wp2_with fail
    go_quiet (first | (go_at_call 25; exact Calls.quiet_of_same (HQC.out _)) | (go_at_call 25; exact Calls.quiet_of_same (HQS.out _)))
    go_wp2
    go_ret
    exact ⟨rfl, belowN' HB.out _⟩
  · rw [if_neg hs0]
    obtain ⟨res, hres⟩ : ∃ x, lvR wh 63 s = x := ⟨_, rfl⟩
    rw [hres]
    have HK : Hid (lvK 64 wh s (-1) = some res) := by
      have h := lv_same wh s (by omega) 63 1 (by omega)
      rw [Int.ediv_one, Int.mul_one, hres] at h
      exact Lib.hid h
    clear hres
    have hsb : (s == 0) = false := by simp; exact hs0
    go_enter Tryd.func8, Tryd.ntmps8
    go_wp2_with fail
    refine (HP.out _).mono ?_
    rintro e w' ⟨rfl, rfl⟩
    rw [← hwb, ← hbx]
    clear hwb hbx
    go_wp2_with fail
    go_quiet (first | (go_at_call 25; exact Calls.quiet_of_same (HQC.out _)) | (go_at_call 25; exact Calls.quiet_of_same (HQS.out _)))
    go_wp2_with fail
    go_loopw [5, 7] (fun v5 v7 wr => ∃ (j : Nat) (most k : Int), v5 = .int .i64 most ∧ v7 = .int .i64 k ∧ j = (63 - k).toNat ∧ 0 ≤ most ∧ most ≤ 9223372036854775807 ∧ -1 ≤ k ∧ k ≤ 62 ∧ Hid (lvK j most s k = some res) ∧ Hid (Below w.heap.size w wr)) (fun _ v7 _ => (62 - intOf v7).toNat)
    case atStart => exact ⟨64, wh, -1, rfl, rfl, by omega, by omega, by omega, by omega, by omega, HK, Lib.hid (belowN' HB.out _)⟩
    case round =>
      obtain ⟨j, most, k, rfl, rfl, hj, hm0, hm1, hk0, hk1, HL, HBr⟩ := hrel
      obtain ⟨i, hi⟩ : ∃ i, j = i + 1 := ⟨j - 1, by omega⟩
      subst hi
      by_cases h1 : k < 62
      · by_cases h2 : s ≤ most
        · have e : lvK (i + 1) most s k = lvK i (most / 2) s (k + 1) := by rw [lvK, if_pos h1, if_pos h2]
          go_wp2_with fail
          go_roundw
          case rel => exact ⟨i, most / 2, k + 1, rfl, rfl, by omega, by omega, by omega, by omega, by omega, Lib.hid (by rw [← e]; exact HL.out), HBr⟩
          case measure => simp [intOf]; omega
        · have e : lvK (i + 1) most s k = some k := by rw [lvK, if_pos h1, if_neg h2]
          go_wp2_with fail
          go_ret
          have h := HL.out
          rw [e] at h
          injection h with h
          exact ⟨by rw [← h]; rfl, HBr.out⟩
      · have e : lvK (i + 1) most s k = some k := by rw [lvK, if_neg h1]
        go_wp2_with fail
        go_ret
        have h := HL.out
        rw [e] at h
        injection h with h
        exact ⟨by rw [← h]; rfl, HBr.out⟩
end Go.Proofs.YtecijaibbjafoaaDoor
