import Derived.Test.YtecijaibbjafoaaDoorProg
import Derived.Lib.ItoaNum
import Derived.WalkKit
import Derived.Handy
import Derived.Deep.QuietTactic
import Derived.BigQuiet
import Derived.Outline
import Derived.Lib.Hide
import Derived.Below
namespace Go.Proofs.YtecijaibbjafoaaDoor
open Go.RowKit
theorem digits_step (m : Nat) (h : ¬ m < 10) (s : List UInt8) : Lib.decDigits (m / 10) ++ (UInt8.ofNat (48 + m % 10) :: s) = Lib.decDigits m ++ s := by
  rw [show Lib.decDigits m = Lib.decDigits (m / 10) ++ [UInt8.ofNat (48 + m % 10)] by rw [Lib.decDigits, dif_neg h]]
  simp
theorem digit_at (w : World) (d : Nat) (hd : d ≤ 9) : (Instr.slice 9 (.string { data := #[48, 49, 50, 51, 52, 53, 54, 55, 56, 57] }) (some (.int .i64 (d : Int))) (some (.int .i64 ((d : Int) + 1))) none).run Tryd.prog w = .ok (.string ⟨#[UInt8.ofNat (48 + d)]⟩) w := by
  have a0 : (Instr.slice 9 (.string { data := #[48, 49, 50, 51, 52, 53, 54, 55, 56, 57] }) (some (.int .i64 ((0 : Nat) : Int))) (some (.int .i64 (((0 : Nat) : Int) + 1))) none).run Tryd.prog w = .ok (.string ⟨#[UInt8.ofNat (48 + 0)]⟩) w := by kernel_rfl
  have a1 : (Instr.slice 9 (.string { data := #[48, 49, 50, 51, 52, 53, 54, 55, 56, 57] }) (some (.int .i64 ((1 : Nat) : Int))) (some (.int .i64 (((1 : Nat) : Int) + 1))) none).run Tryd.prog w = .ok (.string ⟨#[UInt8.ofNat (48 + 1)]⟩) w := by kernel_rfl
  have a2 : (Instr.slice 9 (.string { data := #[48, 49, 50, 51, 52, 53, 54, 55, 56, 57] }) (some (.int .i64 ((2 : Nat) : Int))) (some (.int .i64 (((2 : Nat) : Int) + 1))) none).run Tryd.prog w = .ok (.string ⟨#[UInt8.ofNat (48 + 2)]⟩) w := by kernel_rfl
  have a3 : (Instr.slice 9 (.string { data := #[48, 49, 50, 51, 52, 53, 54, 55, 56, 57] }) (some (.int .i64 ((3 : Nat) : Int))) (some (.int .i64 (((3 : Nat) : Int) + 1))) none).run Tryd.prog w = .ok (.string ⟨#[UInt8.ofNat (48 + 3)]⟩) w := by kernel_rfl
  have a4 : (Instr.slice 9 (.string { data := #[48, 49, 50, 51, 52, 53, 54, 55, 56, 57] }) (some (.int .i64 ((4 : Nat) : Int))) (some (.int .i64 (((4 : Nat) : Int) + 1))) none).run Tryd.prog w = .ok (.string ⟨#[UInt8.ofNat (48 + 4)]⟩) w := by kernel_rfl
  have a5 : (Instr.slice 9 (.string { data := #[48, 49, 50, 51, 52, 53, 54, 55, 56, 57] }) (some (.int .i64 ((5 : Nat) : Int))) (some (.int .i64 (((5 : Nat) : Int) + 1))) none).run Tryd.prog w = .ok (.string ⟨#[UInt8.ofNat (48 + 5)]⟩) w := by kernel_rfl
  have a6 : (Instr.slice 9 (.string { data := #[48, 49, 50, 51, 52, 53, 54, 55, 56, 57] }) (some (.int .i64 ((6 : Nat) : Int))) (some (.int .i64 (((6 : Nat) : Int) + 1))) none).run Tryd.prog w = .ok (.string ⟨#[UInt8.ofNat (48 + 6)]⟩) w := by kernel_rfl
  have a7 : (Instr.slice 9 (.string { data := #[48, 49, 50, 51, 52, 53, 54, 55, 56, 57] }) (some (.int .i64 ((7 : Nat) : Int))) (some (.int .i64 (((7 : Nat) : Int) + 1))) none).run Tryd.prog w = .ok (.string ⟨#[UInt8.ofNat (48 + 7)]⟩) w := by kernel_rfl
  have a8 : (Instr.slice 9 (.string { data := #[48, 49, 50, 51, 52, 53, 54, 55, 56, 57] }) (some (.int .i64 ((8 : Nat) : Int))) (some (.int .i64 (((8 : Nat) : Int) + 1))) none).run Tryd.prog w = .ok (.string ⟨#[UInt8.ofNat (48 + 8)]⟩) w := by kernel_rfl
  have a9 : (Instr.slice 9 (.string { data := #[48, 49, 50, 51, 52, 53, 54, 55, 56, 57] }) (some (.int .i64 ((9 : Nat) : Int))) (some (.int .i64 (((9 : Nat) : Int) + 1))) none).run Tryd.prog w = .ok (.string ⟨#[UInt8.ofNat (48 + 9)]⟩) w := by kernel_rfl
  have h : d = 0 ∨ d = 1 ∨ d = 2 ∨ d = 3 ∨ d = 4 ∨ d = 5 ∨ d = 6 ∨ d = 7 ∨ d = 8 ∨ d = 9 := by omega
  rcases h with rfl | rfl | rfl | rfl | rfl | rfl | rfl | rfl | rfl | rfl
  · exact a0
  · exact a1
  · exact a2
  · exact a3
  · exact a4
  · exact a5
  · exact a6
  · exact a7
  · exact a8
  · exact a9
theorem nDigits_le : ∀ (k u : Nat), u < 10 ^ (k + 1) → Lib.nDigits u ≤ k + 1 := by
  intro k
  induction k with
  | zero => intro u h; rw [Lib.nDigits_small (by simpa using h)]; omega
  | succ k ih =>
    intro u h
    by_cases h1 : u < 10
    · rw [Lib.nDigits_small h1]; omega
    · rw [Lib.nDigits, dif_neg h1]
      have := ih (u / 10) (by rw [Nat.pow_succ] at h; omega)
      omega
theorem digits_len {M m : Nat} {s : List UInt8} (hM : M ≤ 9223372036854775808) (h : Lib.decDigits m ++ s = Lib.decDigits M) : s.length ≤ 19 := by
  have h1 := congrArg List.length h
  rw [List.length_append, Lib.decDigits_length, Lib.decDigits_length] at h1
  have := nDigits_le 18 M (by omega)
  omega
theorem cat_bytes (d : Nat) (s : List UInt8) : (⟨#[48 + UInt8.ofNat d]⟩ : ByteArray) ++ ⟨s.toArray⟩ = ⟨(UInt8.ofNat (48 + d) :: s).toArray⟩ := by
  apply ByteArray.ext
  rw [ByteArray.data_append]
  simp
set_option maxHeartbeats 4000000 in
set_option maxRecDepth 100000 in
theorem f29_pos (M : Nat) (hM : M ≤ 9223372036854775807) (w : World) : Calls Tryd.prog 29 #[.int .i64 M] w fun e w' => e = .returned (.string ⟨(Lib.decDigits M).toArray⟩) ∧ w' = w := by
  go_enter Tryd.func29, Tryd.ntmps29
  go_wp2
  go_loopw [0, 3] (fun v0 v3 wr => ∃ (m : Nat) (s : List UInt8), v0 = .int .i64 m ∧ v3 = .string ⟨s.toArray⟩ ∧ m ≤ M ∧ Hid (Lib.decDigits m ++ s = Lib.decDigits M) ∧ wr = w) (fun v0 _ _ => (intOf v0).toNat)
  case atStart => exact ⟨M, [], rfl, rfl, by omega, Lib.hid (by simp), rfl⟩
  case round =>
    obtain ⟨m, s, rfl, rfl, hm, HS, rfl⟩ := hrel
    obtain ⟨d, hd⟩ : ∃ d, m % 10 = d := ⟨_, rfl⟩
    have hd9 : d ≤ 9 := by omega
    have h1 : (m : Int) % 10 = (d : Int) := by omega
    have h2 : ¬ ((d : Int) < 0) := by omega
    have sl := fun w => digit_at w d hd9
    have hsl := digits_len (by omega) HS.out
    obtain ⟨b, hb⟩ : ∃ b : ByteArray, b = ⟨s.toArray⟩ := ⟨_, rfl⟩
    have hbs : b.size ≤ 19 := by rw [hb]; simpa [ByteArray.size] using hsl
    have HBB := Lib.hid hb
    rw [← hb]
    clear hsl hb
    obtain ⟨q, hq⟩ : ∃ q, m / 10 = q := ⟨_, rfl⟩
    have h10 : (m : Int) / 10 = (q : Int) := by omega
    have HQ := Lib.hid hq
    have HD := Lib.hid hd
    have hqm : q = 0 ∨ (0 < q ∧ q < m) := by omega
    have hqz : q = 0 → m < 10 := by omega
    have hqn : q ≤ m := by omega
    clear hq hd
    by_cases hq0 : q = 0
    · subst hq0
      have hM0 : ¬ ((M : Int) < 0) := by omega
      replace hqz := Lib.hid (hqz rfl)
      go_wp2
      go_ret
      refine ⟨?_, rfl⟩
      rw [HBB.out, cat_bytes, ← HS.out, Lib.decDigits_one hqz.out, ← HD.out, Nat.mod_eq_of_lt hqz.out]
      rfl
    have hq1 : ((q : Int) == 0) = false := by simp; exact hq0
    go_wp2
    go_roundw
    case rel => exact ⟨q, UInt8.ofNat (48 + d) :: s, rfl, by rw [HBB.out, cat_bytes], by omega, Lib.hid (by rw [← HQ.out, ← HD.out, digits_step m (by omega), HS.out]), trivial⟩
    case measure => simp [intOf]; omega
theorem cat_minus (s : List UInt8) : (⟨#[45]⟩ : ByteArray) ++ ⟨s.toArray⟩ = ⟨(45 :: s).toArray⟩ := by
  apply ByteArray.ext
  rw [ByteArray.data_append]
  simp
set_option maxHeartbeats 4000000 in
set_option maxRecDepth 100000 in
theorem f29_neg (M : Nat) (hM : 1 ≤ M ∧ M ≤ 9223372036854775808) (w : World) : Calls Tryd.prog 29 #[.int .i64 (-(M : Int))] w fun e w' => e = .returned (.string ⟨(45 :: Lib.decDigits M).toArray⟩) ∧ w' = w := by
  have hneg : -(M : Int) < 0 := by omega
  have hneg2 : decide (-(M : Int) < 0) = true := by simp; omega
  have hneg3 : 0 < M := by omega
  go_enter Tryd.func29, Tryd.ntmps29
  go_wp2
  go_loopw [0, 3] (fun v0 v3 wr => ∃ (m : Nat) (s : List UInt8), v0 = .int .i64 (-(m : Int)) ∧ v3 = .string ⟨s.toArray⟩ ∧ 1 ≤ m ∧ m ≤ M ∧ Hid (Lib.decDigits m ++ s = Lib.decDigits M) ∧ wr = w) (fun v0 _ _ => (-(intOf v0)).toNat)
  case atStart => exact ⟨M, [], rfl, rfl, by omega, by omega, Lib.hid (by simp), rfl⟩
  case round =>
    obtain ⟨m, s, rfl, rfl, hm1, hm, HS, rfl⟩ := hrel
    obtain ⟨d, hd⟩ : ∃ d, m % 10 = d := ⟨_, rfl⟩
    have hd9 : d ≤ 9 := by omega
    have h1 : (-(m : Int)).tmod 10 = -(d : Int) := by rw [Int.neg_tmod, Int.tmod_eq_emod_of_nonneg (by omega)]; omega
    have sl := fun w => digit_at w d hd9
    have hsl := digits_len (by omega) HS.out
    obtain ⟨b, hb⟩ : ∃ b : ByteArray, b = ⟨s.toArray⟩ := ⟨_, rfl⟩
    have hbs : b.size ≤ 19 := by rw [hb]; simpa [ByteArray.size] using hsl
    have HBB := Lib.hid hb
    rw [← hb]
    clear hsl hb
    obtain ⟨q, hq⟩ : ∃ q, m / 10 = q := ⟨_, rfl⟩
    have h10 : (-(m : Int)).tdiv 10 = -(q : Int) := by rw [Int.neg_tdiv, Int.tdiv_eq_ediv_of_nonneg (by omega)]; omega
    have HQ := Lib.hid hq
    have HD := Lib.hid hd
    have hqm : q = 0 ∨ (0 < q ∧ q < m) := by omega
    have hqz : Hid (q = 0 → m < 10) := Lib.hid (by omega)
    have hqd : q = 0 → 0 < d := by omega
    have hqn : q ≤ m := by omega
    clear hq hd
    by_cases hq0 : q = 0
    · have hd0 : 0 < d := hqd hq0
      have hd1 : -(d : Int) < 0 := by omega
      subst hq0
      have h11 := hqz.out rfl
      have H11 := Lib.hid h11
      clear h11 hqd hqz
      go_wp2
      go_ret
      refine ⟨?_, rfl⟩
      rw [HBB.out, cat_bytes, cat_minus, ← HS.out, Lib.decDigits_one H11.out, ← HD.out, Nat.mod_eq_of_lt H11.out]
      rfl
    · have hq1 : (-(q : Int) == 0) = false := by simp; omega
      have hq2 : ¬ (-(q : Int) = 0) := by omega
      clear hqd hqz
      by_cases hd0 : d = 0
      · subst hd0
        go_wp2
        go_roundw
        case rel => exact ⟨q, UInt8.ofNat (48 + 0) :: s, rfl, by rw [HBB.out]; exact congrArg Value.string (cat_bytes 0 s), by omega, by omega, Lib.hid (by rw [← HQ.out, ← HS.out, ← digits_step m (by have := HQ.out; omega), HD.out]), trivial⟩
        case measure => simp [intOf]; omega
      · have hd1 : -(d : Int) < 0 := by omega
        have hd2 : 0 < d := by omega
        go_wp2
        go_roundw
        case rel => exact ⟨q, UInt8.ofNat (48 + d) :: s, rfl, by rw [HBB.out, cat_bytes], by omega, by omega, Lib.hid (by rw [← HQ.out, ← HD.out, digits_step m (by have := HQ.out; omega), HS.out]), trivial⟩
        case measure => simp [intOf]; omega
/-- ref38.Num tells strconv.Itoa's text. -/
theorem f29_any (n : Int) (hn : -9223372036854775808 ≤ n ∧ n ≤ 9223372036854775807) (w : World) : Calls Tryd.prog 29 #[.int .i64 n] w fun e w' => e = .returned (.string ⟨(Lib.itoa n).toArray⟩) ∧ w' = w := by
  unfold Lib.itoa
  by_cases h : n < 0
  · rw [if_pos h]
    have e : n = -((n.natAbs : Nat) : Int) := by omega
    have := f29_neg n.natAbs (by omega) w
    rw [← e] at this
    exact this
  · rw [if_neg h]
    have e : n = ((n.toNat : Nat) : Int) := by omega
    have := f29_pos n.toNat (by omega) w
    rw [← e] at this
    exact this
end Go.Proofs.YtecijaibbjafoaaDoor
