import Derived.Test.YtecijaibbjafoaaDoorPGx3
import Derived.Test.YtecijaibbjafoaaDoorLevel2
import Derived.StillTailTactics
import Derived.Deep.RegionHeld3
namespace Go.Proofs.YtecijaibbjafoaaDoor
open Go.RowKit Go.Proofs.YtecijaibbjafoaaDoorW.PrintWords Go.Proofs.YtecijaibbjafoaaDoorW.PrintLast Go.Proofs.YtecijaibbjafoaaDoorW.PrintMore Go.Proofs.YtecijaibbjafoaaDoor.PG
/-- A row of numbers that is read. -/
def RW (w : World) (A : Option Addr) (c : Nat) (l : List Int) : Prop := Kd.C (Kd.int .i64) w A l.length l ∧ l.length ≤ c
theorem RW.below {w w1 : World} {A : Option Addr} {c : Nat} {l : List Int} (h : RW w A c l) (hb : Below w.heap.size w w1) : RW w1 A c l := ⟨Kd.C_below h.1 hb, h.2⟩
theorem RW.at_ {w : World} {A : Option Addr} {c : Nat} {l : List Int} (h : RW w A c l) (i : Nat) (hi : i < l.length) : ∃ b o, A = some ⟨b, o, none⟩ ∧ b < w.heap.size ∧ w.cell? ⟨b, o + i, none⟩ = some (.int .i64 (l.getD i 0)) := by
  obtain ⟨⟨b, o, sp⟩, rfl, hc⟩ := Kd.at_int h.1 (i : Int) (by omega) (by omega)
  have hsp : sp = none := by
    obtain ⟨ad, e, hc0⟩ := Kd.at_int h.1 0 (by omega) (by omega)
    injection e with e
    subst e
    exact World.cell?_spot hc0
  subst hsp
  rw [Addr.add_lit] at hc
  have hb := World.block_lt_of_cell? w _ hc
  exact ⟨b, o, rfl, hb, hc⟩
def rtB (W H : Int) (n : Nat) : Bool := decide (1 ≤ W) && (decide (W ≤ 1024) && (decide (1 ≤ H) && (decide (H ≤ 1024) && ((n : Int) == wrap64 (W * H)))))
theorem right_some (W H : Int) (l : List Int) : plane_Right.f W H l = some (rtB W H l.length) := by
  unfold plane_Right.f plane_side.f rtB
  by_cases h1 : 1 ≤ W <;> by_cases h2 : W ≤ 1024 <;> by_cases h3 : 1 ≤ H <;> by_cases h4 : H ≤ 1024 <;> simp [h1, h2, h3, h4, ge_iff_le]
theorem ref_right_some (W H : Int) (l : List Int) : shingleref07_Right.f W H l = some (rtB W H l.length) := by
  unfold shingleref07_Right.f rtB
  by_cases h1 : 1 ≤ W <;> by_cases h2 : W ≤ 1024 <;> by_cases h3 : 1 ≤ H <;> by_cases h4 : H ≤ 1024 <;> simp [h1, h2, h3, h4, ge_iff_le]
theorem f30_any (W H : Int) (A : Option Addr) (c : Nat) (l : List Int) (w : World) (h : Hid (RW w A c l)) : Calls Tryd.prog 30 #[.agg #[.int .i64 W, .int .i64 H, .slice A l.length c]] w fun e w' => e = .returned (.bool (rtB W H l.length)) ∧ Below w.heap.size w w' :=
  plane_Right.calls W H A c l _ w h.out.1 h.out.2 (right_some W H l)
theorem f17_any (W H : Int) (A : Option Addr) (c : Nat) (l : List Int) (w : World) (h : Hid (RW w A c l)) : Calls Tryd.prog 17 #[.agg #[.int .i64 W, .int .i64 H, .slice A l.length c]] w fun e w' => e = .returned (.bool (rtB W H l.length)) ∧ Below w.heap.size w w' :=
  shingleref07_Right.calls W H A c l _ w h.out.1 h.out.2 (ref_right_some W H l)
/-- Two right planes of one size. -/
def likeB (W H : Int) (n : Nat) (W' H' : Int) (n' : Nat) : Bool := rtB W H n && (rtB W' H' n' && (decide (W = W') && (H == H')))
theorem like_some (W H : Int) (l : List Int) (W' H' : Int) (l' : List Int) : shingleref07_Like.f W H l W' H' l' = some (likeB W H l.length W' H' l'.length) := by
  unfold shingleref07_Like.f likeB
  rw [ref_right_some, ref_right_some]
  generalize rtB W H l.length = x
  generalize rtB W' H' l'.length = y
  cases x <;> cases y <;> by_cases h3 : W = W' <;> simp [h3]
theorem f32_any (W H : Int) (A : Option Addr) (c : Nat) (l : List Int) (W' H' : Int) (A' : Option Addr) (c' : Nat) (l' : List Int) (w : World) (h : Hid (RW w A c l)) (h' : Hid (RW w A' c' l')) :
    Calls Tryd.prog 32 #[.agg #[.int .i64 W, .int .i64 H, .slice A l.length c], .agg #[.int .i64 W', .int .i64 H', .slice A' l'.length c']] w fun e w' => e = .returned (.bool (likeB W H l.length W' H' l'.length)) ∧ Below w.heap.size w w' :=
  shingleref07_Like.calls W H A c l W' H' A' c' l' _ w h.out.1 h.out.2 h'.out.1 h'.out.2 (like_some W H l W' H' l')
/-- How far two numbers are. -/
def apn (a b : Int) : Int := if a < b then (if b - a < 16777216 then b - a else 16777216) else (if a - b < 16777216 then a - b else 16777216)
theorem apn_le (a b : Int) : 0 ≤ apn a b ∧ apn a b ≤ 16777216 := by
  unfold apn
  split <;> split <;> omega
theorem apn_comm (a b : Int) : apn a b = apn b a := by
  unfold apn
  split <;> split <;> split <;> first | omega | (split <;> omega) | skip
theorem apart_some (a b : Int) (ha : -9223372036854775808 ≤ a ∧ a ≤ 9223372036854775807) (hb : -9223372036854775808 ≤ b ∧ b ≤ 9223372036854775807) : gauge_apart.f a b = some (apn a b) := by
  unfold gauge_apart.f apn wrap64
  split <;> split <;> first | (split <;> split <;> first | rfl | (congr 1; omega) | omega) | (split <;> first | rfl | (congr 1; omega) | omega)
theorem far_some1 (k : Nat) (a b : Int) (hab : ¬ a > b) (ha : -9223372036854775808 ≤ a ∧ a ≤ 9223372036854775807) (hb : -9223372036854775808 ≤ b ∧ b ≤ 9223372036854775807) : shingleref40_far.f (k + 1) a b = some (apn a b) := by
  unfold shingleref40_far.f
  rw [if_neg hab]
  unfold apn wrap64
  repeat' split
  all_goals first | rfl | (congr 1; omega) | omega
theorem far_some (a b : Int) (ha : -9223372036854775808 ≤ a ∧ a ≤ 9223372036854775807) (hb : -9223372036854775808 ≤ b ∧ b ≤ 9223372036854775807) : shingleref40_far.f 2 a b = some (apn a b) := by
  by_cases h : a > b
  · rw [shingleref40_far.f, if_pos h, far_some1 0 b a (by omega) hb ha, apn_comm]; rfl
  · exact far_some1 1 a b h ha hb
theorem f31_any (a b : Int) (ha : -9223372036854775808 ≤ a ∧ a ≤ 9223372036854775807) (hb : -9223372036854775808 ≤ b ∧ b ≤ 9223372036854775807) (w : World) : Calls Tryd.prog 31 #[.int .i64 a, .int .i64 b] w fun e w' => e = .returned (.int .i64 (apn a b)) ∧ Drawn0 w w' :=
  gauge_apart.calls a b _ w (apart_some a b ha hb)
theorem f33_any (a b : Int) (ha : -9223372036854775808 ≤ a ∧ a ≤ 9223372036854775807) (hb : -9223372036854775808 ≤ b ∧ b ≤ 9223372036854775807) (w : World) : Calls Tryd.prog 33 #[.int .i64 a, .int .i64 b] w fun e w' => e = .returned (.int .i64 (apn a b)) ∧ Drawn0 w w' :=
  shingleref40_far.calls 2 a b _ w (far_some a b ha hb)
/-- A gauge: count, differ, worst, sum, squares. -/
structure G5 where
  c : Int
  d : Int
  m : Int
  s : Int
  q : Int
def G5.zero : G5 := ⟨0, 0, 0, 0, 0⟩
def G5.step (g : G5) (d : Int) : G5 := ⟨wrap64 (g.c + 1), wrap64 (g.d + if 0 < d then 1 else 0), mx g.m d, wrap64 (g.s + d), wrap64 (g.q + d * d)⟩
def G5.join (g h : G5) : G5 := ⟨wrap64 (g.c + h.c), wrap64 (g.d + h.d), mx g.m h.m, wrap64 (g.s + h.s), wrap64 (g.q + h.q)⟩
def gp (l l' : List Int) : Nat → G5
  | 0 => .zero
  | k + 1 => (gp l l' k).step (apn (l.getD k 0) (l'.getD k 0))
def gpl (W H : Int) (l : List Int) (W' H' : Int) (l' : List Int) : G5 := if likeB W H l.length W' H' l'.length = true then gp l l' l.length else .zero
abbrev G5.v (g : G5) : Value := .agg #[.int .i64 g.c, .int .i64 g.d, .int .i64 g.m, .int .i64 g.s, .int .i64 g.q]
theorem f23_any (g h : G5) (w : World) : Calls Tryd.prog 23 #[g.v, h.v] w fun e w' => e = .returned (g.join h).v ∧ Below w.heap.size w w' :=
  gauge_Join.calls _ _ _ _ _ _ _ _ _ _ _ _ _ _ _ w rfl
theorem f21_any (g h : G5) (w : World) : Calls Tryd.prog 21 #[g.v, h.v] w fun e w' => e = .returned (g.join h).v ∧ Below w.heap.size w w' :=
  shingleref40_Both.calls _ _ _ _ _ _ _ _ _ _ _ _ _ _ _ w (by unfold shingleref40_Both.f G5.join mx; split <;> simp_all)
end Go.Proofs.YtecijaibbjafoaaDoor
