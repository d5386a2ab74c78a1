import Derived.Test.YtecijaibbjafoaaDoorHist
import Derived.Test.YtecijaibbjafoaaDoorFrames
namespace Go.Proofs.YtecijaibbjafoaaDoor
open Go.RowKit Go.Proofs.YtecijaibbjafoaaDoorW.PrintWords Go.Proofs.YtecijaibbjafoaaDoorW.PrintLast Go.Proofs.YtecijaibbjafoaaDoorW.PrintMore Go.Proofs.YtecijaibbjafoaaDoor.PG
/-- What holds of a gauge of k numbers. -/
structure GI (g : G5) (k : Int) : Prop where
  c : g.c = k
  d0 : 0 ≤ g.d
  d1 : g.d ≤ k
  m0 : 0 ≤ g.m
  m1 : g.m ≤ 16777216
  s0 : 0 ≤ g.s
  s1 : g.s ≤ k * 16777216
  q0 : 0 ≤ g.q
  q1 : g.q ≤ k * 281474976710656
  sm : g.s ≤ g.m * g.d
  qm : g.q ≤ g.m * g.s
theorem GI.zero : GI .zero 0 := ⟨rfl, by decide, by decide, by decide, by decide, by decide, by decide, by decide, by decide, by decide, by decide⟩
theorem GI.step {g : G5} {k x : Int} (h : GI g k) (hk0 : 0 ≤ k) (hk : k < 4000) (h0 : 0 ≤ x) (h1 : x ≤ 16777216) : GI (g.step x) (k + 1) := by
  obtain ⟨c, d0, d1, m0, m1, s0, s1, q0, q1, sm, qm⟩ := h
  have xx0 : 0 ≤ x * x := Int.mul_nonneg h0 h0
  have xx1 : x * x ≤ 16777216 * 16777216 := Int.mul_le_mul h1 h1 h0 (by omega)
  have hm : mx g.m x = max g.m x := by unfold mx; rw [Int.max_def]; split <;> split <;> omega
  have hmm : g.m ≤ max g.m x := Int.le_max_left _ _
  have hxm : x ≤ max g.m x := Int.le_max_right _ _
  have hm1 : max g.m x ≤ 16777216 := Int.max_le.2 ⟨m1, h1⟩
  unfold G5.step
  refine ⟨?_, ?_, ?_, ?_, ?_, ?_, ?_, ?_, ?_, ?_, ?_⟩ <;> dsimp only
  · rw [c, wrap_id (by omega)]
  · rw [wrap_id (by split <;> omega)]; split <;> omega
  · rw [wrap_id (by split <;> omega)]; split <;> omega
  · rw [hm]; omega
  · rw [hm]; exact hm1
  · rw [wrap_id (by omega)]; omega
  · rw [wrap_id (by omega)]; omega
  · rw [wrap_id (by omega)]; omega
  · rw [wrap_id (by omega)]; omega
  · rw [hm, wrap_id (x := g.s + x) (by omega), wrap_id (by split <;> omega)]
    have a1 : g.m * g.d ≤ max g.m x * g.d := Int.mul_le_mul_of_nonneg_right hmm d0
    split
    · rw [Int.mul_add, Int.mul_one]; omega
    · rw [Int.add_zero]; omega
  · rw [hm, wrap_id (x := g.q + x * x) (by omega), wrap_id (x := g.s + x) (by omega), Int.mul_add]
    have a1 : g.m * g.s ≤ max g.m x * g.s := Int.mul_le_mul_of_nonneg_right hmm s0
    have a2 : x * x ≤ max g.m x * x := Int.mul_le_mul_of_nonneg_right hxm h0
    omega
theorem gp_inv (l l' : List Int) : ∀ k : Nat, k ≤ 4000 → GI (gp l l' k) k
  | 0, _ => GI.zero
  | k + 1, h => by
    have hx := apn_le (l.getD k 0) (l'.getD k 0)
    have := (gp_inv l l' k (by omega)).step (by omega) (by omega) hx.1 hx.2
    exact this
theorem gp_comm (l l' : List Int) : ∀ k, gp l l' k = gp l' l k
  | 0 => rfl
  | k + 1 => by rw [gp, gp, gp_comm l l' k, apn_comm]
theorem apn_self (a : Int) : apn a a = 0 := by unfold apn; rw [if_neg (by omega), if_pos (by omega)]; omega
theorem gp_self (l : List Int) : ∀ k : Nat, k ≤ 4000 → gp l l k = ⟨k, 0, 0, 0, 0⟩
  | 0, _ => rfl
  | k + 1, h => by
    rw [gp, gp_self l k (by omega), apn_self, G5.step]
    have : wrap64 ((k : Int) + 1) = ((k + 1 : Nat) : Int) := by rw [wrap_id (by omega)]; omega
    have e1 : wrap64 (0 + if (0 : Int) < 0 then 1 else 0) = 0 := by kernel_rfl
    have e2 : wrap64 ((0 : Int) + 0) = 0 := by kernel_rfl
    have e3 : wrap64 ((0 : Int) + 0 * 0) = 0 := by kernel_rfl
    simp only [this, e1, e2, e3]
    rfl
theorem like_comm (W H : Int) (n : Nat) (W' H' : Int) (n' : Nat) : likeB W H n W' H' n' = likeB W' H' n' W H n := by
  unfold likeB
  rw [Bool.eq_iff_iff]
  simp only [Bool.and_eq_true, decide_eq_true_eq, beq_iff_eq]
  constructor <;> (rintro ⟨a, b, rfl, rfl⟩; exact ⟨b, a, rfl, rfl⟩)
theorem gpl_comm (W H : Int) (l : List Int) (W' H' : Int) (l' : List Int) : gpl W H l W' H' l' = gpl W' H' l' W H l := by
  unfold gpl
  rw [like_comm W H]
  cases h : likeB W' H' l'.length W H l.length with
  | false => rfl
  | true =>
    obtain ⟨_, _, _, _, hn, _⟩ := like_parts h
    rw [if_pos rfl, if_pos rfl, gp_comm, hn]
theorem gP_comm (p q : Pn) : gP p q = gP q p := gpl_comm _ _ _ _ _ _
theorem gP_inv (p q : Pn) (h : p.l.length ≤ 2000) : ∃ k : Int, 0 ≤ k ∧ k ≤ 2000 ∧ GI (gP p q) k := by
  unfold gP gpl
  split
  · exact ⟨p.l.length, by omega, by omega, gp_inv _ _ _ (by omega)⟩
  · exact ⟨0, by omega, by omega, GI.zero⟩
theorem gP_self (p : Pn) (h : p.l.length ≤ 2000) : gP p p = ⟨if rtB p.W p.H p.l.length = true then (p.l.length : Int) else 0, 0, 0, 0, 0⟩ := by
  unfold gP gpl likeB
  cases hr : rtB p.W p.H p.l.length with
  | false => rfl
  | true => simp only [decide_true, beq_self_eq_true, Bool.and_self, if_true]; exact gp_self _ _ (by omega)
theorem sum_one (b : Nat) (f : Nat → Nat) (x : Nat) : ((List.range b).map fun j => f j + if x = j then 1 else 0).sum = ((List.range b).map f).sum + if x < b then 1 else 0 := by
  induction b with
  | zero => simp
  | succ b ih =>
    rw [List.range_succ, List.map_append, List.map_append, List.sum_append, List.sum_append, ih]
    simp only [List.map_cons, List.map_nil, List.sum_cons, List.sum_nil]
    by_cases h1 : x < b
    · rw [if_pos h1, if_neg (by omega), if_pos (by omega)]; omega
    · by_cases h2 : x = b
      · rw [if_neg h1, if_pos h2, if_pos (by omega)]; omega
      · rw [if_neg h1, if_neg h2, if_neg (by omega)]; omega
theorem cnt_sum {bins most : Int} (h1 : 1 ≤ bins) (h2 : bins ≤ 256) (h3 : 1 ≤ most) (h4 : most ≤ 65535) (l : List Int) : ∀ i, ((List.range bins.toNat).map fun j => cnt bins most l j i).sum = i := by
  intro i
  induction i with
  | zero =>
    have : ∀ b : Nat, ((List.range b).map fun _ => 0).sum = 0 := by intro b; induction b with
      | zero => rfl
      | succ b ih => rw [List.range_succ, List.map_append, List.sum_append, ih]; rfl
    exact this _
  | succ i ih =>
    obtain ⟨b0, b1, _, _⟩ := bv_in h1 h2 h3 h4 (l.getD i 0)
    have e : (fun j => cnt bins most l j (i + 1)) = fun j => cnt bins most l j i + if (bv bins most (l.getD i 0)).toNat = j then 1 else 0 := by
      funext j
      rw [cnt]
      congr 1
      by_cases h : bv bins most (l.getD i 0) = (j : Int)
      · rw [if_pos h, if_pos (by omega)]
      · rw [if_neg h, if_neg (by omega)]
    rw [e, sum_one, ih, if_pos (by omega)]
/-- A running sum. -/
def psum (r : List Int) : Nat → Int
  | 0 => 0
  | k + 1 => psum r k + r.getD k 0
theorem psum_hist (bins most : Int) (l : List Int) (i : Nat) : ∀ k, k ≤ bins.toNat → psum (hist bins most l i) k = (((List.range k).map fun j => cnt bins most l j i).sum : Nat)
  | 0, _ => rfl
  | k + 1, h => by
    rw [psum, psum_hist bins most l i k (by omega), List.range_succ, List.map_append, List.sum_append, List.getD_eq_getElem?_getD, hist_at _ _ _ _ _ (by omega)]
    simp
theorem sum_mono (f : Nat → Nat) (a b : Nat) (h : a ≤ b) : ((List.range a).map f).sum ≤ ((List.range b).map f).sum := by
  induction b with
  | zero =>
    obtain rfl : a = 0 := by omega
    exact Nat.le_refl _
  | succ b ih =>
    by_cases hb : a = b + 1
    · subst hb; exact Nat.le_refl _
    · rw [List.range_succ, List.map_append, List.sum_append]
      exact Nat.le_trans (ih (by omega)) (Nat.le_add_right _ _)
/-- The histogram's list, its sums: all of them within 2000, the last one the plane's numbers. -/
theorem hist_sums (W H : Int) (l : List Int) (bins : Int) (hl : l.length ≤ 2000) (h1 : 1 ≤ bins) (h2 : bins ≤ 256) : ∃ r k, gauge_Histogram.f k W H l bins 255 = some r ∧ r.length ≤ 256 ∧ (∀ j, j ≤ r.length → 0 ≤ psum r j ∧ psum r j ≤ 2000) ∧ (∀ j, j < r.length → 0 ≤ r.getD j 0 ∧ r.getD j 0 ≤ 2000) ∧ (rtB W H l.length = true → psum r r.length = (l.length : Int)) := by
  unfold gauge_Histogram.f
  rw [right_some]
  simp only [Option.bind_some]
  cases hr : rtB W H l.length with
  | false =>
    refine ⟨[], 1, by simp [gauge_Histogram.j0], by simp, fun j hj => ?_, fun j hj => by simp at hj, fun h => by cases h⟩
    have h0 : j = 0 := by simpa using hj
    rw [h0]
    exact ⟨Int.le_refl _, by decide⟩
  | true =>
    have hb : ∀ j, j ≤ bins.toNat → 0 ≤ psum (hist bins 255 l l.length) j ∧ psum (hist bins 255 l l.length) j ≤ 2000 := by
      intro j hj
      rw [psum_hist _ _ _ _ j hj]
      have a := sum_mono (fun j => cnt bins 255 l j l.length) j bins.toNat hj
      rw [cnt_sum h1 h2 (by omega) (by omega)] at a
      omega
    refine ⟨hist bins 255 l l.length, l.length + 1 + 1, ?_, by rw [hist_len]; omega, fun j hj => hb j (by rw [hist_len] at hj; exact hj), fun j hj => ?_, fun _ => ?_⟩
    · rw [if_pos rfl, if_neg (by omega), if_neg (by omega), if_neg (by omega), gauge_Histogram.j0, if_neg (by simp), if_pos (by omega), if_pos (by omega), ← hist_zero bins 255 l]
      exact gauge_loop (by omega) (by omega) (by omega) (by omega) l (by omega) l.length (l.length + 1) 0 (by omega) (by omega) (by omega)
    · rw [hist_len] at hj
      rw [List.getD_eq_getElem?_getD, hist_at _ _ _ _ _ hj]
      have := cnt_le bins 255 l j l.length
      simp only [Option.getD_some]
      omega
    · rw [hist_len, psum_hist _ _ _ _ _ (Nat.le_refl _), cnt_sum h1 h2 (by omega) (by omega)]
end Go.Proofs.YtecijaibbjafoaaDoor
