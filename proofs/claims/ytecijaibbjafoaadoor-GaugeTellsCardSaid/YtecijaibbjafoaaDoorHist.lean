import Derived.Test.YtecijaibbjafoaaDoorPlRef
namespace Go.Proofs.YtecijaibbjafoaaDoor
open Go.RowKit Go.Proofs.YtecijaibbjafoaaDoorW.PrintWords Go.Proofs.YtecijaibbjafoaaDoorW.PrintLast Go.Proofs.YtecijaibbjafoaaDoorW.PrintMore Go.Proofs.YtecijaibbjafoaaDoor.PG
/-- In which bin a number lies. -/
def bv (bins most v : Int) : Int := nr v most * bins / (most + 1)
theorem bv_in {bins most : Int} (h1 : 1 ≤ bins) (h2 : bins ≤ 256) (h3 : 1 ≤ most) (h4 : most ≤ 65535) (v : Int) : 0 ≤ bv bins most v ∧ bv bins most v < bins ∧ 0 ≤ nr v most * bins ∧ nr v most * bins ≤ 16776960 := by
  obtain ⟨a, b⟩ := nr_le v most (by omega)
  have p0 : 0 ≤ nr v most * bins := Int.mul_nonneg a (by omega)
  have p1 : nr v most * bins ≤ most * bins := Int.mul_le_mul_of_nonneg_right b (by omega)
  have p2 : most * bins ≤ 65535 * 256 := Int.mul_le_mul h4 h2 (by omega) (by omega)
  refine ⟨Int.ediv_nonneg p0 (by omega), ?_, p0, by omega⟩
  unfold bv
  apply Int.ediv_lt_of_lt_mul (by omega)
  have : bins * (most + 1) = most * bins + bins := by rw [Int.mul_add, Int.mul_one, Int.mul_comm]
  omega
theorem bv_wrap {bins most : Int} (h1 : 1 ≤ bins) (h2 : bins ≤ 256) (h3 : 1 ≤ most) (h4 : most ≤ 65535) (v : Int) : wrap64 (Int.tdiv (wrap64 (nr v most * bins)) (wrap64 (most + 1))) = bv bins most v := by
  obtain ⟨a, b, c, d⟩ := bv_in h1 h2 h3 h4 v
  rw [wrap_id (x := nr v most * bins) (by omega), wrap_id (x := most + 1) (by omega), Int.tdiv_eq_ediv_of_nonneg c]
  exact wrap_id (x := bv bins most v) (by omega)
theorem clamp_nr (v most : Int) (h : 0 ≤ most) : gauge_clamp.f v most = some (nr v most) := by
  unfold gauge_clamp.f nr mn mx
  congr 1
  split <;> split <;> first | omega | rfl | (split <;> omega)
theorem near_nr (v most : Int) : shingleref40_near.f v most = some (nr v most) := by
  unfold shingleref40_near.f nr
  split
  · rfl
  · split
    · rename_i h1 h2; first | rfl | rw [if_pos (by omega)]
    · rename_i h1 h2; first | rfl | rw [if_neg (by omega)]
/-- How many of a list's first i lie in bin j. -/
def cnt (bins most : Int) (l : List Int) (j : Nat) : Nat → Nat
  | 0 => 0
  | i + 1 => cnt bins most l j i + if bv bins most (l.getD i 0) = (j : Int) then 1 else 0
theorem cnt_le (bins most : Int) (l : List Int) (j i : Nat) : cnt bins most l j i ≤ i := by
  induction i with
  | zero => exact Nat.le_refl _
  | succ i ih => unfold cnt; split <;> omega
def hist (bins most : Int) (l : List Int) (i : Nat) : List Int := (List.range bins.toNat).map fun j => (cnt bins most l j i : Int)
theorem hist_len (bins most : Int) (l : List Int) (i : Nat) : (hist bins most l i).length = bins.toNat := by simp [hist]
theorem hist_at (bins most : Int) (l : List Int) (i j : Nat) (hj : j < bins.toNat) : (hist bins most l i)[j]? = some (cnt bins most l j i : Int) := by
  simp [hist, hj]
theorem hist_zero (bins most : Int) (l : List Int) : hist bins most l 0 = List.replicate bins.toNat 0 := by
  apply List.ext_getElem?
  intro j
  by_cases hj : j < bins.toNat
  · rw [hist_at _ _ _ _ _ hj]; simp [hj, cnt]
  · rw [List.getElem?_eq_none (by rw [hist_len]; omega), List.getElem?_eq_none (by simp; omega)]
theorem hist_step {bins most : Int} (h1 : 1 ≤ bins) (h2 : bins ≤ 256) (h3 : 1 ≤ most) (h4 : most ≤ 65535) (l : List Int) (i : Nat) (hi : i < 1048576) (v : Int) (hv : v = l.getD i 0) :
    (hist bins most l i).set (bv bins most v).toNat (wrap64 (rd (hist bins most l i) (bv bins most v) + 1)) = hist bins most l (i + 1) := by
  obtain ⟨b0, b1, _, _⟩ := bv_in h1 h2 h3 h4 v
  have hlt : (bv bins most v).toNat < bins.toNat := by omega
  have hr : rd (hist bins most l i) (bv bins most v) = (cnt bins most l (bv bins most v).toNat i : Int) := by
    unfold rd
    rw [List.getD_eq_getElem?_getD, hist_at _ _ _ _ _ hlt]; rfl
  have hc := cnt_le bins most l (bv bins most v).toNat i
  rw [hr, wrap_id (by omega)]
  apply List.ext_getElem?
  intro j
  rw [List.getElem?_set]
  by_cases hj : j < bins.toNat
  · rw [hist_at _ _ _ _ _ hj, hist_at _ _ _ _ _ hj]
    by_cases hjv : (bv bins most v).toNat = j
    · rw [if_pos hjv, if_pos (by rw [hist_len]; omega), cnt, ← hv, if_pos (by omega), hjv]; rfl
    · rw [if_neg hjv, cnt, ← hv, if_neg (by omega)]; rfl
  · rw [List.getElem?_eq_none (l := hist bins most l (i + 1)) (by rw [hist_len]; omega), if_neg (by omega), List.getElem?_eq_none (by rw [hist_len]; omega)]
theorem gauge_loop {bins most : Int} (h1 : 1 ≤ bins) (h2 : bins ≤ 256) (h3 : 1 ≤ most) (h4 : most ≤ 65535) (l : List Int) (hl : l.length ≤ 1048576) (d : Nat) : ∀ (k i : Nat), i ≤ l.length → l.length - i = d → d < k →
    gauge_Histogram.l0 k bins most (hist bins most l i) l (l.length : Int) (i : Int) = some (hist bins most l l.length) := by
  induction d with
  | zero =>
    intro k i hi hd hk
    obtain ⟨k, rfl⟩ : ∃ m, k = m + 1 := ⟨k - 1, by omega⟩
    obtain rfl : i = l.length := by omega
    simp only [gauge_Histogram.l0]
    rw [if_neg (by omega)]
  | succ d ih =>
    intro k i hi hd hk
    obtain ⟨k, rfl⟩ : ∃ m, k = m + 1 := ⟨k - 1, by omega⟩
    have hil : i < l.length := by omega
    simp only [gauge_Histogram.l0]
    rw [if_pos (by omega), if_pos (by omega), if_pos (by omega), clamp_nr _ _ (by omega)]
    simp only [Option.bind_some]
    rw [if_neg (by rw [wrap_id (by omega)]; omega), bv_wrap h1 h2 h3 h4]
    obtain ⟨b0, b1, _, _⟩ := bv_in h1 h2 h3 h4 (rd l (i : Int))
    rw [if_pos b0, if_pos (by rw [hist_len]; omega), hist_step h1 h2 h3 h4 l i (by omega) (rd l (i : Int)) rfl, wrap_id (by omega)]
    exact ih k (i + 1) (by omega) (by omega) (by omega)
theorem ref_inner {bins most : Int} (h1 : 1 ≤ bins) (h2 : bins ≤ 256) (h3 : 1 ≤ most) (h4 : most ≤ 65535) (l : List Int) (hl : l.length ≤ 1048576) (W H : Int) (xs : List Int) (j : Nat) (hxs : xs.length ≤ 256) (R : Nat → Option (List Int)) (K0 : Nat)
    (hR : ∀ k, K0 < k → shingleref40_Histogram.l0 k bins most (xs ++ [(cnt bins most l j l.length : Int)]) (wrap64 ((j : Int) + 1)) W H l = R 0) (d : Nat) : ∀ (k i : Nat), i ≤ l.length → l.length - i = d → d + K0 + 1 < k →
    shingleref40_Histogram.l1 k bins most xs (j : Int) (cnt bins most l j i : Int) l (l.length : Int) (i : Int) W H l = R 0 := by
  induction d with
  | zero =>
    intro k i hi hd hk
    obtain ⟨k, rfl⟩ : ∃ m, k = m + 1 := ⟨k - 1, by omega⟩
    obtain rfl : i = l.length := by omega
    simp only [shingleref40_Histogram.l1]
    rw [if_neg (by omega), if_pos (by omega)]
    exact hR k (by omega)
  | succ d ih =>
    intro k i hi hd hk
    obtain ⟨k, rfl⟩ : ∃ m, k = m + 1 := ⟨k - 1, by omega⟩
    have hil : i < l.length := by omega
    have hc := cnt_le bins most l j i
    simp only [shingleref40_Histogram.l1]
    rw [if_pos (by omega), if_pos (by omega), if_pos (by omega), near_nr]
    simp only [Option.bind_some]
    rw [if_neg (by rw [wrap_id (by omega)]; omega), bv_wrap h1 h2 h3 h4, wrap_id (x := (i : Int) + 1) (by omega)]
    have e : cnt bins most l j (i + 1) = cnt bins most l j i + if bv bins most (rd l (i : Int)) = (j : Int) then 1 else 0 := rfl
    have hn := ih k (i + 1) (by omega) (by omega) (by omega)
    rw [e] at hn
    split
    · rename_i hb
      rw [if_pos hb] at hn
      rw [wrap_id (by omega)]
      exact hn
    · rename_i hb
      rw [if_neg hb] at hn
      exact hn
theorem ref_outer {bins most : Int} (h1 : 1 ≤ bins) (h2 : bins ≤ 256) (h3 : 1 ≤ most) (h4 : most ≤ 65535) (l : List Int) (hl : l.length ≤ 1048576) (W H : Int) (d : Nat) : ∀ (k j : Nat), (j : Int) ≤ bins → bins.toNat - j = d → d * (l.length + 3) + 1 < k →
    shingleref40_Histogram.l0 k bins most ((List.range j).map fun j => (cnt bins most l j l.length : Int)) (j : Int) W H l = some (hist bins most l l.length) := by
  induction d with
  | zero =>
    intro k j hj hd hk
    obtain ⟨k, rfl⟩ : ∃ m, k = m + 1 := ⟨k - 1, by omega⟩
    simp only [shingleref40_Histogram.l0]
    rw [if_neg (by omega)]
    unfold hist
    rw [show j = bins.toNat by omega]
  | succ d ih =>
    intro k j hj hd hk
    obtain ⟨k, rfl⟩ : ∃ m, k = m + 1 := ⟨k - 1, by omega⟩
    have e : (d + 1) * (l.length + 3) = d * (l.length + 3) + (l.length + 3) := by rw [Nat.add_mul, Nat.one_mul]
    rw [e] at hk
    simp only [shingleref40_Histogram.l0]
    rw [if_pos (by omega)]
    have hx := ref_inner h1 h2 h3 h4 l hl W H ((List.range j).map fun j => (cnt bins most l j l.length : Int)) j (by simp; omega) (fun _ => some (hist bins most l l.length)) (d * (l.length + 3) + 1)
      (fun k' hk' => by
        rw [wrap_id (by omega)]
        have := ih k' (j + 1) (by omega) (by omega) hk'
        rw [List.range_succ, List.map_append] at this
        exact this) l.length k 0 (by omega) (by omega) (by omega)
    exact hx
/-- Both histograms are one list, whatever the plane. -/
theorem hist_same (W H : Int) (l : List Int) (bins most : Int) : ∃ r k k', gauge_Histogram.f k W H l bins most = some r ∧ shingleref40_Histogram.f k' W H l bins most = some r := by
  unfold gauge_Histogram.f shingleref40_Histogram.f
  rw [right_some, ref_right_some]
  simp only [Option.bind_some]
  cases hr : rtB W H l.length with
  | false => exact ⟨[], 1, 1, by simp [gauge_Histogram.j0], by simp [shingleref40_Histogram.j0]⟩
  | true =>
    obtain ⟨n0, n1⟩ := rt_pos hr
    by_cases h1 : bins < 1
    · exact ⟨[], 1, 1, by simp [gauge_Histogram.j0, h1], by simp [shingleref40_Histogram.j0, h1]⟩
    by_cases h2 : bins > 256
    · exact ⟨[], 1, 1, by simp [gauge_Histogram.j0, h1, h2], by simp [shingleref40_Histogram.j0, h1, h2]⟩
    by_cases h3 : most < 1
    · exact ⟨[], 1, 1, by simp [gauge_Histogram.j0, h1, h2, h3], by simp [shingleref40_Histogram.j0, h1, h2, h3]⟩
    by_cases h4 : most > 65535
    · exact ⟨[], 1, 1, by simp [gauge_Histogram.j0, h1, h2, h3, h4], by simp [shingleref40_Histogram.j0, h1, h2, h3, h4]⟩
    refine ⟨hist bins most l l.length, l.length + 1 + 1, bins.toNat * (l.length + 3) + 2 + 1, ?_, ?_⟩
    · rw [if_pos rfl, if_neg h1, if_neg h2, if_neg h3, gauge_Histogram.j0, if_neg (by simp [h4]), if_pos (by omega), if_pos (by omega), ← hist_zero bins most l]
      exact gauge_loop (by omega) (by omega) (by omega) (by omega) l n1 l.length (l.length + 1) 0 (by omega) (by omega) (by omega)
    · rw [if_pos rfl, if_neg h1, if_neg h2, if_neg h3, shingleref40_Histogram.j0, if_neg (by simp [h4])]
      exact ref_outer (by omega) (by omega) (by omega) (by omega) l n1 W H bins.toNat _ 0 (by omega) (by omega) (by omega)
end Go.Proofs.YtecijaibbjafoaaDoor
