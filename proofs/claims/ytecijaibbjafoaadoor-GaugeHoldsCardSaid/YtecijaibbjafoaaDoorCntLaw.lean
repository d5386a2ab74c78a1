import Derived.Test.YtecijaibbjafoaaDoorFirst
import Derived.Test.YtecijaibbjafoaaDoorHist
namespace Go.Proofs.YtecijaibbjafoaaDoor
open Go.RowKit Go.Proofs.YtecijaibbjafoaaDoorW.PrintWords Go.Proofs.YtecijaibbjafoaaDoorW.PrintLast Go.Proofs.YtecijaibbjafoaaDoorW.PrintMore Go.Proofs.YtecijaibbjafoaaDoor.PG
theorem f14_r (W H : Int) (A : Option Addr) (c : Nat) (l : List Int) (bins most : Int) (r : List Int) (k : Nat) (hk : Hid (gauge_Histogram.f k W H l bins most = some r)) (w : World) (h : Hid (RW w A c l)) :
    Calls Tryd.prog 14 #[.agg #[.int .i64 W, .int .i64 H, .slice A l.length c], .int .i64 bins, .int .i64 most] w fun e w' => ∃ A' c', e = .returned (.slice A' r.length c') ∧ RW w' A' c' r ∧ Below w.heap.size w w' := by
  refine (gauge_Histogram.calls k W H A c l bins most r w h.out.1 h.out.2 hk.out).mono ?_
  rintro e w' ⟨v, rfl, hv, hb⟩
  obtain ⟨A', c', rfl, h1, h2⟩ := Kd.R_reads hv
  exact ⟨A', c', rfl, ⟨h2, h1⟩, hb⟩
theorem f15_r (W H : Int) (A : Option Addr) (c : Nat) (l : List Int) (bins most : Int) (r : List Int) (k : Nat) (hk : Hid (shingleref40_Histogram.f k W H l bins most = some r)) (w : World) (h : Hid (RW w A c l)) :
    Calls Tryd.prog 15 #[.agg #[.int .i64 W, .int .i64 H, .slice A l.length c], .int .i64 bins, .int .i64 most] w fun e w' => ∃ A' c', e = .returned (.slice A' r.length c') ∧ RW w' A' c' r ∧ Below w.heap.size w w' := by
  refine (shingleref40_Histogram.calls k W H A c l bins most r w h.out.1 h.out.2 hk.out).mono ?_
  rintro e w' ⟨v, rfl, hv, hb⟩
  obtain ⟨A', c', rfl, h1, h2⟩ := Kd.R_reads hv
  exact ⟨A', c', rfl, ⟨h2, h1⟩, hb⟩
theorem three {w : World} {g : Nat} {a0 a1 a2 : Value} {t : TypeId} (h : w.heap[g]? = some (.cells #[a0, a1, a2] t (0, 0))) : w.cell? ⟨g, 0, none⟩ = some a0 ∧ w.cell? ⟨g, 1, none⟩ = some a1 ∧ w.cell? ⟨g, 2, none⟩ = some a2 := ⟨(blk_cell h 0).trans rfl, (blk_cell h 1).trans rfl, (blk_cell h 2).trans rfl⟩
set_option maxHeartbeats 8000000 in
set_option maxRecDepth 100000 in
theorem f4_any (W H : Int) (A : Option Addr) (c : Nat) (l : List Int) (bins most : Int) (w : World) (h : Hid (RW w A c l)) (ht : Hid (Tab w)) :
    Calls Tryd.prog 4 #[.agg #[.int .i64 W, .int .i64 H, .slice A l.length c], .int .i64 bins, .int .i64 most] w fun e w' => e = .returned (.bool true) ∧ Below w.heap.size w w' := by
  obtain ⟨wb, hwb⟩ : ∃ wb, wb = w.alloc (.cells #[.int .i64 W, .int .i64 H, .slice A l.length c] 32) := ⟨_, rfl⟩
  obtain ⟨B, hB⟩ : ∃ B, B = w.heap.size := ⟨_, rfl⟩
  have HL : Hid (wb.heap[B]? = some (.cells #[.int .i64 W, .int .i64 H, .slice A l.length c] 32 (0, 0))) := by rw [hwb, hB]; exact Lib.hid (blk_new _ _)
  have HB : Hid (Below w.heap.size w wb) := by rw [hwb]; exact Lib.hid (by go_grown)
  have HWB := Lib.hid hwb
  have HBB := Lib.hid hB
  clear hwb hB
  obtain ⟨r, k1, k2, e1, e2⟩ := hist_same W H l bins most
  have E1 := Lib.hid e1
  have E2 := Lib.hid e2
  clear e1 e2
  have hln : l.length ≤ 9223372036854775807 := h.out.1.2.1
  have hrn : r.length ≤ 9223372036854775807 ∨ True := .inr trivial
  clear hrn
  go_enter Tryd.func4, Tryd.ntmps4
  go_wp2_with fail
  rw [← HWB.out, ← HBB.out]
  clear HWB
  refine (f7_any wb (Lib.hid (ht.out.below HB.out))).mono ?_
  rintro e w1 ⟨rfl, hb1⟩
  have HB1 := Lib.hid (HB.out.trans (hb1.mono HB.out.size))
  have HL1 := Lib.hid (blk_below HL.out hb1)
  clear HB HL hb1
  obtain ⟨g0, g1, g2⟩ := three HL1.out
  by_cases hbig : 1000 < l.length
  · go_wp2_with fail
    go_ret
    exact ⟨rfl, HB1.out⟩
  go_upto_region 5 with fail
  have HBX : Hid (Below w.heap.size w w1.drew) := Lib.hid HB1.out.drew
  have HLX : Hid (w1.drew.heap[B]? = some (.cells #[.int .i64 W, .int .i64 H, .slice A l.length c] 32 (0, 0))) := Lib.hid (blk_drew HL1.out)
  have HRX : Hid (RW w1.drew A c l) := Lib.hid (h.out.below HBX.out)
  clear HB1 HL1 h
  go_region_held3 (fun w' => w'.cell? ⟨B, 0, none⟩ = some (.int .i64 W) ∧ w'.cell? ⟨B, 1, none⟩ = some (.int .i64 H) ∧ w'.cell? ⟨B, 2, none⟩ = some (.slice A l.length c)) (first | exact three HLX.out | (simp [*]; done))
    (first
      | (go_at_call 14; with_reducible refine (f14_r W H A c l bins most r k1 E1 _ HRX).mono ?_; rintro e wn ⟨A1, c1, rfl, hr1, hbn⟩; replace HBX : Hid (Below w.heap.size w wn) := Lib.hid (HBX.out.trans (hbn.mono HBX.out.size)); replace HLX := Lib.hid (blk_below HLX.out hbn); replace HRX := Lib.hid (HRX.out.below hbn); (try replace HY := Lib.hid (HY.out.below hbn)); have HX := Lib.hid hr1; clear hbn hr1)
      | (go_at_call 15; with_reducible refine (f15_r W H A c l bins most r k2 E2 _ HRX).mono ?_; rintro e wn ⟨A2, c2, rfl, hr1, hbn⟩; replace HBX : Hid (Below w.heap.size w wn) := Lib.hid (HBX.out.trans (hbn.mono HBX.out.size)); replace HLX := Lib.hid (blk_below HLX.out hbn); replace HRX := Lib.hid (HRX.out.below hbn); (try replace HX := Lib.hid (HX.out.below hbn)); have HY := Lib.hid hr1; clear hbn hr1))
  all_goals
    have hrn : r.length ≤ 9223372036854775807 := HX.out.1.2.1
    have hrr : ((r.length : Int) != (r.length : Int)) = false := by simp
    obtain ⟨wc, hwc⟩ : ∃ wc, wc = wn := ⟨_, rfl⟩
    rw [← hwc] at HBX HX HY
    rw [← hwc]
    clear hwc HLX HRX g0 g1 g2 E1 E2
    go_wp2_with fail
    go_loopw [31] (fun v31 wr => ∃ k : Nat, v31 = .int .i64 k ∧ k ≤ r.length ∧ Hid (Below w.heap.size w wr) ∧ Hid (RW wr A1 c1 r) ∧ Hid (RW wr A2 c2 r)) (fun v31 _ => r.length - (intOf v31).toNat)
    case atStart => exact ⟨0, rfl, by omega, HBX, HX, HY⟩
    case round =>
      clear HBX HX HY
      obtain ⟨k, rfl, hk, HBX, HX, HY⟩ := hrel
      by_cases hlt : k < r.length
      · obtain ⟨x1, y1, rfl, _, d1⟩ := HX.out.at_ k hlt
        obtain ⟨x2, y2, rfl, _, d2⟩ := HY.out.at_ k hlt
        obtain ⟨z, hz⟩ : ∃ z, r.getD k 0 = z := ⟨_, rfl⟩
        rw [hz] at d1 d2
        clear hz
        have hzz : (z != z) = false := by simp
        have hk0 : (0 : Int) ≤ k := by omega
        have hk1 : (k : Int) < r.length := by omega
        go_wp2_with fail
        go_quiet (fail)
        go_wp2_with fail
        go_roundw
        case rel => exact ⟨k + 1, by go_num, by omega, Lib.hid (belowN' HBX.out _), Lib.hid (HX.out.below (belowN' (Below.refl _ _) _)), Lib.hid (HY.out.below (belowN' (Below.refl _ _) _))⟩
        case measure => simp [intOf]; omega
      · go_wp2_with fail
        go_ret
        exact ⟨rfl, HBX.out⟩
end Go.Proofs.YtecijaibbjafoaaDoor
