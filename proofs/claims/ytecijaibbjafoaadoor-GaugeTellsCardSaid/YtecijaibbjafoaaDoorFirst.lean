import Derived.Test.YtecijaibbjafoaaDoorFrames
import Derived.Test.YtecijaibbjafoaaDoorOne
import Derived.Test.YtecijaibbjafoaaDoorTxt
namespace Go.Proofs.YtecijaibbjafoaaDoor
open Go.RowKit Go.Proofs.YtecijaibbjafoaaDoorW.PrintWords Go.Proofs.YtecijaibbjafoaaDoorW.PrintLast Go.Proofs.YtecijaibbjafoaaDoorW.PrintMore Go.Proofs.YtecijaibbjafoaaDoor.PG
theorem rw_three {w : World} {g : Nat} {x y z : Int} (h : w.heap[g]? = some (.cells #[.int .i64 x, .int .i64 y, .int .i64 z] 3 (0, 0))) : RW w (some ⟨g, 0, none⟩) 3 [x, y, z] := by
  refine ⟨⟨rfl, by simp, fun _ => ⟨_, rfl, fun j p hj => ⟨[.int .i64 p], rfl, rfl, fun i u hu => ?_⟩⟩⟩, Nat.le_refl _⟩
  have hi : i = 0 := by have := (List.getElem?_eq_some_iff.1 hu).1; simpa using this
  subst hi
  simp at hu
  subst hu
  rw [Addr.add_lit]
  refine (blk_cell h _).trans ?_
  have hj3 : j < 3 := by have := (List.getElem?_eq_some_iff.1 hj).1; simpa using this
  have : j = 0 ∨ j = 1 ∨ j = 2 := by omega
  rcases this with rfl | rfl | rfl <;> (injection hj with hj; subst hj; rfl)
theorem hist_first : gauge_Histogram.f 10 3 1 [0, 5, 9] 2 9 = some [1, 2] := by decide +kernel
theorem level_first : levelR 3 12 2 = 0 := by decide +kernel
theorem rate_first : rateR 3 8 = 3000 := by decide +kernel
theorem frame_first0 (A D : Option Addr) : gP ⟨1, 1, A, 1, [wrap64 4]⟩ ⟨1, 1, D, 1, [wrap64 6]⟩ = ⟨1, 1, 2, 2, 4⟩ := by kernel_rfl
theorem frame_first1 (A D : Option Addr) : gP ⟨1, 1, A, 1, [wrap64 (4 + 1)]⟩ ⟨1, 1, D, 1, [wrap64 (6 + 1)]⟩ = ⟨1, 1, 2, 2, 4⟩ := by kernel_rfl
theorem frame_first2 (A D : Option Addr) : gP ⟨1, 1, A, 1, [wrap64 (4 + 2)]⟩ ⟨1, 1, D, 1, [wrap64 (6 + 2)]⟩ = ⟨1, 1, 2, 2, 4⟩ := by kernel_rfl
theorem itoa_zero : numB 0 = ⟨#[48]⟩ := by
  unfold numB Lib.itoa
  rw [if_neg (by decide), show (0 : Int).toNat = 0 from rfl, Lib.decDigits_one (by decide)]
  rfl
theorem text_first : txt (numB 0) (numB 0) (numB 0) (numB 0) (numB 0) = ⟨#[99, 111, 117, 110, 116, 32, 48, 32, 100, 105, 102, 102, 101, 114, 32, 48, 32, 119, 111, 114, 115, 116, 32, 48, 32, 115, 117, 109, 32, 48, 32, 115, 113, 117, 97, 114, 101, 115, 32, 48]⟩ := by
  rw [itoa_zero]
  apply ByteArray.ext
  unfold txt
  simp only [ByteArray.data_append]
  decide
theorem one_ok {w : World} {p : Nat} {x : Int} (h : RW w (some ⟨p, 0, none⟩) 1 [x]) (hx : -9223372036854775808 ≤ x ∧ x ≤ 9223372036854775807) : (⟨1, 1, some ⟨p, 0, none⟩, 1, [x]⟩ : Pn).ok w := ⟨h, fun y hy => by simp at hy; subst hy; exact hx⟩
set_option maxHeartbeats 4000000 in
set_option maxRecDepth 100000 in
theorem f7_any (w : World) (ht : Hid (Tab w)) : Calls Tryd.prog 7 #[] w fun e w' => e = .returned (.bool true) ∧ Below w.heap.size w w' := by
  go_enter Tryd.func7, Tryd.ntmps7
  go_wp2_with fail
  refine (f24_any 4 w).mono ?_
  rintro e w1 ⟨a0, a1, a2, rfl, ra0, ra1, ra2, hb1⟩
  have HA0 := Lib.hid (one_ok ra0 (wrap_in _))
  have HA1 := Lib.hid (one_ok ra1 (wrap_in _))
  have HA2 := Lib.hid (one_ok ra2 (wrap_in _))
  have HB1 := Lib.hid hb1
  clear ra0 ra1 ra2 hb1
  go_wp2_with fail
  refine (f24_any 6 w1).mono ?_
  rintro e w2 ⟨b0, b1, b2, rfl, rb0, rb1, rb2, hb2⟩
  replace HA0 := Lib.hid (HA0.out.below hb2)
  replace HA1 := Lib.hid (HA1.out.below hb2)
  replace HA2 := Lib.hid (HA2.out.below hb2)
  have HC0 := Lib.hid (one_ok rb0 (wrap_in _))
  have HC1 := Lib.hid (one_ok rb1 (wrap_in _))
  have HC2 := Lib.hid (one_ok rb2 (wrap_in _))
  have HB2 := Lib.hid (HB1.out.trans (hb2.mono HB1.out.size))
  clear rb0 rb1 rb2 hb2 HB1
  have HF := Lib.hid (f19_any _ _ _ _ _ _ ⟨1, 1, 2, 2, 4⟩ ⟨1, 1, 2, 2, 4⟩ ⟨1, 1, 2, 2, 4⟩ ⟨1, 1, 2, 2, 4⟩ ⟨2, 2, 2, 4, 8⟩ ⟨3, 3, 2, 6, 12⟩ w2 HA0 HA1 HA2 HC0 HC1 HC2 (Lib.hid (frame_first0 _ _)) (Lib.hid (frame_first1 _ _)) (Lib.hid (frame_first2 _ _)) (Lib.hid (by kernel_rfl)) (Lib.hid (by kernel_rfl)) (Lib.hid (by kernel_rfl)))
  clear HA0 HA1 HA2 HC0 HC1 HC2
  unfold fr9
  go_wp2_with fail
  refine HF.out.mono ?_
  rintro e w3 ⟨rfl, hb3⟩
  have HB3 := Lib.hid (HB2.out.trans (hb3.mono HB2.out.size))
  clear HF HB2 hb3
  go_wp2_with fail
  obtain ⟨wy, hwy⟩ : ∃ wy, wy = (w3.alloc (.cells #[.int .i64 3, .int .i64 3, .int .i64 2, .int .i64 6, .int .i64 12] 23)).alloc (.cells #[.int .i64 0, .int .i64 5, .int .i64 9] 3) := ⟨_, rfl⟩
  obtain ⟨gb, hgb⟩ : ∃ gb, gb = w3.heap.size := ⟨_, rfl⟩
  have HG : Hid (wy.heap[gb]? = some (.cells #[.int .i64 3, .int .i64 3, .int .i64 2, .int .i64 6, .int .i64 12] 23 (0, 0))) := by rw [hwy, hgb]; exact Lib.hid (blk_alloc (blk_new _ _) _)
  have HR : Hid (RW wy (some ⟨gb + 1, 0, none⟩) 3 [0, 5, 9]) := by rw [hwy, hgb]; exact Lib.hid (rw_three (blk_at0 _ _ _ (by simp)))
  have HB4 : Hid (Below w.heap.size w wy) := by rw [hwy]; exact Lib.hid ((HB3.out.alloc HB3.out.size _).alloc (by have := HB3.out.size; simp; omega) _)
  rw [← hwy, ← hgb]
  clear hwy hgb HB3
  refine (gauge_Histogram.calls 10 3 1 (some ⟨gb + 1, 0, none⟩) 3 [0, 5, 9] 2 9 [1, 2] wy HR.out.1 HR.out.2 hist_first).mono ?_
  rintro e w4 ⟨v, rfl, hv, hb4⟩
  obtain ⟨A, c, rfl, hc1, hc2⟩ := Kd.R_reads hv
  obtain ⟨bb, oo, rfl, hbb, hcell⟩ := RW.at_ ⟨hc2, hc1⟩ 1 (by simp)
  have HG4 := Lib.hid (blk_below HG.out hb4)
  have HB5 := Lib.hid (HB4.out.trans (hb4.mono HB4.out.size))
  clear hv hb4 hc1 hc2 HG HB4 HR hbb
  have HL := Lib.hid (fun w => f8_any 3 3 2 6 12 2 w)
  rw [level_first] at HL
  have HRT := Lib.hid (fun w => f10_any 3 8 w)
  rw [rate_first] at HRT
  have HT := Lib.hid (f12_any ⟨0, 0, 0, 0, 0⟩ (Lib.hid ⟨⟨by decide, by decide⟩, ⟨by decide, by decide⟩, ⟨by decide, by decide⟩, ⟨by decide, by decide⟩, ⟨by decide, by decide⟩⟩))
  have HT5 := Lib.hid (fun w => f23_r ⟨3, 3, 2, 6, 12⟩ ⟨3, 3, 2, 6, 12⟩ ⟨6, 6, 2, 12, 24⟩ (Lib.hid (by kernel_rfl)) w)
  rw [text_first] at HT
  obtain ⟨g0, g1, g2, g3, g4, y0, y1, y2, y3, y4⟩ := five HG4.out
  clear y0 y1 y2 y3 y4
  have HCE := Lib.hid hcell
  clear hcell
  go_wp2_with fail
  with_reducible refine (HL.out _).mono ?_
  rintro e w5 ⟨rfl, hb5⟩
  clear g0 g1 g2 g3 g4
  have HG5 := Lib.hid (blk_below HG4.out hb5)
  have HB6 := Lib.hid (HB5.out.trans (hb5.mono HB5.out.size))
  have hcell : w5.cell? ⟨bb, oo + 1, none⟩ = some (.int .i64 2) := (hb5.cell (World.block_lt_of_cell? w4 _ HCE.out)).trans HCE.out
  clear HG4 HB5 hb5 HL HCE
  have HTB : Hid (Tab w5) := Lib.hid (ht.out.below HB6.out)
  go_wp2_with fail
  with_reducible refine (HRT.out _).mono ?_
  rintro e w' ⟨rfl, rfl⟩
  go_wp2_with fail
  with_reducible refine (HT.out _ HTB).mono ?_
  rintro e w6 ⟨rfl, hb6⟩
  have HG6 := Lib.hid (blk_below HG5.out hb6)
  have HB7 := Lib.hid (HB6.out.trans (hb6.mono HB6.out.size))
  clear HG5 HB6 hb6 hcell HTB HT
  obtain ⟨g0, g1, g2, g3, g4, y0, y1, y2, y3, y4⟩ := five HG6.out
  clear y0 y1 y2 y3 y4
  go_wp2_with fail
  with_reducible refine (HT5.out _).mono ?_
  rintro e w7 ⟨rfl, hb7⟩
  have fx : ∀ w, (Instr.field 23 (.agg #[.int .i64 6, .int .i64 6, .int .i64 2, .int .i64 12, .int .i64 24]) 4).run Tryd.prog w = .ok (.int .i64 24) w := fun _ => by kernel_rfl
  go_wp2_with fail
  go_ret
  exact ⟨rfl, HB7.out.trans (hb7.mono HB7.out.size)⟩
end Go.Proofs.YtecijaibbjafoaaDoor
