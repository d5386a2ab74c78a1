import Derived.Test.YtpmgobiakgffiaaProg
import Derived.Test.YtpmgobiakgffiaaIns
import Derived.Test.YtpmgobiakgffiaaDel
import Derived.Test.YtpmgobiakgffiaaFr
import Derived.Test.YtpmgobiakgffiaaSame
import Derived.Test.YtpmgobiakgffiaaCall
import Derived.Test.YtpmgobiakgffiaaPut2
import Derived.Test.YtpmgobiakgffiaaTake
import Derived.Deep.LoopGhost
import Derived.Test.YtpmgobiakgffiaaSmall
import Derived.WalkKit
import Derived.Handy
import Derived.Deep.QuietTactic
import Derived.BigQuiet
import Derived.WalkSpells
import Derived.WalkLawsBesides
import Derived.Outline
import Derived.Lib.Hide
import Derived.Deep.DeepFit
import Derived.StillTailTactics
import Derived.Deep.RegionHeld3
import Derived.Deep.RegionWith
namespace Go.Proofs.Ytpmgobiakgffiaa
open Go.RowKit
theorem back_call (B q lo : Nat) (next n a b c : Int) (ms : List M) (f : Array Value) (w : World) (hB : B ≤ w.heap.size) (hq : Hid (QS w B q next ms)) (hf : Hid (Fr w lo f a b c))
    (h1 : n < next) : Calls Try.prog 11 #[.pointer (some ⟨q, 0, none⟩), .int .i64 n, .agg f] w fun e w' => e = .returned (.int .i64 251) ∧ Hid (Keep w w') ∧ Hid (Below B w w') ∧ Hid (Below w.heap.size w w') := by
  refine (f11_back B q lo next n a b c ms f w hq hf h1).mono ?_
  rintro e w' ⟨rfl, hb⟩
  exact ⟨rfl, Keep.below hb, hb.mono hB, hb⟩
theorem far_call (B q lo : Nat) (next n a b c : Int) (ms : List M) (f : Array Value) (w : World) (hB : B ≤ w.heap.size) (hq : Hid (QS w B q next ms)) (hf : Hid (Fr w lo f a b c))
    (h1 : next + 8 < n) (h2 : n ≤ 9223372036854775807) : Calls Try.prog 11 #[.pointer (some ⟨q, 0, none⟩), .int .i64 n, .agg f] w fun e w' => e = .returned (.int .i64 260) ∧ Hid (Keep w w') ∧ Hid (Below B w w') ∧ Hid (Below w.heap.size w w') := by
  refine (f11_far B q lo next n a b c ms f w hq hf h1 h2).mono ?_
  rintro e w' ⟨rfl, hb⟩
  exact ⟨rfl, Keep.below hb, hb.mono hB, hb⟩
theorem keep_cells {w w' : World} {g : Nat} (h : Hid (Keep w w')) (hg : Hid (∃ cs, w.heap[g]? = some (Obj.cells cs 31 (0, 0)))) : (∀ o, w'.cell? ⟨g, o, none⟩ = w.cell? ⟨g, o, none⟩) ∧ Hid (∃ cs, w'.heap[g]? = some (Obj.cells cs 31 (0, 0))) := by
  obtain ⟨cs, hg⟩ := hg.out
  have hg' := h.out.2 g cs 31 _ hg (by decide) (by decide)
  exact ⟨fun o => (cell_of_row w' g o cs 31 (0, 0) hg').trans (cell_of_row w g o cs 31 (0, 0) hg).symm, ⟨cs, hg'⟩⟩
theorem one_far : ∀ i, 0 ≤ i → i < [(⟨1, 1, 2, 3⟩ : M)].length → (0 : Int) < (nthM [⟨1, 1, 2, 3⟩] i).n := fun i _ h => by
  obtain rfl : i = 0 := by rw [List.length_singleton] at h; omega
  decide
theorem run_two : Run 0 [⟨0, 0, 1, 2⟩, ⟨1, 1, 2, 3⟩] := fun i hi => by
  have : i = 0 ∨ i = 1 := by rw [List.length_cons, List.length_singleton] at hi; omega
  rcases this with rfl | rfl <;> decide
set_option maxHeartbeats 4000000 in
set_option maxRecDepth 100000 in
theorem f8_any (w : World) : Calls Try.prog 8 #[] w fun e w' => e = .returned (.bool true) ∧ Below w.heap.size w w' := by
  obtain ⟨B, hB⟩ : ∃ B, B = w.heap.size := ⟨_, rfl⟩
  have HBB := Lib.hid hB
  have hB0 : B ≤ w.heap.size := by omega
  clear hB
  go_enter Try.func8, Try.ntmps8
  go_wp2_with fail
  refine (new_call B w hB0).mono ?_
  rintro e w1 ⟨q, rfl, HQ1, HK1, HB1⟩
  have hB1 : B ≤ w1.heap.size := by have := HB1.out.size; omega
  go_wp2_with fail
  refine (one_call B 1 _ hB1 (by omega)).mono ?_
  rintro e w2 ⟨p0, c0, p1, c1, p2, c2, rfl, HF2, HK2, HB2, HV2⟩
  have hB2 : B ≤ w2.heap.size := by have := HB2.out.size; omega
  have HQ2 : Hid (QS w2 B q 0 []) := Lib.hid (HQ1.out.keep HV2.out)
  unfold fr9
  go_wp2_with fail
  refine (put_call B q _ 0 1 1 2 3 [] _ _ hB2 HQ2 HF2 (by omega) (by omega) (by omega) 0 (by simp) (fun i h => by omega) (fun i _ h => by simp at h)).mono ?_
  rintro e w3 ⟨rfl, HQ3, HK3, HB3⟩
  have hB3 : B ≤ w3.heap.size := by have := HB3.out.size; omega
  go_wp2_with fail
  refine (take_call B q 0 [⟨1, 1, 2, 3⟩] [] [⟨1, 1, 2, 3⟩] _ hB3 HQ3 (by omega) rfl (fun i hi => by simp at hi) (fun m r h => by injection h with h; subst h; decide)).mono ?_
  rintro e w4 ⟨A4, c4, rfl, _, HQ4, HK4, HB4⟩
  have hB4 : B ≤ w4.heap.size := by have := HB4.out.size; omega
  go_wp2_with fail
  refine (end_call B q _ _ _ HQ4 260 rfl).mono ?_
  rintro e w' ⟨rfl, rfl⟩
  go_wp2_with fail
  refine (one_call B 0 _ hB4 (by omega)).mono ?_
  rintro e w5 ⟨p3, c3, p4, c5, p5, c6, rfl, HF5, HK5, HB5, HV5⟩
  have hB5 : B ≤ w5.heap.size := by have := HB5.out.size; omega
  have HQ5 : Hid (QS w5 B q 0 [⟨1, 1, 2, 3⟩]) := Lib.hid (HQ4.out.keep HV5.out)
  unfold fr9
  go_wp2_with fail
  refine (put_call B q _ 0 0 0 1 2 [⟨1, 1, 2, 3⟩] _ _ hB5 HQ5 HF5 (by omega) (by omega) (by omega) 0 (by simp) (fun i h => by omega) one_far).mono ?_
  rintro e w6 ⟨rfl, HQ6, HK6, HB6⟩
  have hB6 : B ≤ w6.heap.size := by have := HB6.out.size; omega
  go_wp2_with fail
  refine (take_call B q 0 [⟨0, 0, 1, 2⟩, ⟨1, 1, 2, 3⟩] [⟨0, 0, 1, 2⟩, ⟨1, 1, 2, 3⟩] [] _ hB6 HQ6 (by omega) rfl run_two (fun m r h => by cases h)).mono ?_
  rintro e w7 ⟨A7, c7, rfl, HFR7, HQ7, HK7, HB7⟩
  have hB7 : B ≤ w7.heap.size := by have := HB7.out.size; omega
  obtain ⟨g, c, hv, hWg, hg31, hit⟩ := HFR7.out.item (by simp)
  have hA7 : A7 = some ⟨g, 0, none⟩ := by injection hv
  subst hA7
  obtain ⟨r0, d0, r1, d1, r2, d2, hfr, hcl⟩ := hit 1 (by simp)
  have HFX : Hid (Fr w7 0 (fr9 r0 d0 r1 d1 r2 d2) 1 2 3) := Lib.hid hfr
  have HQX : Hid (QS w7 B q 2 []) := HQ7
  have HGX := Lib.hid hg31
  have hBX := hB7
  have s0 : w7.cell? ⟨g, 9, none⟩ = some (.int .i64 1) := hcl 0 (by omega)
  have s1 : w7.cell? ⟨g, 10, none⟩ = some (.int .i64 1) := hcl 1 (by omega)
  have s2 : w7.cell? ⟨g, 11, none⟩ = some (.slice (some ⟨r0, 0, none⟩) 1 d0) := hcl 2 (by omega)
  have s3 : w7.cell? ⟨g, 12, none⟩ = some (.int .i64 1) := hcl 3 (by omega)
  have s4 : w7.cell? ⟨g, 13, none⟩ = some (.int .i64 1) := hcl 4 (by omega)
  have s5 : w7.cell? ⟨g, 14, none⟩ = some (.slice (some ⟨r1, 0, none⟩) 1 d1) := hcl 5 (by omega)
  have s6 : w7.cell? ⟨g, 15, none⟩ = some (.int .i64 1) := hcl 6 (by omega)
  have s7 : w7.cell? ⟨g, 16, none⟩ = some (.int .i64 1) := hcl 7 (by omega)
  have s8 : w7.cell? ⟨g, 17, none⟩ = some (.slice (some ⟨r2, 0, none⟩) 1 d2) := hcl 8 (by omega)
  have hBB : Hid (Below B w w7) := Lib.hid (HB1.out.trans (HB2.out.trans (HB3.out.trans (HB4.out.trans (HB5.out.trans (HB6.out.trans HB7.out))))))
  clear hcl hit hfr hv HB1 HB2 HB3 HB4 HB5 HB6 HB7 HK1 HK2 HK3 HK4 HK5 HK6 HK7 HQ1 HQ2 HQ3 HQ4 HQ5 HQ6 HQ7 HF2 HF5
  replace HFX : Hid (Fr w7.drew 0 (fr9 r0 d0 r1 d1 r2 d2) 1 2 3) := HFX
  replace HQX : Hid (QS w7.drew B q 2 []) := Lib.hid (HQX.out.keep ((Below.refl _ _).drew))
  replace HGX : Hid (∃ cs, w7.drew.heap[g]? = some (Obj.cells cs 31 (0, 0))) := HGX
  replace hBX : B ≤ w7.drew.heap.size := hBX
  replace hBB : Hid (Below B w w7.drew) := Lib.hid hBB.out.drew
  go_wp2_with fail
  go_region_held3 (fun w' => w'.cell? ⟨g, 9, none⟩ = some (.int .i64 1) ∧ w'.cell? ⟨g, 10, none⟩ = some (.int .i64 1) ∧ w'.cell? ⟨g, 11, none⟩ = some (.slice (some ⟨r0, 0, none⟩) 1 d0) ∧ w'.cell? ⟨g, 12, none⟩ = some (.int .i64 1) ∧ w'.cell? ⟨g, 13, none⟩ = some (.int .i64 1) ∧ w'.cell? ⟨g, 14, none⟩ = some (.slice (some ⟨r1, 0, none⟩) 1 d1) ∧ w'.cell? ⟨g, 15, none⟩ = some (.int .i64 1) ∧ w'.cell? ⟨g, 16, none⟩ = some (.int .i64 1) ∧ w'.cell? ⟨g, 17, none⟩ = some (.slice (some ⟨r2, 0, none⟩) 1 d2)) (first | (simp [*]; done)) (first | (go_at_call 10; refine (one_call B 1 _ ?_ (by omega)).mono ?_; exact hBX; rintro e wx ⟨p0, c0, p1, c1, p2, c2, rfl, HFn, HKn, HBn, HVn⟩; replace hBX : B ≤ wx.heap.size := Nat.le_trans hBX HBn.out.size; replace HQX : Hid (QS wx B q 2 []) := Lib.hid (HQX.out.keep HVn.out); replace HFX : Hid (Fr wx 0 (fr9 r0 d0 r1 d1 r2 d2) 1 2 3) := Lib.hid (HFX.out.nums HKn.out.nums); obtain ⟨hcx, HGn⟩ := keep_cells HKn HGX; replace HGX := HGn; replace hBB : Hid (Below B w wx) := Lib.hid (hBB.out.trans HBn.out); unfold fr9) | (go_at_call 13; refine (same_call B _ _ 0 _ 1 2 3 1 2 3 _ hBX HFX HFn true rfl).mono ?_; rintro e wx ⟨rfl, HKn, HBn, HVn⟩; replace hBX : B ≤ wx.heap.size := Nat.le_trans hBX HBn.out.size; replace HQX : Hid (QS wx B q 2 []) := Lib.hid (HQX.out.keep HVn.out); replace HFX : Hid (Fr wx 0 (fr9 r0 d0 r1 d1 r2 d2) 1 2 3) := Lib.hid (HFX.out.nums HKn.out.nums); obtain ⟨hcx, HGn⟩ := keep_cells HKn HGX; replace HGX := HGn; replace hBB : Hid (Below B w wx) := Lib.hid (hBB.out.trans HBn.out)) | (go_at_call 15; refine (next_call B q 2 [] _ HQX).mono ?_; rintro e wx ⟨rfl, rfl⟩) | (go_at_call 11; with_reducible refine (back_call B q _ 2 1 1 2 3 [] _ _ hBX HQX HFn (by omega)).mono ?_; rintro e wx ⟨rfl, HKn, HBn, HVn⟩; replace hBX : B ≤ wx.heap.size := Nat.le_trans hBX HBn.out.size; replace HQX : Hid (QS wx B q 2 []) := Lib.hid (HQX.out.keep HVn.out); replace HFX : Hid (Fr wx 0 (fr9 r0 d0 r1 d1 r2 d2) 1 2 3) := Lib.hid (HFX.out.nums HKn.out.nums); obtain ⟨hcx, HGn⟩ := keep_cells HKn HGX; replace HGX := HGn; replace hBB : Hid (Below B w wx) := Lib.hid (hBB.out.trans HBn.out)) | (go_at_call 11; with_reducible refine (far_call B q _ 2 11 1 2 3 [] _ _ hBX HQX HFn (by omega) (by omega)).mono ?_; rintro e wx ⟨rfl, HKn, HBn, HVn⟩; replace hBX : B ≤ wx.heap.size := Nat.le_trans hBX HBn.out.size; replace HQX : Hid (QS wx B q 2 []) := Lib.hid (HQX.out.keep HVn.out); replace HFX : Hid (Fr wx 0 (fr9 r0 d0 r1 d1 r2 d2) 1 2 3) := Lib.hid (HFX.out.nums HKn.out.nums); obtain ⟨hcx, HGn⟩ := keep_cells HKn HGX; replace HGX := HGn; replace hBB : Hid (Below B w wx) := Lib.hid (hBB.out.trans HBn.out)) | (go_at_call 14; refine (end_call B q 2 [] _ HQX 0 rfl).mono ?_; rintro e wx ⟨rfl, rfl⟩))
  go_wp2
  go_ret
  exact ⟨rfl, by rw [← HBB.out]; exact hBB.out⟩
end Go.Proofs.Ytpmgobiakgffiaa
