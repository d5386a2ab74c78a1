import Derived.Test.YtpmgobiakgffiaaProg
import Derived.Test.YtpmgobiakgffiaaIns
import Derived.Test.YtpmgobiakgffiaaDel
import Derived.Test.YtpmgobiakgffiaaFr
import Derived.Test.YtpmgobiakgffiaaSame
import Derived.Test.YtpmgobiakgffiaaFirst
import Derived.Test.YtpmgobiakgffiaaRunsP
import Derived.Test.YtpmgobiakgffiaaPut2
import Derived.Test.YtpmgobiakgffiaaTake
import Derived.Deep.LoopGhost
import Derived.Test.YtpmgobiakgffiaaSmall
import Derived.WalkKit
import Derived.Handy
import Derived.Deep.QuietTactic
import Derived.BigQuiet
import Derived.WalkSpells
import Derived.WalkLawsBesides
import Derived.Outline
import Derived.Lib.Hide
import Derived.Deep.DeepFit
import Derived.StillTailTactics
import Derived.Deep.RegionHeld3
import Derived.Deep.RegionWith
namespace Go.Proofs.Ytpmgobiakgffiaa
open Go.RowKit
theorem Fr.vb0 {w : World} {lo p0 c0 p1 c1 p2 c2 : Nat} {a b c : Int} (h : Fr w lo (fr9 p0 c0 p1 c1 p2 c2) a b c) : VB w lo p0 a := by
  obtain ⟨q0, d0, q1, d1, q2, d2, e, v0, v1, v2⟩ := h
  simp only [fr9, Array.mk.injEq, List.cons.injEq, Value.slice.injEq, Option.some.injEq, Addr.mk.injEq, and_true, true_and] at e
  obtain ⟨⟨rfl, rfl⟩, _⟩ := e
  exact v0
theorem VB.froz {w : World} {lo p : Nat} {a : Int} (h : VB w lo p a) : w.frozen? ⟨p, 0, none⟩ = false := by
  obtain ⟨_, cur, hc, _⟩ := h
  exact frozen_of_row w p 0 cur 3 hc
set_option maxHeartbeats 4000000 in
set_option maxRecDepth 100000 in
theorem f3_any (A : Option Addr) (sn sc : Nat) (n : Nat) (hn : n ≤ 255) (w : World) (hsn : sn ≤ 9223372036854775807) (hsw : Hid (∀ i, i < sn → ∃ ad s, A = some ad ∧ w.cell? (ad.add i) = some (.int .u8 s) ∧ 0 ≤ s ∧ s ≤ 255)) : Calls Try.prog 3 #[.slice A sn sc, .int .u8 n] w fun e w' => e = .returned (.bool true) ∧ Below w.heap.size w w' := by
  obtain ⟨k, hk⟩ : ∃ k, n % 60 = k := ⟨_, rfl⟩
  have hk60 : k < 60 := by omega
  have hki : (n : Int) % 60 = (k : Int) := by omega
  have hmk := run_make_row' (P := Try.prog) 24 3 (.int .i64 0) 8 Try.underlying24 info3 rfl .i64 .i64 k (by omega) (by omega)
  go_enter Try.func3, Try.ntmps3
  go_wp2_with fail
  refine (f8_any w).mono ?_
  rintro e w1 ⟨rfl, hb1⟩
  have HB1 := Lib.hid hb1; clear hb1
  go_wp2_with fail
  obtain ⟨lb, hlb⟩ : ∃ lb, lb = w1.heap.size := ⟨_, rfl⟩
  rw [← hlb]
  have HW : Hid (w.heap.size ≤ lb) := by have := HB1.out.size; rw [hlb]; exact this
  have H0 : Hid ((w1.alloc (.cells (madeCells #[.int .i64 0] k) 3)).heap[lb]? = some (.cells (lrow (filled k 0)) 3 (0, 0))) := by
    rw [hlb, show filled k 0 = List.replicate k 0 by simp [filled], ← lrow_made]; exact heap_alloc_new w1 _
  have HB0 : Hid (Below w.heap.size w (w1.alloc (.cells (madeCells #[.int .i64 0] k) 3))) := Lib.hid (HB1.out.alloc HB1.out.size _)
  clear hmk hlb hki
  go_loopw [28] (fun v wr => ∃ i : Nat, v = .int .i64 i ∧ i ≤ k ∧ Hid (wr.heap[lb]? = some (.cells (lrow (filled k i)) 3 (0, 0))) ∧ Hid (Below w.heap.size w wr)) (fun v _ => (k - intOf v).toNat)
  case atStart => exact ⟨0, rfl, by omega, H0, HB0⟩
  case round =>
    obtain ⟨i, rfl, hik, HR, HBr⟩ := hrel
    by_cases hlt : i < k
    · have hc : wr.cell? ⟨lb, i, none⟩ = some (.int .i64 (nthL (filled k i) i)) := (cell_of_row wr lb i _ 3 (0, 0) HR.out).trans (lrow_get _ i (by rw [filled_length k i hik]; exact hlt))
      have hz : wr.frozen? ⟨lb, i, none⟩ = false := frozen_of_row wr lb i _ 3 HR.out
      go_wp2
      go_roundw
      case rel => exact ⟨i + 1, by go_num, by omega, Lib.hid (by rw [heap_setCell_same wr lb i _ 3 _ HR.out, lrow_set, filled_set k i hlt]), Lib.hid (HBr.out.setCell (by exact HW.out) _)⟩
      case measure => simp [intOf]; omega
    · obtain rfl : k = i := by omega
      have HP : Hid (wr.heap[lb]? = some (.cells (lrow (List.range k)) 3 (0, 0))) := by have := HR.out; rwa [show filled k k = List.range k by simp [filled]] at this
      clear HR H0 HB0
      go_wp2
      obtain ⟨wo, rfl⟩ : ∃ wo : World, wo = wr := ⟨_, rfl⟩
      go_loopw [38] (fun v wr => ∃ (i : Nat) (L : List Nat), v = .int .i64 i ∧ i ≤ sn ∧ Hid (Perm4 k L) ∧ Hid (wr.heap[lb]? = some (.cells (lrow L) 3 (0, 0))) ∧ Hid (Below w.heap.size w wr)) (fun v _ => (sn - intOf v).toNat)
      case atStart => exact ⟨0, _, rfl, by omega, Lib.hid (Perm4.range k), HP, HBr⟩
      case round =>
        obtain ⟨i, L, rfl, his, HL, HR, HBr⟩ := hrel
        by_cases hlt : i < sn
        · obtain ⟨ad, s, hA, hcs, hs0, hs1⟩ := hsw.out i hlt
          subst hA
          have hcs2 : wr.cell? (ad.add i) = some (.int .u8 s) := cell_later HBr.out hcs
          clear hcs
          obtain ⟨s', hs'⟩ : ∃ s' : Nat, s = (s' : Int) := ⟨s.toNat, by omega⟩
          subst hs'
          by_cases hk0 : (k : Int) < 1
          · have hk00 : ¬ ((0 : Int) < (k : Int)) := by omega
            go_wp2
            go_quiet (fail)
            by_cases h300 : i < 300
            all_goals
              go_wp2
              go_roundw
              case rel => exact ⟨i + 1, L, by go_num, by omega, HL, HR, belowN HBr.out _⟩
              case measure => simp [intOf]; omega
          · obtain ⟨a, ha⟩ : ∃ a, i % k = a := ⟨_, rfl⟩
            obtain ⟨c, hc⟩ : ∃ c, a / 4 = c := ⟨_, rfl⟩
            obtain ⟨d, hd⟩ : ∃ d, s' % 4 = d := ⟨_, rfl⟩
            have hak : a < k := by rw [← ha]; exact Nat.mod_lt _ (by omega)
            have hd3 : d ≤ 3 := by omega
            have hc15 : c ≤ 15 := by omega
            have hab : a / 4 = (c * 4 + d) / 4 := by omega
            have HAB := Lib.hid hab
            have hmod : (i : Int) % (k : Int) = (a : Int) := by rw [← ha]; rfl
            have hdiv : (a : Int) / 4 = (c : Int) := by omega
            have hsm : (s' : Int) % 4 = (d : Int) := by omega
            have hk1 : (1 : Int) ≤ (k : Int) := by omega
            clear hab ha hc hd
            go_wp2
            go_quiet (fail)
            by_cases hgo : i < 300 ∧ c * 4 + d < k
            · obtain ⟨h300, hbk⟩ := hgo
              obtain ⟨b, hb⟩ : ∃ b : Nat, c * 4 + d = b := ⟨_, rfl⟩
              have hbi : (c : Int) * 4 + (d : Int) = (b : Int) := by omega
              rw [hb] at hbk
              have HAB2 : Hid (a / 4 = b / 4) := by have := HAB.out; rwa [hb] at this
              clear hb HAB
              have HLL := HL.out.len
              have ca : wr.cell? ⟨lb, a, none⟩ = some (.int .i64 (nthL L a)) := (cell_of_row wr lb a _ 3 (0, 0) HR.out).trans (lrow_get _ a (by rw [HLL]; exact hak))
              have cb : wr.cell? ⟨lb, b, none⟩ = some (.int .i64 (nthL L b)) := (cell_of_row wr lb b _ 3 (0, 0) HR.out).trans (lrow_get _ b (by rw [HLL]; exact hbk))
              have za : wr.frozen? ⟨lb, a, none⟩ = false := frozen_of_row wr lb a _ 3 HR.out
              have zb : wr.frozen? ⟨lb, b, none⟩ = false := frozen_of_row wr lb b _ 3 HR.out
              have HLL2 := Lib.hid HLL
              clear HLL
              by_cases hab : a = b
              · subst hab
                go_wp2
                go_region
                go_wp2
                go_roundw
                case rel => exact ⟨i + 1, swapped L a a, by go_num, by omega, Lib.hid (HL.out.swap hak hbk rfl), Lib.hid (swap_heap (belowN (Below.refl _ _) _) HR.out), Lib.hid (((belowN HBr.out _).drew.setCell HW.out _).setCell HW.out _)⟩
                case measure => simp [intOf]; omega
              · go_wp2
                go_region
                go_wp2
                go_roundw
                case rel => exact ⟨i + 1, swapped L a b, by go_num, by omega, Lib.hid (HL.out.swap hak hbk HAB2.out), Lib.hid (swap_heap (belowN (Below.refl _ _) _) HR.out), Lib.hid (((belowN HBr.out _).drew.setCell HW.out _).setCell HW.out _)⟩
                case measure => simp [intOf]; omega
            · have hgo2 : i < 300 → ¬ ((c : Int) * 4 + (d : Int) < (k : Int)) := fun h => by omega
              by_cases h300 : i < 300
              · have hgo3 := hgo2 h300
                clear hgo hgo2
                go_wp2
                go_roundw
                case rel => exact ⟨i + 1, L, by go_num, by omega, HL, HR, belowN HBr.out _⟩
                case measure => simp [intOf]; omega
              · clear hgo hgo2
                go_wp2
                go_roundw
                case rel => exact ⟨i + 1, L, by go_num, by omega, HL, HR, belowN HBr.out _⟩
                case measure => simp [intOf]; omega
        · obtain rfl : sn = i := by omega
          clear hlt his hsw HP
          go_wp2_with fail
          refine (new_call w.heap.size _ (by exact HBr.out.size)).mono ?_
          rintro e w2 ⟨q, rfl, HQ, HK, HB⟩
          replace HR : Hid (w2.heap[lb]? = some (.cells (lrow L) 3 (0, 0))) := Lib.hid (HK.out.2 lb _ 3 _ HR.out (by decide) (by decide))
          replace HB : Hid (Below w.heap.size w w2) := Lib.hid (HBr.out.trans HB.out)
          clear HBr HK
          go_wp2_with fail
          go_loopw [13, 87] (fun v13 v87 wr => ∃ (j nx : Nat) (ms : List M), v13 = .int .i64 nx ∧ v87 = .int .i64 j ∧ j ≤ k ∧ Hid (Inv L j nx ms) ∧ Hid (QS wr w.heap.size q nx ms) ∧ Hid (wr.heap[lb]? = some (.cells (lrow L) 3 (0, 0))) ∧ Hid (Below w.heap.size w wr)) (fun _ v87 _ => (k - intOf v87).toNat)
          case atStart => exact ⟨0, 0, [], rfl, rfl, by omega, Lib.hid (Inv.start L), HQ, HR, HB⟩
          case round =>
            obtain ⟨j, nx, ms, rfl, rfl, hjk, HI, HQr, HRr, HBr⟩ := hrel
            have hW : w.heap.size ≤ wr.heap.size := HBr.out.size
            by_cases hlt : j < k
            · obtain ⟨v, hv⟩ : ∃ v, v = nthL L j := ⟨_, rfl⟩
              obtain ⟨m1, m2, m3⟩ := HI.out.may HL.out HQr.out.good hlt
              have m4 : nthL L j < k := (HL.out.blk j hlt).1
              have hc : wr.cell? ⟨lb, j, none⟩ = some (.int .i64 v) := (cell_of_row wr lb j _ 3 (0, 0) HRr.out).trans ((lrow_get _ j (by rw [HL.out.len]; exact hlt)).trans (by rw [hv]))
              rw [← hv] at m1 m2 m3 m4
              have HV := Lib.hid hv
              have HNO := Lib.hid m3
              clear hv m3
              obtain ⟨xs, hxs⟩ := HQr.out.x
              have HX := Lib.hid hxs
              clear hxs
              go_wp2_with fail
              refine (one_call w.heap.size v _ hW (by omega)).mono ?_
              rintro e w3 ⟨p0, c0, p1, c1, p2, c2, rfl, HF, HK3, HB3, HV3⟩
              unfold fr9
              have hW3 : w.heap.size ≤ w3.heap.size := Nat.le_trans hW HB3.out.size
              go_wp2_with fail
              have HX3 : Hid (QSx (w3.alloc (.cells (fr9 p0 c0 p1 c1 p2 c2) 31)) w.heap.size q nx ms xs) := Lib.hid (HX.out.keep (HV3.out.alloc HV3.out.size _))
              have HF3 : Hid (Fr (w3.alloc (.cells (fr9 p0 c0 p1 c1 p2 c2) 31)) wr.heap.size (fr9 p0 c0 p1 c1 p2 c2) v (v + 1) (v + 2)) := Lib.hid (HF.out.nums (Nums.below ((Below.refl _ _).alloc (Nat.le_refl _) _)))
              have hWA : w.heap.size ≤ (w3.alloc (.cells (fr9 p0 c0 p1 c1 p2 c2) 31)).heap.size := by rw [World.size_alloc]; omega
              refine (put_callx xs w.heap.size q _ nx v v (v + 1) (v + 2) ms _ _ hWA HX3 HF3 (by omega) (by omega) (by omega) HNO).mono ?_
              rintro e w4 ⟨rfl, r, xs', HX4, HU4, HK4, HB4⟩
              have HROW4 : Hid (w4.heap[lb]? = some (.cells (lrow L) 3 (0, 0))) := Lib.hid (HK4.out.2 lb _ 3 _ (blk_old (HK3.out.2 lb _ 3 _ HRr.out (by decide) (by decide))) (by decide) (by decide))
              have HF4 : Hid (VB w4 wr.heap.size p0 v) := Lib.hid (HF3.out.vb0.nums HK4.out.nums)
              have HBX4 : Hid (w4.heap[w3.heap.size]? = some (.cells (fr9 p0 c0 p1 c1 p2 c2) 31 (0, 0))) := Lib.hid (HK4.out.2 _ _ 31 _ (heap_alloc_new w3 _) (by decide) (by decide))
              have hb2 : w4.cell? ⟨w3.heap.size, 2, none⟩ = some (.slice (some ⟨p0, 0, none⟩) 1 c0) := (cell_of_row w4 w3.heap.size 2 _ 31 (0, 0) HBX4.out).trans rfl
              have hp0 : w4.cell? ⟨p0, 0, none⟩ = some (.int .i64 v) := HF4.out.cell
              have hz0 : w4.frozen? ⟨p0, 0, none⟩ = false := HF4.out.froz
              have HP0 : Hid (p0 < w3.heap.size) := Lib.hid HF.out.vb0.lt
              have HB4' : Hid (Below w.heap.size w w4) := Lib.hid (HBr.out.trans ((HB3.out.alloc hW3 _).trans HB4.out))
              clear HB4 HB3 HBX4 HF HF3 HK3 HX3
              go_wp2_with fail
              have HX5 : Hid (QSx (w4.setCell ⟨p0, 0, none⟩ (.int .i64 (-1))) w.heap.size q nx (ms.take r ++ ⟨v, v, v + 1, v + 2⟩ :: ms.drop r) xs') := by
                obtain ⟨hwp, cur, hcur, _⟩ := HF4.out
                refine Lib.hid (HX4.out.poke hcur (fun x hx hu => ?_) 0 _)
                have hp := HP0.out
                rcases HU4.out p0 ⟨x, hx, hu⟩ with h | h
                · have := HX.out.lt p0 h; omega
                · rw [World.size_alloc] at h; omega
              have HROW5 : Hid ((w4.setCell ⟨p0, 0, none⟩ (.int .i64 (-1))).heap[lb]? = some (.cells (lrow L) 3 (0, 0))) := by
                have h1 := HF4.out.1
                have h2 := (Array.getElem?_eq_some_iff.1 HRr.out).1
                exact Lib.hid ((Below.heap_setCell w4 ⟨p0, 0, none⟩ _ lb (fun e => by rw [e] at h2; exact absurd h2 (by simpa using h1))).trans HROW4.out)
              have HB5 : Hid (Below w.heap.size w (w4.setCell ⟨p0, 0, none⟩ (.int .i64 (-1)))) := Lib.hid (HB4'.out.setCell (Nat.le_trans hW HF4.out.1) _)
              have hW5 : w.heap.size ≤ (w4.setCell ⟨p0, 0, none⟩ (.int .i64 (-1))).heap.size := HB5.out.size
              clear hp0 hz0 hb2 HX4 HU4 HK4 HB4' HROW4
              refine (f12_any w.heap.size q nx _ _ hW5 HX5.out.qs (by omega)).mono ?_
              rintro e w6 ⟨done, rest, vv, hd, hrun, hne, rfl, hfr, hqs, hk6, hb6⟩
              obtain ⟨hI, hdn⟩ := HI.out.step (r := r) (by rw [← HV.out]; exact hd) hrun hne
              obtain ⟨A6, c6, rfl⟩ := hfr.form
              have HI6 := Lib.hid hI
              have HDN := Lib.hid hdn
              have HFR6 := Lib.hid hfr
              have HQ6 : Hid (QS w6 w.heap.size q ((nx + done.length : Nat) : Int) rest) := by rw [Int.natCast_add]; exact Lib.hid hqs
              have HROW6 : Hid (w6.heap[lb]? = some (.cells (lrow L) 3 (0, 0))) := Lib.hid (hk6.2 lb _ 3 _ HROW5.out (by decide) (by decide))
              have HB6 : Hid (Below w.heap.size w w6) := Lib.hid (HB5.out.trans hb6)
              have hW6 : w.heap.size ≤ w6.heap.size := HB6.out.size
              have hdl : done.length ≤ 10 := by
                have h9 := good_len HQr.out.good
                have := congrArg List.length hd
                simp at this
                omega
              obtain ⟨d, hdd⟩ : ∃ d, d = done.length := ⟨_, rfl⟩
              rw [← hdd] at HI6 HDN HFR6 HQ6 hdl
              have HDD := Lib.hid hdd
              clear hdd hI hdn hfr hqs hk6 hb6 hd hrun hne HROW5 HB5 HX5 HF4
              clear hW5 HX HNO HQr HRr HBr HI
              go_wp2_with fail
              rw [← HDD.out]
              go_loopw [13, 106] (fun v13 v106 wt => ∃ i : Nat, v13 = .int .i64 ((nx + i : Nat) : Int) ∧ v106 = .int .i64 i ∧ i ≤ d ∧ Hid (Below w6.heap.size w6 wt)) (fun _ v106 _ => (d - intOf v106).toNat)
              case atStart => exact ⟨0, rfl, rfl, by omega, Lib.hid (Below.refl _ _)⟩
              case round =>
                obtain ⟨i, rfl, rfl, hid, HBt⟩ := hrel
                by_cases hlt2 : i < d
                · have hltd : i < done.length := by rw [← HDD.out]; exact hlt2
                  obtain ⟨g, cg, hv6, hWg, hg31, hit⟩ := HFR6.out.item (by omega)
                  have hA6 : A6 = some ⟨g, 0, none⟩ := by injection hv6
                  subst hA6
                  obtain ⟨r0, d0, r1, d1, r2, d2, hfx, hcl⟩ := hit i hltd
                  obtain ⟨ea, eb, ec⟩ := HDN.out i hlt2
                  rw [ea, eb, ec] at hfx
                  have HFX : Hid (Fr wr 0 (fr9 r0 d0 r1 d1 r2 d2) (nx + i) (nx + i + 1) (nx + i + 2)) := Lib.hid (hfx.nums (Nums.below HBt.out))
                  have hg6 : g < w6.heap.size := by obtain ⟨cs, hcs⟩ := hg31; exact (Array.getElem?_eq_some_iff.1 hcs).1
                  have hcc : ∀ o, wr.cell? ⟨g, o, none⟩ = w6.cell? ⟨g, o, none⟩ := fun o => (bcell HBt.out).1 g o hg6
                  have hWr : w.heap.size ≤ wr.heap.size := Nat.le_trans hW6 HBt.out.size
                  have s0 : wr.cell? ⟨g, i * 9, none⟩ = some (.int .i64 1) := (hcc _).trans (hcl 0 (by omega))
                  have s1 : wr.cell? ⟨g, i * 9 + 1, none⟩ = some (.int .i64 1) := (hcc _).trans (hcl 1 (by omega))
                  have s2 : wr.cell? ⟨g, i * 9 + 2, none⟩ = some (.slice (some ⟨r0, 0, none⟩) 1 d0) := (hcc _).trans (hcl 2 (by omega))
                  have s3 : wr.cell? ⟨g, i * 9 + 3, none⟩ = some (.int .i64 1) := (hcc _).trans (hcl 3 (by omega))
                  have s4 : wr.cell? ⟨g, i * 9 + 4, none⟩ = some (.int .i64 1) := (hcc _).trans (hcl 4 (by omega))
                  have s5 : wr.cell? ⟨g, i * 9 + 5, none⟩ = some (.slice (some ⟨r1, 0, none⟩) 1 d1) := (hcc _).trans (hcl 5 (by omega))
                  have s6 : wr.cell? ⟨g, i * 9 + 6, none⟩ = some (.int .i64 1) := (hcc _).trans (hcl 6 (by omega))
                  have s7 : wr.cell? ⟨g, i * 9 + 7, none⟩ = some (.int .i64 1) := (hcc _).trans (hcl 7 (by omega))
                  have s8 : wr.cell? ⟨g, i * 9 + 8, none⟩ = some (.slice (some ⟨r2, 0, none⟩) 1 d2) := (hcc _).trans (hcl 8 (by omega))
                  clear hcl hit hfx hcc hg31 hv6 ea eb ec hc
                  obtain ⟨t, ht⟩ : ∃ t : Nat, nx + i = t := ⟨_, rfl⟩
                  have hti : (nx : Int) + (i : Int) = (t : Int) := by omega
                  have ht2 : nx + (i + 1) = t + 1 := by omega
                  have ht3 : t ≤ 1000 := by omega
                  rw [hti] at HFX
                  rw [ht]
                  have HT2 := Lib.hid ht2
                  clear ht hti ht2
                  go_wp2
                  obtain ⟨bx, hbx⟩ : ∃ bx, bx = wr.heap.size := ⟨_, rfl⟩
                  obtain ⟨wx, hwx⟩ : ∃ wx, wx = wr.alloc (.cells (fr9 r0 d0 r1 d1 r2 d2) 31) := ⟨_, rfl⟩
                  have hbxv : wx.heap[bx]? = some (.cells (fr9 r0 d0 r1 d1 r2 d2) 31 (0, 0)) := by rw [hwx, hbx]; exact heap_alloc_new wr _
                  have HBD : Hid (Below w6.heap.size w6 wx.drew) := by rw [hwx]; exact Lib.hid (HBt.out.alloc HBt.out.size _).drew
                  have HFD : Hid (Fr wx.drew 0 (fr9 r0 d0 r1 d1 r2 d2) t (t + 1) (t + 2)) := by rw [hwx]; exact Lib.hid (HFX.out.nums (Nums.below ((Below.refl _ _).alloc (Nat.le_refl _) _).drew))
                  have HGD : Hid (∃ cs, wx.drew.heap[bx]? = some (Obj.cells cs 31 (0, 0))) := Lib.hid ⟨_, hbxv⟩
                  have hWD : w6.heap.size ≤ wx.drew.heap.size := HBD.out.size
                  have b0 : wx.cell? ⟨bx, 0, none⟩ = some (.int .i64 1) := (cell_of_row wx bx 0 _ 31 (0, 0) hbxv).trans rfl
                  have b1 : wx.cell? ⟨bx, 1, none⟩ = some (.int .i64 1) := (cell_of_row wx bx 1 _ 31 (0, 0) hbxv).trans rfl
                  have b2 : wx.cell? ⟨bx, 2, none⟩ = some (.slice (some ⟨r0, 0, none⟩) 1 d0) := (cell_of_row wx bx 2 _ 31 (0, 0) hbxv).trans rfl
                  have b3 : wx.cell? ⟨bx, 3, none⟩ = some (.int .i64 1) := (cell_of_row wx bx 3 _ 31 (0, 0) hbxv).trans rfl
                  have b4 : wx.cell? ⟨bx, 4, none⟩ = some (.int .i64 1) := (cell_of_row wx bx 4 _ 31 (0, 0) hbxv).trans rfl
                  have b5 : wx.cell? ⟨bx, 5, none⟩ = some (.slice (some ⟨r1, 0, none⟩) 1 d1) := (cell_of_row wx bx 5 _ 31 (0, 0) hbxv).trans rfl
                  have b6 : wx.cell? ⟨bx, 6, none⟩ = some (.int .i64 1) := (cell_of_row wx bx 6 _ 31 (0, 0) hbxv).trans rfl
                  have b7 : wx.cell? ⟨bx, 7, none⟩ = some (.int .i64 1) := (cell_of_row wx bx 7 _ 31 (0, 0) hbxv).trans rfl
                  have b8 : wx.cell? ⟨bx, 8, none⟩ = some (.slice (some ⟨r2, 0, none⟩) 1 d2) := (cell_of_row wx bx 8 _ 31 (0, 0) hbxv).trans rfl
                  unfold fr9 at hwx
                  rw [← hwx, ← hbx]
                  clear hwx hbx hbxv s0 s1 s2 s3 s4 s5 s6 s7 s8 HFX HBt
                  go_region_held3 (fun w' => w'.cell? ⟨bx, 0, none⟩ = some (.int .i64 1) ∧ w'.cell? ⟨bx, 1, none⟩ = some (.int .i64 1) ∧ w'.cell? ⟨bx, 2, none⟩ = some (.slice (some ⟨r0, 0, none⟩) 1 d0) ∧ w'.cell? ⟨bx, 3, none⟩ = some (.int .i64 1) ∧ w'.cell? ⟨bx, 4, none⟩ = some (.int .i64 1) ∧ w'.cell? ⟨bx, 5, none⟩ = some (.slice (some ⟨r1, 0, none⟩) 1 d1) ∧ w'.cell? ⟨bx, 6, none⟩ = some (.int .i64 1) ∧ w'.cell? ⟨bx, 7, none⟩ = some (.int .i64 1) ∧ w'.cell? ⟨bx, 8, none⟩ = some (.slice (some ⟨r2, 0, none⟩) 1 d2)) (first | (simp [*]; done)) (first | (go_at_call 10; refine (one_call w6.heap.size t _ ?_ (by omega)).mono ?_; exact hWD; rintro e wn ⟨p3, c3, p4, c4, p5, c5, rfl, HFn, HKn, HBn, HVn⟩; replace hWD : w6.heap.size ≤ wn.heap.size := Nat.le_trans hWD HBn.out.size; replace HFD : Hid (Fr wn 0 (fr9 r0 d0 r1 d1 r2 d2) t (t + 1) (t + 2)) := Lib.hid (HFD.out.nums HKn.out.nums); obtain ⟨hcx, HGn⟩ := keep_cells HKn HGD; replace HGD := HGn; replace HBD : Hid (Below w6.heap.size w6 wn) := Lib.hid (HBD.out.trans HBn.out); unfold fr9) | (go_at_call 13; refine (same_call w6.heap.size _ _ 0 _ t (t + 1) (t + 2) t (t + 1) (t + 2) _ hWD HFD HFn true (by simp)).mono ?_; rintro e wn ⟨rfl, HKn, HBn, HVn⟩; replace hWD : w6.heap.size ≤ wn.heap.size := Nat.le_trans hWD HBn.out.size; obtain ⟨hcx, HGn⟩ := keep_cells HKn HGD; replace HGD := HGn; replace HBD : Hid (Below w6.heap.size w6 wn) := Lib.hid (HBD.out.trans HBn.out)))
                  go_wp2
                  go_roundw
                  case rel => exact ⟨i + 1, by rw [HT2.out]; go_num, by go_num, by omega, HBD⟩
                  case measure => simp [intOf]; omega
                · obtain rfl : d = i := by omega
                  go_wp2
                  go_roundw
                  case rel => exact ⟨j + 1, nx + d, rest, rfl, by go_num, by omega, HI6, Lib.hid (HQ6.out.keep HBt.out), Lib.hid ((HBt.out.block lb (Array.getElem?_eq_some_iff.1 HROW6.out).1).trans HROW6.out), Lib.hid (HB6.out.trans (HBt.out.mono hW6))⟩
                  case measure => simp [intOf]; omega
            · obtain rfl : k = j := by omega
              obtain ⟨rfl, rfl⟩ := HI.out.last HL.out HQr.out.good
              clear hlt hjk
              go_wp2_with fail
              refine (end_call w.heap.size q _ [] _ HQr 0 rfl).mono ?_
              rintro e w' ⟨rfl, rfl⟩
              go_wp2_with fail
              refine (next_call w.heap.size q _ [] _ HQr).mono ?_
              rintro e w' ⟨rfl, rfl⟩
              go_wp2_with fail
              go_ret
              exact ⟨rfl, HBr.out⟩
end Go.Proofs.Ytpmgobiakgffiaa
