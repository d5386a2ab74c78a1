import Derived.Test.YtecijaibbjafoaaDoorFilms
import Derived.Test.YtecijaibbjafoaaDoorLevLaw
namespace Go.Proofs.YtecijaibbjafoaaDoor
open Go.RowKit Go.Proofs.YtecijaibbjafoaaDoorW.PrintWords Go.Proofs.YtecijaibbjafoaaDoorW.PrintLast Go.Proofs.YtecijaibbjafoaaDoorW.PrintMore Go.Proofs.YtecijaibbjafoaaDoor.PG
set_option linter.unusedVariables false
set_option linter.unusedSimpArgs false
def f6_23_T : Bool × List (List Nat × List Nat) := (true, [([], []), ([], []), ([0, 1], [0, 1]), ([2], [2]), ([], []), ([], []), ([4, 5], [4, 5]), ([6], [6]), ([3, 7], [3, 7]), ([], []), ([9, 8, 8, 0, 1, 2, 3, 4, 5, 6, 7, 8, 9], [8, 9])])
def f6_23_B : List Nat := [0, 0, 3, 7, 0, 0, 48, 112, 255, 0, 1023]
theorem f6_23_tab : rtab .any (opsOf Tryd.f6 23) = f6_23_T := by kernel_rfl
theorem f6_23_bits : waitsOk f6_23_T.2 f6_23_B = true := by kernel_rfl
def f6_24_T : Bool × List (List Nat × List Nat) := (true, [([], []), ([], []), ([0, 1], [0, 1]), ([2], [2]), ([], []), ([], []), ([4, 5], [4, 5]), ([6], [6]), ([3, 7], [3, 7]), ([], []), ([8, 9], [8, 9]), ([10, 8], [10]), ([11], [11]), ([11], [11]), ([12, 13, 11], [11, 12, 13]), ([14, 11], [11, 14]), ([15, 11], [11, 15]), ([16, 11], [11, 16]), ([11], [11]), ([11], [11]), ([18, 19, 11], [11, 18, 19]), ([20, 11], [11, 20]), ([21, 11], [11, 21]), ([22, 11], [11, 22]), ([17, 23, 11, 11], [11, 17, 23]), ([11], [11]), ([11], [11]), ([25, 26, 11], [11, 25, 26]), ([27, 11], [11, 27]), ([28, 11], [11, 28]), ([29, 11], [11, 29]), ([11], [11]), ([11], [11]), ([31, 32, 11], [11, 31, 32]), ([33, 11], [11, 33]), ([34, 11], [11, 34]), ([35, 11], [11, 35]), ([30, 36, 24, 11], [11, 30, 36]), ([24, 37, 11], [11, 24, 37]), ([11, 38], [11, 38])])
def f6_24_B : List Nat := [0, 0, 3, 7, 0, 0, 48, 112, 255, 0, 1023, 2047, 4095, 4095, 16383, 32767, 65535, 131071, 4095, 4095, 790527, 1839103, 3936255, 8130559, 16777215, 4095, 4095, 100667391, 234885119, 503320575, 1040191487, 4095, 4095, 6442455039, 15032389631, 32212258815, 66571997183, 137438953471, 274877906943, 549755813887]
theorem f6_24_tab : rtab .any (opsOf Tryd.f6 24) = f6_24_T := by kernel_rfl
theorem f6_24_bits : waitsOk f6_24_T.2 f6_24_B = true := by kernel_rfl
def f6_28_T : Bool × List (List Nat × List Nat) := (true, [([], []), ([], []), ([0, 1], [0, 1]), ([], []), ([2, 3], [2, 3]), ([4, 2], [4]), ([5], [5]), ([5], [5]), ([6, 7, 5, 5], [5, 6, 7]), ([5], [5]), ([8, 9, 5], [5, 8, 9]), ([5, 10], [5, 10]), ([11, 8], [11]), ([12], [12]), ([12], [12]), ([13, 14, 12, 12], [12, 13, 14]), ([12], [12]), ([12], [12]), ([16, 17, 15, 12], [12, 16, 17]), ([15, 18, 12], [12, 15, 18]), ([12, 19], [12, 19]), ([20, 18, 0, 1, 2, 3, 4, 5, 6, 7, 8, 9, 10, 11, 12, 13, 14, 15, 16, 17, 18, 19, 20], [20])])
def f6_28_B : List Nat := [0, 0, 3, 0, 15, 31, 63, 63, 255, 63, 1023, 2047, 4095, 8191, 8191, 32767, 8191, 8191, 262143, 524287, 1048575, 2097151]
theorem f6_28_tab : rtab .any (opsOf Tryd.f6 28) = f6_28_T := by kernel_rfl
theorem f6_28_bits : waitsOk f6_28_T.2 f6_28_B = true := by kernel_rfl
theorem fm_a {w : World} {f : Fm} (h : f.ok w) : f.a.ok w := h.1
set_option maxHeartbeats 32000000 in
set_option maxRecDepth 100000 in
theorem f6_any (A : Option Addr) (c : Nat) (fs : List Fm) (A' : Option Addr) (c' : Nat) (gs : List Fm) (w : World) (h1 : Hid (FW w A fs)) (h2 : Hid (FW w A' gs)) (htab : Hid (Tab w)) :
    Calls Tryd.prog 6 #[.slice A fs.length c, .slice A' gs.length c'] w fun e w' => e = .returned (.bool true) ∧ Below w.heap.size w w' := by
  have l1 := h1.out.1
  have l2 := h2.out.1
  go_enter Tryd.func6, Tryd.ntmps6
  go_wp2_with fail
  refine (f7_any w htab).mono ?_
  rintro e w1 ⟨rfl, hb1⟩
  have HB1 := Lib.hid hb1
  clear hb1 htab
  obtain ⟨wq, hwq⟩ : ∃ wq, wq = w1.alloc (.cells #[.slice A fs.length c, .slice A' gs.length c'] 38) := ⟨_, rfl⟩
  obtain ⟨bq, hbq⟩ : ∃ bq, bq = w1.heap.size := ⟨_, rfl⟩
  obtain ⟨B2, hb2⟩ : ∃ b, b = wq.heap.size := ⟨_, rfl⟩
  have HBQ : Hid (Below w.heap.size w wq) := by rw [hwq]; exact Lib.hid (HB1.out.alloc HB1.out.size _)
  have HQ : Hid (wq.heap[bq]? = some (.cells #[.slice A fs.length c, .slice A' gs.length c'] 38 (0, 0))) := by rw [hwq, hbq]; exact Lib.hid (blk_new _ _)
  have hB2 : w.heap.size ≤ B2 := by rw [hb2]; exact HBQ.out.size
  have hq2 : B2 ≤ wq.heap.size := by omega
  have hbB : bq < B2 := by rw [hb2]; exact blk_lt HQ.out
  have HWQ := Lib.hid hwq
  have HBQ' := Lib.hid hbq
  clear hwq hbq hb2
  go_wp2_with fail
  rw [← HWQ.out, ← HBQ'.out]
  clear HWQ HBQ' HB1
  refine wp_loop_rounds 3 ?_
  rw [rounds_succ]
  obtain ⟨q0, q1⟩ := two HQ.out
  go_wp2_with fail
  go_loopw [5, 27] (fun v5 v27 wr => ∃ (n : Int) (j : Nat), v5 = .int .i64 n ∧ v27 = .int .i64 j ∧ j ≤ fs.length ∧ Hid (Below B2 wq wr)) (fun _ v27 _ => fs.length - (intOf v27).toNat)
  case atStart => exact ⟨_, 0, rfl, rfl, by omega, Lib.hid (Below.refl _ _)⟩
  case round =>
    obtain ⟨m, j, rfl, rfl, hj, HBC⟩ := hrel
    by_cases hlt : j < fs.length
    · obtain ⟨b1, o1, rfl, hb1, hc1⟩ := h1.out.2.1 (by omega)
      have hb1q : b1 < B2 := Nat.lt_of_lt_of_le hb1 hB2
      have HNJ := Lib.hid (((hc1 j hlt).below hb1 HBQ.out).below hb1q HBC.out)
      obtain ⟨f, hf⟩ : ∃ f, fs.getD j .none = f := ⟨_, rfl⟩
      rw [hf] at HNJ
      clear hc1 hf
      obtain ⟨c0, c1, c2, c3, c4, c5, c6, c7, c8⟩ := HNJ.out
      have hjz : (0 : Int) ≤ j := by omega
      have hji : (j : Int) < fs.length := by omega
      have ix0 : ∀ w, (Instr.index 40 (.agg #[Value.int .i64 f.a.W, .int .i64 f.a.H, .slice f.a.A f.a.l.length f.a.c, Value.int .i64 f.b.W, .int .i64 f.b.H, .slice f.b.A f.b.l.length f.b.c, Value.int .i64 f.c.W, .int .i64 f.c.H, .slice f.c.A f.c.l.length f.c.c]) (.int .i64 0)).run Tryd.prog w = .ok (.agg #[.int .i64 f.a.W, .int .i64 f.a.H, .slice f.a.A f.a.l.length f.a.c]) w := fun _ => by kernel_rfl
      have ix1 : ∀ w, (Instr.index 40 (.agg #[Value.int .i64 f.a.W, .int .i64 f.a.H, .slice f.a.A f.a.l.length f.a.c, Value.int .i64 f.b.W, .int .i64 f.b.H, .slice f.b.A f.b.l.length f.b.c, Value.int .i64 f.c.W, .int .i64 f.c.H, .slice f.c.A f.c.l.length f.c.c]) (.int .i64 1)).run Tryd.prog w = .ok (.agg #[.int .i64 f.b.W, .int .i64 f.b.H, .slice f.b.A f.b.l.length f.b.c]) w := fun _ => by kernel_rfl
      have ix2 : ∀ w, (Instr.index 40 (.agg #[Value.int .i64 f.a.W, .int .i64 f.a.H, .slice f.a.A f.a.l.length f.a.c, Value.int .i64 f.b.W, .int .i64 f.b.H, .slice f.b.A f.b.l.length f.b.c, Value.int .i64 f.c.W, .int .i64 f.c.H, .slice f.c.A f.c.l.length f.c.c]) (.int .i64 2)).run Tryd.prog w = .ok (.agg #[.int .i64 f.c.W, .int .i64 f.c.H, .slice f.c.A f.c.l.length f.c.c]) w := fun _ => by kernel_rfl
      have hsz : B2 ≤ wr.heap.size := Nat.le_trans hq2 HBC.out.size
      go_wp2_with fail
      refine wp_loop_rounds 4 ?_
      rw [rounds_succ]
      go_wp2_with fail
      rw [rounds_succ]
      go_wp2_with fail
      rw [rounds_succ]
      go_wp2_with fail
      rw [rounds_succ]
      go_wp2_with fail
      go_roundw
      case rel => exact ⟨_, j + 1, rfl, by go_num, by omega, Lib.hid (HBC.out.trans (by refine Below.mono ?_ hsz; go_grown))⟩
      case measure => simp [intOf]; omega
    · have HQ1 : Hid (wr.heap[bq]? = some (.cells #[.slice A fs.length c, .slice A' gs.length c'] 38 (0, 0))) := Lib.hid ((HBC.out.block bq hbB).trans HQ.out)
      obtain ⟨q0', q1'⟩ := two HQ1.out
      clear q0 q1
      go_wp2_with fail
      rw [rounds_succ]
      go_wp2_with fail
      go_loopw [5, 27] (fun v5 v27 wr => ∃ (n : Int) (j : Nat), v5 = .int .i64 n ∧ v27 = .int .i64 j ∧ j ≤ gs.length ∧ Hid (Below B2 wq wr)) (fun _ v27 _ => gs.length - (intOf v27).toNat)
      case atStart => exact ⟨_, 0, rfl, rfl, by omega, HBC⟩
      case round =>
        clear HBC
        obtain ⟨m, j, rfl, rfl, hj, HBC⟩ := hrel
        by_cases hlt : j < gs.length
        · obtain ⟨b1, o1, rfl, hb1, hc1⟩ := h2.out.2.1 (by omega)
          have hb1q : b1 < B2 := Nat.lt_of_lt_of_le hb1 hB2
          have HNJ := Lib.hid (((hc1 j hlt).below hb1 HBQ.out).below hb1q HBC.out)
          obtain ⟨f, hf⟩ : ∃ f, gs.getD j .none = f := ⟨_, rfl⟩
          rw [hf] at HNJ
          clear hc1 hf
          obtain ⟨c0, c1, c2, c3, c4, c5, c6, c7, c8⟩ := HNJ.out
          have hjz : (0 : Int) ≤ j := by omega
          have hji : (j : Int) < gs.length := by omega
          have ix0 : ∀ w, (Instr.index 40 (.agg #[Value.int .i64 f.a.W, .int .i64 f.a.H, .slice f.a.A f.a.l.length f.a.c, Value.int .i64 f.b.W, .int .i64 f.b.H, .slice f.b.A f.b.l.length f.b.c, Value.int .i64 f.c.W, .int .i64 f.c.H, .slice f.c.A f.c.l.length f.c.c]) (.int .i64 0)).run Tryd.prog w = .ok (.agg #[.int .i64 f.a.W, .int .i64 f.a.H, .slice f.a.A f.a.l.length f.a.c]) w := fun _ => by kernel_rfl
          have ix1 : ∀ w, (Instr.index 40 (.agg #[Value.int .i64 f.a.W, .int .i64 f.a.H, .slice f.a.A f.a.l.length f.a.c, Value.int .i64 f.b.W, .int .i64 f.b.H, .slice f.b.A f.b.l.length f.b.c, Value.int .i64 f.c.W, .int .i64 f.c.H, .slice f.c.A f.c.l.length f.c.c]) (.int .i64 1)).run Tryd.prog w = .ok (.agg #[.int .i64 f.b.W, .int .i64 f.b.H, .slice f.b.A f.b.l.length f.b.c]) w := fun _ => by kernel_rfl
          have ix2 : ∀ w, (Instr.index 40 (.agg #[Value.int .i64 f.a.W, .int .i64 f.a.H, .slice f.a.A f.a.l.length f.a.c, Value.int .i64 f.b.W, .int .i64 f.b.H, .slice f.b.A f.b.l.length f.b.c, Value.int .i64 f.c.W, .int .i64 f.c.H, .slice f.c.A f.c.l.length f.c.c]) (.int .i64 2)).run Tryd.prog w = .ok (.agg #[.int .i64 f.c.W, .int .i64 f.c.H, .slice f.c.A f.c.l.length f.c.c]) w := fun _ => by kernel_rfl
          have hsz : B2 ≤ wr.heap.size := Nat.le_trans hq2 HBC.out.size
          go_wp2_with fail
          refine wp_loop_rounds 4 ?_
          rw [rounds_succ]
          go_wp2_with fail
          rw [rounds_succ]
          go_wp2_with fail
          rw [rounds_succ]
          go_wp2_with fail
          rw [rounds_succ]
          go_wp2_with fail
          go_roundw
          case rel => exact ⟨_, j + 1, rfl, by go_num, by omega, Lib.hid (HBC.out.trans (by refine Below.mono ?_ hsz; go_grown))⟩
          case measure => simp [intOf]; omega
        · go_wp2_with fail
          rw [rounds_succ]
          by_cases hbig : 3000 < m
          · go_wp2_with fail
            go_ret
            exact ⟨rfl, HBQ.out.trans (HBC.out.mono hB2)⟩
          obtain ⟨wl, hwl⟩ : ∃ wl, wl = wr.alloc (.cells #[.int .i64 0, .int .i64 0, .int .i64 0, .int .i64 0, .int .i64 0] 23) := ⟨_, rfl⟩
          obtain ⟨gb, hgb⟩ : ∃ gb, gb = wr.heap.size := ⟨_, rfl⟩
          have HB3 : Hid (Below w.heap.size w wl) := by rw [hwl]; exact Lib.hid ((HBQ.out.trans (HBC.out.mono hB2)).alloc (Nat.le_trans HBQ.out.size HBC.out.size) _)
          have HG : Hid (GB wl gb .zero) := by rw [hwl, hgb]; exact Lib.hid (blk_new _ _)
          have hgB : w.heap.size ≤ gb := by rw [hgb]; exact Nat.le_trans HBQ.out.size HBC.out.size
          have HWL := Lib.hid hwl
          have HGB := Lib.hid hgb
          clear hwl hgb
          have hlt' := hlt
          clear hlt
          go_wp2_with fail
          all_goals
           rw [← HWL.out, ← HGB.out]
           clear HWL HGB
           obtain ⟨n, hn1, hn2, hn3⟩ : ∃ n : Nat, n ≤ fs.length ∧ n ≤ gs.length ∧ (fs.length ≤ n ∨ gs.length ≤ n) := ⟨min fs.length gs.length, by omega, by omega, by omega⟩
           go_loopw [51] (fun v51 wr => ∃ k : Nat, v51 = .int .i64 k ∧ k ≤ n ∧ Hid (Below gb wl wr) ∧ Hid (GB wr gb (gFs fs gs k))) (fun v51 _ => n - (intOf v51).toNat)
           case atStart => exact ⟨0, rfl, by omega, Lib.hid (Below.refl _ _), HG⟩
           case round =>
             obtain ⟨k, rfl, hk, HBL, HGK⟩ := hrel
             by_cases hlt : k < n
             · obtain ⟨b1, o1, rfl, hb1, hc1⟩ := h1.out.2.1 (by omega)
               obtain ⟨b2, o2, rfl, hb2, hc2⟩ := h2.out.2.1 (by omega)
               have HN1 : Hid (∀ i, i < fs.length → Nine wl b1 (o1 + i * 9) (fs.getD i .none)) := Lib.hid (fun i hi => (hc1 i hi).below hb1 HB3.out)
               have HN2 : Hid (∀ i, i < gs.length → Nine wl b2 (o2 + i * 9) (gs.getD i .none)) := Lib.hid (fun i hi => (hc2 i hi).below hb2 HB3.out)
               have HO1 : Hid (∀ i, i < fs.length → (fs.getD i .none).ok w) := Lib.hid h1.out.2.2
               have HO2 : Hid (∀ i, i < gs.length → (gs.getD i .none).ok w) := Lib.hid h2.out.2.2
               have hb1g : b1 < gb := by omega
               have hb2g : b2 < gb := by omega
               clear hc1 hc2
               have hk1 : k < fs.length := by omega
               have hk2 : k < gs.length := by omega
               obtain ⟨f, hf⟩ : ∃ f, fs.getD k .none = f := ⟨_, rfl⟩
               obtain ⟨g, hg⟩ : ∃ g, gs.getD k .none = g := ⟨_, rfl⟩
               obtain ⟨r, hr⟩ : ∃ r, gF f g = r := ⟨_, rfl⟩
               obtain ⟨ra, hra⟩ : ∃ r, gP f.a g.a = r := ⟨_, rfl⟩
               obtain ⟨t, ht⟩ : ∃ t, gFs fs gs k = t := ⟨_, rfl⟩
               obtain ⟨u, hu⟩ : ∃ u, t.join r = u := ⟨_, rfl⟩
               have HR0 := Lib.hid hr
               have HRA := Lib.hid hra
               have HU0 := Lib.hid hu
               have HNX : Hid (gFs fs gs (k + 1) = u) := Lib.hid (by rw [gFs, ht, hf, hg, hr, hu])
               rw [ht] at HGK
               have HF := Lib.hid hf
               have HGG := Lib.hid hg
               clear hr hu ht hf hg hra
               have hkz : (0 : Int) ≤ k := by omega
               have hki : (k : Int) < fs.length := by omega
               have hkj : (k : Int) < gs.length := by omega
               go_wp2_with fail
               refine start_ (n := 11) (S := fun w' => True) (ds := []) #[false, false, false, false, false, false, false, false, false, false, false] (by kernel_rfl) rfl rfl trivial (fun hHeld => ?_)
               obtain ⟨w0, hw0⟩ : ∃ w0, w0 = wr.drew := ⟨_, rfl⟩
               rw [← hw0]
               have HBW : Hid (Below gb wl w0) := by rw [hw0]; exact Lib.hid HBL.out.drew
               have HGW : Hid (GB w0 gb t) := by rw [hw0]; exact Lib.hid (blk_drew HGK.out)
               have HAL : Hid (Nine w0 b1 (o1 + k * 9) f ∧ Nine w0 b2 (o2 + k * 9) g ∧ f.ok w0 ∧ g.ok w0) := Lib.hid ⟨(HF.out ▸ HN1.out k hk1).below hb1g HBW.out, (HGG.out ▸ HN2.out k hk2).below hb2g HBW.out, (HF.out ▸ HO1.out k hk1).below (HB3.out.trans (HBW.out.mono hgB)), (HGG.out ▸ HO2.out k hk2).below (HB3.out.trans (HBW.out.mono hgB))⟩
               have hgz : gb ≤ w0.heap.size := Nat.le_of_lt (blk_lt HGW.out)
               have HNf : Hid (∀ {w' : World}, Below w0.heap.size w0 w' → Nine w' b1 (o1 + k * 9) f) := Lib.hid (fun hb => HAL.out.1.below hb1g (hb.mono hgz))
               have HNg : Hid (∀ {w' : World}, Below w0.heap.size w0 w' → Nine w' b2 (o2 + k * 9) g) := Lib.hid (fun hb => HAL.out.2.1.below hb2g (hb.mono hgz))
               have HOf : Hid (∀ {w' : World}, Below w0.heap.size w0 w' → Hid (f.ok w')) := Lib.hid (fun hb => Lib.hid (HAL.out.2.2.1.below hb))
               have HOg : Hid (∀ {w' : World}, Below w0.heap.size w0 w' → Hid (g.ok w')) := Lib.hid (fun hb => Lib.hid (HAL.out.2.2.2.below hb))
               clear hw0 HBL HGK
               refine with_tabW f6_23_tab f6_23_bits (fun HT_ HW_ => ?_)
               refine pure_ (i := 0) (N := some 54) (v := ?_) (a' := ?_) #[true, false, false, false, false, false, false, false, false, false, false] rfl rfl (by kernel_rfl) (fun _ _ _ h => h) (Or.inl ⟨by rfl, ?_⟩) ?_ ?_
               rotate_left
               · intro w'
                 go_simp
                 with_reducible rfl
               rotate_left
               · simp only [Act.put, List.setIfInBounds_toArray, List.set_cons_zero, List.set_cons_succ, i64_w, i32_w]
                 rfl
               refine pure_ (i := 1) (N := some 55) (v := ?_) (a' := ?_) #[true, true, false, false, false, false, false, false, false, false, false] rfl rfl (by kernel_rfl) (fun _ _ _ h => h) (Or.inl ⟨by rfl, ?_⟩) ?_ ?_
               rotate_left
               · intro w'
                 go_simp
                 with_reducible rfl
               rotate_left
               · simp only [Act.put, List.setIfInBounds_toArray, List.set_cons_zero, List.set_cons_succ, i64_w, i32_w]
                 rfl
               refine pure_ (i := 2) (N := some 56) (v := ?_) (a' := ?_) #[true, true, true, false, false, false, false, false, false, false, false] rfl rfl (by kernel_rfl) (fun _ _ _ h => h) (Or.inl ⟨by rfl, ?_⟩) ?_ ?_
               rotate_left
               · intro w'
                 go_simp
                 with_reducible rfl
               rotate_left
               · simp only [Act.put, List.setIfInBounds_toArray, List.set_cons_zero, List.set_cons_succ, i64_w, i32_w]
                 rfl
               refine pure_ (i := 4) (N := some 58) (v := ?_) (a' := ?_) #[true, true, true, false, true, false, false, false, false, false, false] rfl rfl (by kernel_rfl) (fun _ _ _ h => h) (Or.inl ⟨by rfl, ?_⟩) ?_ ?_
               rotate_left
               · intro w'
                 go_simp
                 with_reducible rfl
               rotate_left
               · simp only [Act.put, List.setIfInBounds_toArray, List.set_cons_zero, List.set_cons_succ, i64_w, i32_w]
                 rfl
               refine pure_ (i := 5) (N := some 59) (v := ?_) (a' := ?_) #[true, true, true, false, true, true, false, false, false, false, false] rfl rfl (by kernel_rfl) (fun _ _ _ h => h) (Or.inl ⟨by rfl, ?_⟩) ?_ ?_
               rotate_left
               · intro w'
                 go_simp
                 with_reducible rfl
               rotate_left
               · simp only [Act.put, List.setIfInBounds_toArray, List.set_cons_zero, List.set_cons_succ, i64_w, i32_w]
                 rfl
               refine pure_ (i := 6) (N := some 60) (v := ?_) (a' := ?_) #[true, true, true, false, true, true, true, false, false, false, false] rfl rfl (by kernel_rfl) (fun _ _ _ h => h) (Or.inl ⟨by rfl, ?_⟩) ?_ ?_
               rotate_left
               · intro w'
                 go_simp
                 with_reducible rfl
               rotate_left
               · simp only [Act.put, List.setIfInBounds_toArray, List.set_cons_zero, List.set_cons_succ, i64_w, i32_w]
                 rfl
               refine inv_at [3, 7, 8, 9, 10] (fun a0_ b a w' => ∃ (x14 : Nat) (m9_ : Value), a = putSel a0_ b [(3, 57, (.agg #[Value.int .i64 f.a.W, .int .i64 f.a.H, .slice f.a.A f.a.l.length f.a.c, Value.int .i64 f.b.W, .int .i64 f.b.H, .slice f.b.A f.b.l.length f.b.c, Value.int .i64 f.c.W, .int .i64 f.c.H, .slice f.c.A f.c.l.length f.c.c])), (7, 61, (.agg #[Value.int .i64 g.a.W, .int .i64 g.a.H, .slice g.a.A g.a.l.length g.a.c, Value.int .i64 g.b.W, .int .i64 g.b.H, .slice g.b.A g.b.l.length g.b.c, Value.int .i64 g.c.W, .int .i64 g.c.H, .slice g.c.A g.c.l.length g.c.c])), (8, 62, (.agg #[.int .i64 r.c, .int .i64 r.d, .int .i64 r.m, .int .i64 r.s, .int .i64 r.q])), (9, 14, m9_)] ∧ (Below w0.heap.size w0 w') ∧ (b 9 = true → w0.heap.size ≤ x14) ∧ (b 9 = true → b 10 = false → w'.heap[x14]? = some (.cells #[.int .i64 0, .int .i64 0, .int .i64 0, .int .i64 0, .int .i64 0] 23 (0, 0))) ∧ (b 10 = true → w'.heap[x14]? = some (.cells #[.int .i64 r.c, .int .i64 r.d, .int .i64 r.m, .int .i64 r.s, .int .i64 r.q] 23 (0, 0))) ∧ (b 9 = true → (m9_ : Value) = .pointer (some ⟨x14, 0, none⟩))) HT_.out HW_.out (by kernel_rfl) (by kernel_rfl) ?_ ?_ ?_
               · exact ⟨0, .bool false, by simp only [putSel, Bool.false_eq_true, if_false], Below.refl _ _, fun h_ => absurd h_ (by decide), fun h_ => absurd h_ (by decide), fun h_ => absurd h_ (by decide), fun h_ => absurd h_ (by decide)⟩
               · skip
                 refine steps_cons ?_ ?_
                 · rintro b a w' ⟨x14, m9_, ha, Q_BE, Q_G14, Q_Z14, Q_R14, Q_X9_⟩ hb_ hon hoff
                   refine ⟨_, rfl, fun K hK => ?_⟩
                   have e56 : a.tmps[56]? = some (.pointer (some ⟨b1, o1 + k * 9, none⟩)) := by rw [ha]; exact (putSel_off rfl).trans rfl
                   replace ha := Aside0.mk ha
                   have BE := Aside0.mk Q_BE
                   obtain ⟨c0, c1, c2, c3, c4, c5, c6, c7, c8⟩ := HNf.out BE.out
                   refine value_ (w1 := w') (v := (.agg #[Value.int .i64 f.a.W, .int .i64 f.a.H, .slice f.a.A f.a.l.length f.a.c, Value.int .i64 f.b.W, .int .i64 f.b.H, .slice f.b.A f.b.l.length f.b.c, Value.int .i64 f.c.W, .int .i64 f.c.H, .slice f.c.A f.c.l.length f.c.c])) (by rfl) rfl ?_ ?_
                   · go_simp
                     (try simp only [i64_w])
                     try rfl
                   refine hK.out _ _ ⟨x14, m9_, (by rw [ha.out]; exact putSel_upk 0 hb_ rfl rfl rfl), Q_BE, Q_G14, Q_Z14, fun h0_ => absurd ((hoff 10 (by kernel_rfl)).symm.trans h0_) (by decide), Q_X9_⟩
                 refine steps_cons ?_ ?_
                 · rintro b a w' ⟨x14, m9_, ha, Q_BE, Q_G14, Q_Z14, Q_R14, Q_X9_⟩ hb_ hon hoff
                   refine ⟨_, rfl, fun K hK => ?_⟩
                   have e60 : a.tmps[60]? = some (.pointer (some ⟨b2, o2 + k * 9, none⟩)) := by rw [ha]; exact (putSel_off rfl).trans rfl
                   replace ha := Aside0.mk ha
                   have BE := Aside0.mk Q_BE
                   obtain ⟨c0, c1, c2, c3, c4, c5, c6, c7, c8⟩ := HNg.out BE.out
                   refine value_ (w1 := w') (v := (.agg #[Value.int .i64 g.a.W, .int .i64 g.a.H, .slice g.a.A g.a.l.length g.a.c, Value.int .i64 g.b.W, .int .i64 g.b.H, .slice g.b.A g.b.l.length g.b.c, Value.int .i64 g.c.W, .int .i64 g.c.H, .slice g.c.A g.c.l.length g.c.c])) (by rfl) rfl ?_ ?_
                   · go_simp
                     (try simp only [i64_w])
                     try rfl
                   refine hK.out _ _ ⟨x14, m9_, (by rw [ha.out]; exact putSel_upk 1 hb_ rfl rfl rfl), Q_BE, Q_G14, Q_Z14, fun h0_ => absurd ((hoff 10 (by kernel_rfl)).symm.trans h0_) (by decide), Q_X9_⟩
                 refine steps_cons ?_ ?_
                 · rintro b a w' ⟨x14, m9_, ha, Q_BE, Q_G14, Q_Z14, Q_R14, Q_X9_⟩ hb_ hon hoff
                   refine ⟨_, rfl, fun K hK => ?_⟩
                   have e57 : a.tmps[57]? = some ((.agg #[Value.int .i64 f.a.W, .int .i64 f.a.H, .slice f.a.A f.a.l.length f.a.c, Value.int .i64 f.b.W, .int .i64 f.b.H, .slice f.b.A f.b.l.length f.b.c, Value.int .i64 f.c.W, .int .i64 f.c.H, .slice f.c.A f.c.l.length f.c.c])) := by rw [ha]; exact putSel_on (e := (3, 57, (.agg #[Value.int .i64 f.a.W, .int .i64 f.a.H, .slice f.a.A f.a.l.length f.a.c, Value.int .i64 f.b.W, .int .i64 f.b.H, .slice f.b.A f.b.l.length f.b.c, Value.int .i64 f.c.W, .int .i64 f.c.H, .slice f.c.A f.c.l.length f.c.c]))) 0 rfl rfl (hon 3 (by kernel_rfl)) rfl
                   have e61 : a.tmps[61]? = some ((.agg #[Value.int .i64 g.a.W, .int .i64 g.a.H, .slice g.a.A g.a.l.length g.a.c, Value.int .i64 g.b.W, .int .i64 g.b.H, .slice g.b.A g.b.l.length g.b.c, Value.int .i64 g.c.W, .int .i64 g.c.H, .slice g.c.A g.c.l.length g.c.c])) := by rw [ha]; exact putSel_on (e := (7, 61, (.agg #[Value.int .i64 g.a.W, .int .i64 g.a.H, .slice g.a.A g.a.l.length g.a.c, Value.int .i64 g.b.W, .int .i64 g.b.H, .slice g.b.A g.b.l.length g.b.c, Value.int .i64 g.c.W, .int .i64 g.c.H, .slice g.c.A g.c.l.length g.c.c]))) 1 rfl rfl (hon 7 (by kernel_rfl)) rfl
                   replace ha := Aside0.mk ha
                   have BE := Aside0.mk Q_BE
                   refine goes_ Tryd.func18 (by kernel_rfl) rfl #[(.agg #[Value.int .i64 f.a.W, .int .i64 f.a.H, .slice f.a.A f.a.l.length f.a.c, Value.int .i64 f.b.W, .int .i64 f.b.H, .slice f.b.A f.b.l.length f.b.c, Value.int .i64 f.c.W, .int .i64 f.c.H, .slice f.c.A f.c.l.length f.c.c]), (.agg #[Value.int .i64 g.a.W, .int .i64 g.a.H, .slice g.a.A g.a.l.length g.a.c, Value.int .i64 g.b.W, .int .i64 g.b.H, .slice g.b.A g.b.l.length g.b.c, Value.int .i64 g.c.W, .int .i64 g.c.H, .slice g.c.A g.c.l.length g.c.c])] (by rfl) rfl rfl (by first | (simp only [List.map_toArray, List.map_cons, List.map_nil, Act.eval, Array.getD_eq_getD_getElem?, Option.getD_some, e57, e61]; done) | (simp only [List.map_toArray, List.map_cons, List.map_nil, Act.eval, Array.getD_eq_getD_getElem?, Option.getD_some, e57, e61]; rfl)) ?_
                   with_reducible refine (f18_F f g r HR0 w' (HOf.out BE.out) (HOg.out BE.out)).mono ?_
                   rintro e w2 ⟨rfl, hb⟩
                   refine ⟨_, rfl, ?_⟩
                   refine hK.out _ _ ⟨x14, m9_, (by rw [ha.out]; exact putSel_upk 2 hb_ rfl rfl rfl), BE.out.trans (hb.mono BE.out.size), fun h0_ => (Q_G14 h0_), fun h0_ h1_ => blk_below (Q_Z14 h0_ h1_) hb, fun h0_ => absurd ((hoff 10 (by kernel_rfl)).symm.trans h0_) (by decide), Q_X9_⟩
                 refine steps_cons ?_ ?_
                 · rintro b a w' ⟨x14, m9_, ha, Q_BE, Q_G14, Q_Z14, Q_R14, Q_X9_⟩ hb_ hon hoff
                   refine ⟨_, rfl, fun K hK => ?_⟩
                   replace ha := Aside0.mk ha
                   have BE := Aside0.mk Q_BE
                   refine value_ (w1 := w'.alloc (.cells #[.int .i64 0, .int .i64 0, .int .i64 0, .int .i64 0, .int .i64 0] 23)) (v := .pointer (some ⟨w'.heap.size, 0, none⟩)) (by rfl) rfl ?_ ?_
                   · go_simp
                     try rfl
                   refine hK.out _ _ ⟨w'.heap.size, (.pointer (some ⟨w'.heap.size, 0, none⟩)), (by rw [ha.out]; exact putSel_upk 3 hb_ rfl rfl rfl), BE.out.alloc BE.out.size _, fun _ => BE.out.size, fun _ _ => blk_new _ _, fun h0_ => absurd ((hoff 10 (by kernel_rfl)).symm.trans h0_) (by decide), fun _ => rfl⟩
                 refine steps_cons ?_ ?_
                 · rintro b a w' ⟨x14, m9_, ha, Q_BE, Q_G14, Q_Z14, Q_R14, Q_X9_⟩ hb_ hon hoff
                   refine ⟨_, rfl, fun K hK => ?_⟩
                   have e14 : a.tmps[14]? = some (m9_) := by rw [ha]; exact putSel_on (e := (9, 14, m9_)) 3 rfl rfl (hon 9 (by kernel_rfl)) rfl
                   rw [Q_X9_ (hon 9 (by kernel_rfl))] at e14
                   have e62 : a.tmps[62]? = some ((.agg #[.int .i64 r.c, .int .i64 r.d, .int .i64 r.m, .int .i64 r.s, .int .i64 r.q])) := by rw [ha]; exact putSel_on (e := (8, 62, (.agg #[.int .i64 r.c, .int .i64 r.d, .int .i64 r.m, .int .i64 r.s, .int .i64 r.q]))) 2 rfl rfl (hon 8 (by kernel_rfl)) rfl
                   replace ha := Aside0.mk ha
                   have BE := Aside0.mk Q_BE
                   have G14 := Aside0.mk (Q_G14 (hon 9 (by kernel_rfl)))
                   have Z14 := Aside0.mk (Q_Z14 (hon 9 (by kernel_rfl)) hb_)
                   obtain ⟨c0, c1, c2, c3, c4, z0, z1, z2, z3, z4⟩ := five Z14.out
                   refine skip_ (w1 := (((((w'.setCell ⟨x14, 0, none⟩ (.int .i64 r.c)).setCell ⟨x14, 1, none⟩ (.int .i64 r.d)).setCell ⟨x14, 2, none⟩ (.int .i64 r.m)).setCell ⟨x14, 3, none⟩ (.int .i64 r.s)).setCell ⟨x14, 4, none⟩ (.int .i64 r.q))) (by rfl) rfl ?_ ?_
                   · go_simp
                     try rfl
                   refine hK.out _ _ ⟨x14, m9_, (by rw [ha.out]; exact putSel_none (v := undef) rfl), five_below BE.out G14.out, fun _ => G14.out, fun _ h1_ => absurd ((up_self b 10).symm.trans h1_) (by decide), fun _ => five_put Z14.out, Q_X9_⟩
                 exact steps_nil
               · rintro b a w' hall ⟨x14, m9_, ha, Q_BE, Q_G14, Q_Z14, Q_R14, Q_X9_⟩
                 have hb3_ := hall 3 (by kernel_rfl)
                 have hb7_ := hall 7 (by kernel_rfl)
                 have hb8_ := hall 8 (by kernel_rfl)
                 have hb9_ := hall 9 (by kernel_rfl)
                 have hb10_ := hall 10 (by kernel_rfl)
                 subst ha
                 obtain rfl := Q_X9_ hb9_
                 simp only [putSel, hb3_, hb7_, hb8_, hb9_, hb10_, if_true, Act.put, List.setIfInBounds_toArray, List.set_cons_zero, List.set_cons_succ]
                 have BE := Aside0.mk Q_BE
                 clear Q_BE
                 have G14 := Aside0.mk (Q_G14 hb9_)
                 clear Q_G14
                 clear Q_Z14
                 have R14 := Aside0.mk (Q_R14 hb10_)
                 clear Q_R14
                 clear hall hb3_ hb7_ hb8_ hb9_ hb10_
                 clear HT_ HW_ HNf HNg HOf HOg HF HGG HN1 HN2 HO1 HO2
                 obtain ⟨wx, hwx⟩ : ∃ wx, wx = w' := ⟨_, rfl⟩
                 rw [← hwx] at BE R14
                 rw [← hwx]
                 clear hwx
                 have hx14 := G14.out
                 have HBV : Hid (Below gb wl wx) := Lib.hid (HBW.out.trans (BE.out.mono hgz))
                 have HGV : Hid (GB wx gb t) := Lib.hid (blk_below HGW.out BE.out)
                 have HXV : Hid (GB wx x14 r) := Lib.hid R14.out
                 have HAV : Hid (Nine wx b1 (o1 + k * 9) f ∧ Nine wx b2 (o2 + k * 9) g ∧ f.ok wx ∧ g.ok wx) := Lib.hid ⟨HAL.out.1.below hb1g (BE.out.mono hgz), HAL.out.2.1.below hb2g (BE.out.mono hgz), HAL.out.2.2.1.below BE.out, HAL.out.2.2.2.below BE.out⟩
                 have hgx : gb < x14 := Nat.lt_of_lt_of_le (blk_lt HGW.out) hx14
                 clear HBW HGW HAL hgz BE G14 R14 hx14
                 try clear Q_X9_
                 go_wp2_with fail
                 refine start_ (n := 40) (S := fun w' => True) (ds := []) #[false, false, false, false, false, false, false, false, false, false, false, false, false, false, false, false, false, false, false, false, false, false, false, false, false, false, false, false, false, false, false, false, false, false, false, false, false, false, false, false] (by kernel_rfl) rfl rfl trivial (fun hHeld => ?_)
                 obtain ⟨w0, hw0⟩ : ∃ w0, w0 = wx.drew := ⟨_, rfl⟩
                 rw [← hw0]
                 have HBX : Hid (Below gb wl w0) := by rw [hw0]; exact Lib.hid HBV.out.drew
                 have HGX : Hid (GB w0 gb t) := by rw [hw0]; exact Lib.hid (blk_drew HGV.out)
                 have HXX : Hid (GB w0 x14 r) := by rw [hw0]; exact Lib.hid (blk_drew HXV.out)
                 have HAY : Hid (Nine w0 b1 (o1 + k * 9) f ∧ Nine w0 b2 (o2 + k * 9) g ∧ f.ok w0 ∧ g.ok w0) := by rw [hw0]; exact Lib.hid ⟨HAV.out.1.below hb1g (Below.refl _ _).drew, HAV.out.2.1.below hb2g (Below.refl _ _).drew, HAV.out.2.2.1.below (Below.refl _ _).drew, HAV.out.2.2.2.below (Below.refl _ _).drew⟩
                 have hgz : gb ≤ w0.heap.size := Nat.le_of_lt (blk_lt HGX.out)
                 have HXB : Hid (∀ {w' : World}, Below w0.heap.size w0 w' → GB w' x14 r) := Lib.hid (fun hb => blk_below HXX.out hb)
                 have HNf : Hid (∀ {w' : World}, Below w0.heap.size w0 w' → Nine w' b1 (o1 + k * 9) f) := Lib.hid (fun hb => HAY.out.1.below hb1g (hb.mono hgz))
                 have HNg : Hid (∀ {w' : World}, Below w0.heap.size w0 w' → Nine w' b2 (o2 + k * 9) g) := Lib.hid (fun hb => HAY.out.2.1.below hb2g (hb.mono hgz))
                 have HOf : Hid (∀ {w' : World}, Below w0.heap.size w0 w' → Hid (f.ok w')) := Lib.hid (fun hb => Lib.hid (HAY.out.2.2.1.below hb))
                 have HOg : Hid (∀ {w' : World}, Below w0.heap.size w0 w' → Hid (g.ok w')) := Lib.hid (fun hb => Lib.hid (HAY.out.2.2.2.below hb))
                 clear hw0 HBV HGV HXV HAV
                 refine with_tabW f6_24_tab f6_24_bits (fun HT_ HW_ => ?_)
                 refine pure_ (i := 0) (N := some 63) (v := ?_) (a' := ?_) #[true, false, false, false, false, false, false, false, false, false, false, false, false, false, false, false, false, false, false, false, false, false, false, false, false, false, false, false, false, false, false, false, false, false, false, false, false, false, false, false] rfl rfl (by kernel_rfl) (fun _ _ _ h => h) (Or.inl ⟨by rfl, ?_⟩) ?_ ?_
                 rotate_left
                 · intro w'
                   go_simp
                   with_reducible rfl
                 rotate_left
                 · simp only [Act.put, List.setIfInBounds_toArray, List.set_cons_zero, List.set_cons_succ, i64_w, i32_w]
                   rfl
                 refine pure_ (i := 1) (N := some 64) (v := ?_) (a' := ?_) #[true, true, false, false, false, false, false, false, false, false, false, false, false, false, false, false, false, false, false, false, false, false, false, false, false, false, false, false, false, false, false, false, false, false, false, false, false, false, false, false] rfl rfl (by kernel_rfl) (fun _ _ _ h => h) (Or.inl ⟨by rfl, ?_⟩) ?_ ?_
                 rotate_left
                 · intro w'
                   go_simp
                   with_reducible rfl
                 rotate_left
                 · simp only [Act.put, List.setIfInBounds_toArray, List.set_cons_zero, List.set_cons_succ, i64_w, i32_w]
                   rfl
                 refine pure_ (i := 2) (N := some 65) (v := ?_) (a' := ?_) #[true, true, true, false, false, false, false, false, false, false, false, false, false, false, false, false, false, false, false, false, false, false, false, false, false, false, false, false, false, false, false, false, false, false, false, false, false, false, false, false] rfl rfl (by kernel_rfl) (fun _ _ _ h => h) (Or.inl ⟨by rfl, ?_⟩) ?_ ?_
                 rotate_left
                 · intro w'
                   go_simp
                   with_reducible rfl
                 rotate_left
                 · simp only [Act.put, List.setIfInBounds_toArray, List.set_cons_zero, List.set_cons_succ, i64_w, i32_w]
                   rfl
                 refine pure_ (i := 4) (N := some 67) (v := ?_) (a' := ?_) #[true, true, true, false, true, false, false, false, false, false, false, false, false, false, false, false, false, false, false, false, false, false, false, false, false, false, false, false, false, false, false, false, false, false, false, false, false, false, false, false] rfl rfl (by kernel_rfl) (fun _ _ _ h => h) (Or.inl ⟨by rfl, ?_⟩) ?_ ?_
                 rotate_left
                 · intro w'
                   go_simp
                   with_reducible rfl
                 rotate_left
                 · simp only [Act.put, List.setIfInBounds_toArray, List.set_cons_zero, List.set_cons_succ, i64_w, i32_w]
                   rfl
                 refine pure_ (i := 5) (N := some 68) (v := ?_) (a' := ?_) #[true, true, true, false, true, true, false, false, false, false, false, false, false, false, false, false, false, false, false, false, false, false, false, false, false, false, false, false, false, false, false, false, false, false, false, false, false, false, false, false] rfl rfl (by kernel_rfl) (fun _ _ _ h => h) (Or.inl ⟨by rfl, ?_⟩) ?_ ?_
                 rotate_left
                 · intro w'
                   go_simp
                   with_reducible rfl
                 rotate_left
                 · simp only [Act.put, List.setIfInBounds_toArray, List.set_cons_zero, List.set_cons_succ, i64_w, i32_w]
                   rfl
                 refine pure_ (i := 6) (N := some 69) (v := ?_) (a' := ?_) #[true, true, true, false, true, true, true, false, false, false, false, false, false, false, false, false, false, false, false, false, false, false, false, false, false, false, false, false, false, false, false, false, false, false, false, false, false, false, false, false] rfl rfl (by kernel_rfl) (fun _ _ _ h => h) (Or.inl ⟨by rfl, ?_⟩) ?_ ?_
                 rotate_left
                 · intro w'
                   go_simp
                   with_reducible rfl
                 rotate_left
                 · simp only [Act.put, List.setIfInBounds_toArray, List.set_cons_zero, List.set_cons_succ, i64_w, i32_w]
                   rfl
                 refine inv_at [3, 7, 8, 9, 10, 11, 12, 13, 14, 15, 16, 17, 18, 19, 20, 21, 22, 23, 24, 25, 26, 27, 28, 29, 30, 31, 32, 33, 34, 35, 36, 37, 38, 39] (fun a0_ b a w' => a = putSel a0_ b [(3, 66, (.agg #[Value.int .i64 f.a.W, .int .i64 f.a.H, .slice f.a.A f.a.l.length f.a.c, Value.int .i64 f.b.W, .int .i64 f.b.H, .slice f.b.A f.b.l.length f.b.c, Value.int .i64 f.c.W, .int .i64 f.c.H, .slice f.c.A f.c.l.length f.c.c])), (7, 70, (.agg #[Value.int .i64 g.a.W, .int .i64 g.a.H, .slice g.a.A g.a.l.length g.a.c, Value.int .i64 g.b.W, .int .i64 g.b.H, .slice g.b.A g.b.l.length g.b.c, Value.int .i64 g.c.W, .int .i64 g.c.H, .slice g.c.A g.c.l.length g.c.c])), (8, 71, (.agg #[.int .i64 r.c, .int .i64 r.d, .int .i64 r.m, .int .i64 r.s, .int .i64 r.q])), (9, 72, (.agg #[.int .i64 r.c, .int .i64 r.d, .int .i64 r.m, .int .i64 r.s, .int .i64 r.q])), (10, 73, .bool false), (11, 74, .bool false), (12, 75, .slice (some ⟨b1, o1, none⟩) fs.length c), (13, 76, .int .i64 k), (14, 77, .pointer (some ⟨b1, o1 + k * 9, none⟩)), (15, 78, .pointer (some ⟨b1, o1 + k * 9, none⟩)), (16, 79, .pointer (some ⟨b1, o1 + k * 9, none⟩)), (17, 80, (.agg #[.int .i64 f.a.W, .int .i64 f.a.H, .slice f.a.A f.a.l.length f.a.c])), (18, 81, .slice (some ⟨b2, o2, none⟩) gs.length c'), (19, 82, .int .i64 k), (20, 83, .pointer (some ⟨b2, o2 + k * 9, none⟩)), (21, 84, .pointer (some ⟨b2, o2 + k * 9, none⟩)), (22, 85, .pointer (some ⟨b2, o2 + k * 9, none⟩)), (23, 86, (.agg #[.int .i64 g.a.W, .int .i64 g.a.H, .slice g.a.A g.a.l.length g.a.c])), (24, 87, (.agg #[.int .i64 ra.c, .int .i64 ra.d, .int .i64 ra.m, .int .i64 ra.s, .int .i64 ra.q])), (25, 88, .slice (some ⟨b1, o1, none⟩) fs.length c), (26, 89, .int .i64 k), (27, 90, .pointer (some ⟨b1, o1 + k * 9, none⟩)), (28, 91, .pointer (some ⟨b1, o1 + k * 9, none⟩)), (29, 92, .pointer (some ⟨b1, o1 + k * 9, none⟩)), (30, 93, (.agg #[.int .i64 f.a.W, .int .i64 f.a.H, .slice f.a.A f.a.l.length f.a.c])), (31, 94, .slice (some ⟨b2, o2, none⟩) gs.length c'), (32, 95, .int .i64 k), (33, 96, .pointer (some ⟨b2, o2 + k * 9, none⟩)), (34, 97, .pointer (some ⟨b2, o2 + k * 9, none⟩)), (35, 98, .pointer (some ⟨b2, o2 + k * 9, none⟩)), (36, 99, (.agg #[.int .i64 g.a.W, .int .i64 g.a.H, .slice g.a.A g.a.l.length g.a.c])), (37, 100, (.agg #[.int .i64 ra.c, .int .i64 ra.d, .int .i64 ra.m, .int .i64 ra.s, .int .i64 ra.q])), (38, 101, .bool false), (39, 102, .bool false)] ∧ (Below w0.heap.size w0 w')) HT_.out HW_.out (by kernel_rfl) (by kernel_rfl) ?_ ?_ ?_
                 · exact ⟨by simp only [putSel, Bool.false_eq_true, if_false], Below.refl _ _⟩
                 · skip
                   refine steps_cons ?_ ?_
                   · rintro b a w' ⟨ha, Q_BE⟩ hb_ hon hoff
                     refine ⟨_, rfl, fun K hK => ?_⟩
                     have e65 : a.tmps[65]? = some (.pointer (some ⟨b1, o1 + k * 9, none⟩)) := by rw [ha]; exact (putSel_off rfl).trans rfl
                     replace ha := Aside0.mk ha
                     have BE := Aside0.mk Q_BE
                     obtain ⟨c0, c1, c2, c3, c4, c5, c6, c7, c8⟩ := HNf.out BE.out
                     refine value_ (w1 := w') (v := (.agg #[Value.int .i64 f.a.W, .int .i64 f.a.H, .slice f.a.A f.a.l.length f.a.c, Value.int .i64 f.b.W, .int .i64 f.b.H, .slice f.b.A f.b.l.length f.b.c, Value.int .i64 f.c.W, .int .i64 f.c.H, .slice f.c.A f.c.l.length f.c.c])) (by rfl) rfl ?_ ?_
                     · go_simp
                       (try simp only [i64_w])
                       try rfl
                     refine hK.out _ _ ⟨(by rw [ha.out]; exact putSel_upk 0 hb_ rfl rfl rfl), Q_BE⟩
                   refine steps_cons ?_ ?_
                   · rintro b a w' ⟨ha, Q_BE⟩ hb_ hon hoff
                     refine ⟨_, rfl, fun K hK => ?_⟩
                     have e69 : a.tmps[69]? = some (.pointer (some ⟨b2, o2 + k * 9, none⟩)) := by rw [ha]; exact (putSel_off rfl).trans rfl
                     replace ha := Aside0.mk ha
                     have BE := Aside0.mk Q_BE
                     obtain ⟨c0, c1, c2, c3, c4, c5, c6, c7, c8⟩ := HNg.out BE.out
                     refine value_ (w1 := w') (v := (.agg #[Value.int .i64 g.a.W, .int .i64 g.a.H, .slice g.a.A g.a.l.length g.a.c, Value.int .i64 g.b.W, .int .i64 g.b.H, .slice g.b.A g.b.l.length g.b.c, Value.int .i64 g.c.W, .int .i64 g.c.H, .slice g.c.A g.c.l.length g.c.c])) (by rfl) rfl ?_ ?_
                     · go_simp
                       (try simp only [i64_w])
                       try rfl
                     refine hK.out _ _ ⟨(by rw [ha.out]; exact putSel_upk 1 hb_ rfl rfl rfl), Q_BE⟩
                   refine steps_cons ?_ ?_
                   · rintro b a w' ⟨ha, Q_BE⟩ hb_ hon hoff
                     refine ⟨_, rfl, fun K hK => ?_⟩
                     have e66 : a.tmps[66]? = some ((.agg #[Value.int .i64 f.a.W, .int .i64 f.a.H, .slice f.a.A f.a.l.length f.a.c, Value.int .i64 f.b.W, .int .i64 f.b.H, .slice f.b.A f.b.l.length f.b.c, Value.int .i64 f.c.W, .int .i64 f.c.H, .slice f.c.A f.c.l.length f.c.c])) := by rw [ha]; exact putSel_on (e := (3, 66, (.agg #[Value.int .i64 f.a.W, .int .i64 f.a.H, .slice f.a.A f.a.l.length f.a.c, Value.int .i64 f.b.W, .int .i64 f.b.H, .slice f.b.A f.b.l.length f.b.c, Value.int .i64 f.c.W, .int .i64 f.c.H, .slice f.c.A f.c.l.length f.c.c]))) 0 rfl rfl (hon 3 (by kernel_rfl)) rfl
                     have e70 : a.tmps[70]? = some ((.agg #[Value.int .i64 g.a.W, .int .i64 g.a.H, .slice g.a.A g.a.l.length g.a.c, Value.int .i64 g.b.W, .int .i64 g.b.H, .slice g.b.A g.b.l.length g.b.c, Value.int .i64 g.c.W, .int .i64 g.c.H, .slice g.c.A g.c.l.length g.c.c])) := by rw [ha]; exact putSel_on (e := (7, 70, (.agg #[Value.int .i64 g.a.W, .int .i64 g.a.H, .slice g.a.A g.a.l.length g.a.c, Value.int .i64 g.b.W, .int .i64 g.b.H, .slice g.b.A g.b.l.length g.b.c, Value.int .i64 g.c.W, .int .i64 g.c.H, .slice g.c.A g.c.l.length g.c.c]))) 1 rfl rfl (hon 7 (by kernel_rfl)) rfl
                     replace ha := Aside0.mk ha
                     have BE := Aside0.mk Q_BE
                     refine goes_ Tryd.func19 (by kernel_rfl) rfl #[(.agg #[Value.int .i64 f.a.W, .int .i64 f.a.H, .slice f.a.A f.a.l.length f.a.c, Value.int .i64 f.b.W, .int .i64 f.b.H, .slice f.b.A f.b.l.length f.b.c, Value.int .i64 f.c.W, .int .i64 f.c.H, .slice f.c.A f.c.l.length f.c.c]), (.agg #[Value.int .i64 g.a.W, .int .i64 g.a.H, .slice g.a.A g.a.l.length g.a.c, Value.int .i64 g.b.W, .int .i64 g.b.H, .slice g.b.A g.b.l.length g.b.c, Value.int .i64 g.c.W, .int .i64 g.c.H, .slice g.c.A g.c.l.length g.c.c])] (by rfl) rfl rfl (by first | (simp only [List.map_toArray, List.map_cons, List.map_nil, Act.eval, Array.getD_eq_getD_getElem?, Option.getD_some, e66, e70]; done) | (simp only [List.map_toArray, List.map_cons, List.map_nil, Act.eval, Array.getD_eq_getD_getElem?, Option.getD_some, e66, e70]; rfl)) ?_
                     with_reducible refine (f19_F f g r HR0 w' (HOf.out BE.out) (HOg.out BE.out)).mono ?_
                     rintro e w2 ⟨rfl, hb⟩
                     refine ⟨_, rfl, ?_⟩
                     refine hK.out _ _ ⟨(by rw [ha.out]; exact putSel_upk 2 hb_ rfl rfl rfl), BE.out.trans (hb.mono BE.out.size)⟩
                   refine steps_cons ?_ ?_
                   · rintro b a w' ⟨ha, Q_BE⟩ hb_ hon hoff
                     refine ⟨_, rfl, fun K hK => ?_⟩
                     have e14 : a.tmps[14]? = some (.pointer (some ⟨x14, 0, none⟩)) := by rw [ha]; exact (putSel_off rfl).trans rfl
                     replace ha := Aside0.mk ha
                     have BE := Aside0.mk Q_BE
                     obtain ⟨c0, c1, c2, c3, c4, _⟩ := five (HXB.out BE.out)
                     refine value_ (w1 := w') (v := (.agg #[.int .i64 r.c, .int .i64 r.d, .int .i64 r.m, .int .i64 r.s, .int .i64 r.q])) (by rfl) rfl ?_ ?_
                     · go_simp
                       (try simp only [i64_w])
                       try rfl
                     refine hK.out _ _ ⟨(by rw [ha.out]; exact putSel_upk 3 hb_ rfl rfl rfl), Q_BE⟩
                   refine steps_cons ?_ ?_
                   · rintro b a w' ⟨ha, Q_BE⟩ hb_ hon hoff
                     refine ⟨_, rfl, fun K hK => ?_⟩
                     have e71 : a.tmps[71]? = some ((.agg #[.int .i64 r.c, .int .i64 r.d, .int .i64 r.m, .int .i64 r.s, .int .i64 r.q])) := by rw [ha]; exact putSel_on (e := (8, 71, (.agg #[.int .i64 r.c, .int .i64 r.d, .int .i64 r.m, .int .i64 r.s, .int .i64 r.q]))) 2 rfl rfl (hon 8 (by kernel_rfl)) rfl
                     have e72 : a.tmps[72]? = some ((.agg #[.int .i64 r.c, .int .i64 r.d, .int .i64 r.m, .int .i64 r.s, .int .i64 r.q])) := by rw [ha]; exact putSel_on (e := (9, 72, (.agg #[.int .i64 r.c, .int .i64 r.d, .int .i64 r.m, .int .i64 r.s, .int .i64 r.q]))) 3 rfl rfl (hon 9 (by kernel_rfl)) rfl
                     replace ha := Aside0.mk ha
                     have BE := Aside0.mk Q_BE
                     have q0 : (r.c == r.c) = true := by simp
                     have q1 : (r.d == r.d) = true := by simp
                     have q2 : (r.m == r.m) = true := by simp
                     have q3 : (r.s == r.s) = true := by simp
                     have q4 : (r.q == r.q) = true := by simp
                     refine value_ (w1 := w') (v := .bool false) (by rfl) rfl ?_ ?_
                     · go_simp
                       (try simp only [i64_w])
                       try rfl
                     refine hK.out _ _ ⟨(by rw [ha.out]; exact putSel_upk 4 hb_ rfl rfl rfl), Q_BE⟩
                   refine steps_cons ?_ ?_
                   · rintro b a w' ⟨ha, Q_BE⟩ hb_ hon hoff
                     refine ⟨_, rfl, fun K hK => ?_⟩
                     have e73 : a.tmps[73]? = some (.bool false) := by rw [ha]; exact putSel_on (e := (10, 73, .bool false)) 4 rfl rfl (hon 10 (by kernel_rfl)) rfl
                     replace ha := Aside0.mk ha
                     have BE := Aside0.mk Q_BE
                     refine value_ (w1 := w') (v := .bool false) (by rfl) rfl ?_ ?_
                     · go_simp
                       (try simp only [i64_w])
                       try rfl
                     refine hK.out _ _ ⟨(by rw [ha.out]; exact putSel_upk 5 hb_ rfl rfl rfl), Q_BE⟩
                   refine steps_cons ?_ ?_
                   · rintro b a w' ⟨ha, Q_BE⟩ hb_ hon hoff
                     refine ⟨_, rfl, fun K hK => ?_⟩
                     have e0 : a.tmps[0]? = some (.slice (some ⟨b1, o1, none⟩) fs.length c) := by rw [ha]; exact (putSel_off rfl).trans rfl
                     have e74 : a.tmps[74]? = some (.bool false) := by rw [ha]; exact putSel_on (e := (11, 74, .bool false)) 5 rfl rfl (hon 11 (by kernel_rfl)) rfl
                     replace ha := Aside0.mk ha
                     have BE := Aside0.mk Q_BE
                     refine value_ (w1 := w') (v := .slice (some ⟨b1, o1, none⟩) fs.length c) (wanted_on rfl rfl rfl (e74.trans (by first | rfl | (simp [*]; done)))) rfl ?_ ?_
                     · go_simp
                       (try simp only [i64_w])
                       try rfl
                     refine hK.out _ _ ⟨(by rw [ha.out]; exact putSel_upk 6 hb_ rfl rfl rfl), Q_BE⟩
                   refine steps_cons ?_ ?_
                   · rintro b a w' ⟨ha, Q_BE⟩ hb_ hon hoff
                     refine ⟨_, rfl, fun K hK => ?_⟩
                     have e13 : a.tmps[13]? = some (.int .i64 k) := by rw [ha]; exact (putSel_off rfl).trans rfl
                     have e74 : a.tmps[74]? = some (.bool false) := by rw [ha]; exact putSel_on (e := (11, 74, .bool false)) 5 rfl rfl (hon 11 (by kernel_rfl)) rfl
                     replace ha := Aside0.mk ha
                     have BE := Aside0.mk Q_BE
                     refine value_ (w1 := w') (v := .int .i64 k) (wanted_on rfl rfl rfl (e74.trans (by first | rfl | (simp [*]; done)))) rfl ?_ ?_
                     · go_simp
                       (try simp only [i64_w])
                       try rfl
                     refine hK.out _ _ ⟨(by rw [ha.out]; exact putSel_upk 7 hb_ rfl rfl rfl), Q_BE⟩
                   refine steps_cons ?_ ?_
                   · rintro b a w' ⟨ha, Q_BE⟩ hb_ hon hoff
                     refine ⟨_, rfl, fun K hK => ?_⟩
                     have e75 : a.tmps[75]? = some (.slice (some ⟨b1, o1, none⟩) fs.length c) := by rw [ha]; exact putSel_on (e := (12, 75, .slice (some ⟨b1, o1, none⟩) fs.length c)) 6 rfl rfl (hon 12 (by kernel_rfl)) rfl
                     have e76 : a.tmps[76]? = some (.int .i64 k) := by rw [ha]; exact putSel_on (e := (13, 76, .int .i64 k)) 7 rfl rfl (hon 13 (by kernel_rfl)) rfl
                     have e74 : a.tmps[74]? = some (.bool false) := by rw [ha]; exact putSel_on (e := (11, 74, .bool false)) 5 rfl rfl (hon 11 (by kernel_rfl)) rfl
                     replace ha := Aside0.mk ha
                     have BE := Aside0.mk Q_BE
                     refine value_ (w1 := w') (v := .pointer (some ⟨b1, o1 + k * 9, none⟩)) (wanted_on rfl rfl rfl (e74.trans (by first | rfl | (simp [*]; done)))) rfl ?_ ?_
                     · go_simp
                       (try simp only [i64_w])
                       try rfl
                     refine hK.out _ _ ⟨(by rw [ha.out]; exact putSel_upk 8 hb_ rfl rfl rfl), Q_BE⟩
                   refine steps_cons ?_ ?_
                   · rintro b a w' ⟨ha, Q_BE⟩ hb_ hon hoff
                     refine ⟨_, rfl, fun K hK => ?_⟩
                     have e77 : a.tmps[77]? = some (.pointer (some ⟨b1, o1 + k * 9, none⟩)) := by rw [ha]; exact putSel_on (e := (14, 77, .pointer (some ⟨b1, o1 + k * 9, none⟩))) 8 rfl rfl (hon 14 (by kernel_rfl)) rfl
                     have e74 : a.tmps[74]? = some (.bool false) := by rw [ha]; exact putSel_on (e := (11, 74, .bool false)) 5 rfl rfl (hon 11 (by kernel_rfl)) rfl
                     replace ha := Aside0.mk ha
                     have BE := Aside0.mk Q_BE
                     refine value_ (w1 := w') (v := .pointer (some ⟨b1, o1 + k * 9, none⟩)) (wanted_on rfl rfl rfl (e74.trans (by first | rfl | (simp [*]; done)))) rfl ?_ ?_
                     · go_simp
                       (try simp only [i64_w])
                       try rfl
                     refine hK.out _ _ ⟨(by rw [ha.out]; exact putSel_upk 9 hb_ rfl rfl rfl), Q_BE⟩
                   refine steps_cons ?_ ?_
                   · rintro b a w' ⟨ha, Q_BE⟩ hb_ hon hoff
                     refine ⟨_, rfl, fun K hK => ?_⟩
                     have e78 : a.tmps[78]? = some (.pointer (some ⟨b1, o1 + k * 9, none⟩)) := by rw [ha]; exact putSel_on (e := (15, 78, .pointer (some ⟨b1, o1 + k * 9, none⟩))) 9 rfl rfl (hon 15 (by kernel_rfl)) rfl
                     have e74 : a.tmps[74]? = some (.bool false) := by rw [ha]; exact putSel_on (e := (11, 74, .bool false)) 5 rfl rfl (hon 11 (by kernel_rfl)) rfl
                     replace ha := Aside0.mk ha
                     have BE := Aside0.mk Q_BE
                     refine value_ (w1 := w') (v := .pointer (some ⟨b1, o1 + k * 9, none⟩)) (wanted_on rfl rfl rfl (e74.trans (by first | rfl | (simp [*]; done)))) rfl ?_ ?_
                     · go_simp
                       (try simp only [i64_w])
                       try rfl
                     refine hK.out _ _ ⟨(by rw [ha.out]; exact putSel_upk 10 hb_ rfl rfl rfl), Q_BE⟩
                   refine steps_cons ?_ ?_
                   · rintro b a w' ⟨ha, Q_BE⟩ hb_ hon hoff
                     refine ⟨_, rfl, fun K hK => ?_⟩
                     have e79 : a.tmps[79]? = some (.pointer (some ⟨b1, o1 + k * 9, none⟩)) := by rw [ha]; exact putSel_on (e := (16, 79, .pointer (some ⟨b1, o1 + k * 9, none⟩))) 10 rfl rfl (hon 16 (by kernel_rfl)) rfl
                     have e74 : a.tmps[74]? = some (.bool false) := by rw [ha]; exact putSel_on (e := (11, 74, .bool false)) 5 rfl rfl (hon 11 (by kernel_rfl)) rfl
                     replace ha := Aside0.mk ha
                     have BE := Aside0.mk Q_BE
                     obtain ⟨c0, c1, c2, c3, c4, c5, c6, c7, c8⟩ := HNf.out BE.out
                     refine value_ (w1 := w') (v := (.agg #[.int .i64 f.a.W, .int .i64 f.a.H, .slice f.a.A f.a.l.length f.a.c])) (wanted_on rfl rfl rfl (e74.trans (by first | rfl | (simp [*]; done)))) rfl ?_ ?_
                     · go_simp
                       (try simp only [i64_w])
                       try rfl
                     refine hK.out _ _ ⟨(by rw [ha.out]; exact putSel_upk 11 hb_ rfl rfl rfl), Q_BE⟩
                   refine steps_cons ?_ ?_
                   · rintro b a w' ⟨ha, Q_BE⟩ hb_ hon hoff
                     refine ⟨_, rfl, fun K hK => ?_⟩
                     have e1 : a.tmps[1]? = some (.slice (some ⟨b2, o2, none⟩) gs.length c') := by rw [ha]; exact (putSel_off rfl).trans rfl
                     have e74 : a.tmps[74]? = some (.bool false) := by rw [ha]; exact putSel_on (e := (11, 74, .bool false)) 5 rfl rfl (hon 11 (by kernel_rfl)) rfl
                     replace ha := Aside0.mk ha
                     have BE := Aside0.mk Q_BE
                     refine value_ (w1 := w') (v := .slice (some ⟨b2, o2, none⟩) gs.length c') (wanted_on rfl rfl rfl (e74.trans (by first | rfl | (simp [*]; done)))) rfl ?_ ?_
                     · go_simp
                       (try simp only [i64_w])
                       try rfl
                     refine hK.out _ _ ⟨(by rw [ha.out]; exact putSel_upk 12 hb_ rfl rfl rfl), Q_BE⟩
                   refine steps_cons ?_ ?_
                   · rintro b a w' ⟨ha, Q_BE⟩ hb_ hon hoff
                     refine ⟨_, rfl, fun K hK => ?_⟩
                     have e13 : a.tmps[13]? = some (.int .i64 k) := by rw [ha]; exact (putSel_off rfl).trans rfl
                     have e74 : a.tmps[74]? = some (.bool false) := by rw [ha]; exact putSel_on (e := (11, 74, .bool false)) 5 rfl rfl (hon 11 (by kernel_rfl)) rfl
                     replace ha := Aside0.mk ha
                     have BE := Aside0.mk Q_BE
                     refine value_ (w1 := w') (v := .int .i64 k) (wanted_on rfl rfl rfl (e74.trans (by first | rfl | (simp [*]; done)))) rfl ?_ ?_
                     · go_simp
                       (try simp only [i64_w])
                       try rfl
                     refine hK.out _ _ ⟨(by rw [ha.out]; exact putSel_upk 13 hb_ rfl rfl rfl), Q_BE⟩
                   refine steps_cons ?_ ?_
                   · rintro b a w' ⟨ha, Q_BE⟩ hb_ hon hoff
                     refine ⟨_, rfl, fun K hK => ?_⟩
                     have e81 : a.tmps[81]? = some (.slice (some ⟨b2, o2, none⟩) gs.length c') := by rw [ha]; exact putSel_on (e := (18, 81, .slice (some ⟨b2, o2, none⟩) gs.length c')) 12 rfl rfl (hon 18 (by kernel_rfl)) rfl
                     have e82 : a.tmps[82]? = some (.int .i64 k) := by rw [ha]; exact putSel_on (e := (19, 82, .int .i64 k)) 13 rfl rfl (hon 19 (by kernel_rfl)) rfl
                     have e74 : a.tmps[74]? = some (.bool false) := by rw [ha]; exact putSel_on (e := (11, 74, .bool false)) 5 rfl rfl (hon 11 (by kernel_rfl)) rfl
                     replace ha := Aside0.mk ha
                     have BE := Aside0.mk Q_BE
                     refine value_ (w1 := w') (v := .pointer (some ⟨b2, o2 + k * 9, none⟩)) (wanted_on rfl rfl rfl (e74.trans (by first | rfl | (simp [*]; done)))) rfl ?_ ?_
                     · go_simp
                       (try simp only [i64_w])
                       try rfl
                     refine hK.out _ _ ⟨(by rw [ha.out]; exact putSel_upk 14 hb_ rfl rfl rfl), Q_BE⟩
                   refine steps_cons ?_ ?_
                   · rintro b a w' ⟨ha, Q_BE⟩ hb_ hon hoff
                     refine ⟨_, rfl, fun K hK => ?_⟩
                     have e83 : a.tmps[83]? = some (.pointer (some ⟨b2, o2 + k * 9, none⟩)) := by rw [ha]; exact putSel_on (e := (20, 83, .pointer (some ⟨b2, o2 + k * 9, none⟩))) 14 rfl rfl (hon 20 (by kernel_rfl)) rfl
                     have e74 : a.tmps[74]? = some (.bool false) := by rw [ha]; exact putSel_on (e := (11, 74, .bool false)) 5 rfl rfl (hon 11 (by kernel_rfl)) rfl
                     replace ha := Aside0.mk ha
                     have BE := Aside0.mk Q_BE
                     refine value_ (w1 := w') (v := .pointer (some ⟨b2, o2 + k * 9, none⟩)) (wanted_on rfl rfl rfl (e74.trans (by first | rfl | (simp [*]; done)))) rfl ?_ ?_
                     · go_simp
                       (try simp only [i64_w])
                       try rfl
                     refine hK.out _ _ ⟨(by rw [ha.out]; exact putSel_upk 15 hb_ rfl rfl rfl), Q_BE⟩
                   refine steps_cons ?_ ?_
                   · rintro b a w' ⟨ha, Q_BE⟩ hb_ hon hoff
                     refine ⟨_, rfl, fun K hK => ?_⟩
                     have e84 : a.tmps[84]? = some (.pointer (some ⟨b2, o2 + k * 9, none⟩)) := by rw [ha]; exact putSel_on (e := (21, 84, .pointer (some ⟨b2, o2 + k * 9, none⟩))) 15 rfl rfl (hon 21 (by kernel_rfl)) rfl
                     have e74 : a.tmps[74]? = some (.bool false) := by rw [ha]; exact putSel_on (e := (11, 74, .bool false)) 5 rfl rfl (hon 11 (by kernel_rfl)) rfl
                     replace ha := Aside0.mk ha
                     have BE := Aside0.mk Q_BE
                     refine value_ (w1 := w') (v := .pointer (some ⟨b2, o2 + k * 9, none⟩)) (wanted_on rfl rfl rfl (e74.trans (by first | rfl | (simp [*]; done)))) rfl ?_ ?_
                     · go_simp
                       (try simp only [i64_w])
                       try rfl
                     refine hK.out _ _ ⟨(by rw [ha.out]; exact putSel_upk 16 hb_ rfl rfl rfl), Q_BE⟩
                   refine steps_cons ?_ ?_
                   · rintro b a w' ⟨ha, Q_BE⟩ hb_ hon hoff
                     refine ⟨_, rfl, fun K hK => ?_⟩
                     have e85 : a.tmps[85]? = some (.pointer (some ⟨b2, o2 + k * 9, none⟩)) := by rw [ha]; exact putSel_on (e := (22, 85, .pointer (some ⟨b2, o2 + k * 9, none⟩))) 16 rfl rfl (hon 22 (by kernel_rfl)) rfl
                     have e74 : a.tmps[74]? = some (.bool false) := by rw [ha]; exact putSel_on (e := (11, 74, .bool false)) 5 rfl rfl (hon 11 (by kernel_rfl)) rfl
                     replace ha := Aside0.mk ha
                     have BE := Aside0.mk Q_BE
                     obtain ⟨c0, c1, c2, c3, c4, c5, c6, c7, c8⟩ := HNg.out BE.out
                     refine value_ (w1 := w') (v := (.agg #[.int .i64 g.a.W, .int .i64 g.a.H, .slice g.a.A g.a.l.length g.a.c])) (wanted_on rfl rfl rfl (e74.trans (by first | rfl | (simp [*]; done)))) rfl ?_ ?_
                     · go_simp
                       (try simp only [i64_w])
                       try rfl
                     refine hK.out _ _ ⟨(by rw [ha.out]; exact putSel_upk 17 hb_ rfl rfl rfl), Q_BE⟩
                   refine steps_cons ?_ ?_
                   · rintro b a w' ⟨ha, Q_BE⟩ hb_ hon hoff
                     refine ⟨_, rfl, fun K hK => ?_⟩
                     have e80 : a.tmps[80]? = some ((.agg #[.int .i64 f.a.W, .int .i64 f.a.H, .slice f.a.A f.a.l.length f.a.c])) := by rw [ha]; exact putSel_on (e := (17, 80, (.agg #[.int .i64 f.a.W, .int .i64 f.a.H, .slice f.a.A f.a.l.length f.a.c]))) 11 rfl rfl (hon 17 (by kernel_rfl)) rfl
                     have e86 : a.tmps[86]? = some ((.agg #[.int .i64 g.a.W, .int .i64 g.a.H, .slice g.a.A g.a.l.length g.a.c])) := by rw [ha]; exact putSel_on (e := (23, 86, (.agg #[.int .i64 g.a.W, .int .i64 g.a.H, .slice g.a.A g.a.l.length g.a.c]))) 17 rfl rfl (hon 23 (by kernel_rfl)) rfl
                     have e74 : a.tmps[74]? = some (.bool false) := by rw [ha]; exact putSel_on (e := (11, 74, .bool false)) 5 rfl rfl (hon 11 (by kernel_rfl)) rfl
                     replace ha := Aside0.mk ha
                     have BE := Aside0.mk Q_BE
                     refine goes_ Tryd.func16 (by kernel_rfl) rfl #[(.agg #[.int .i64 f.a.W, .int .i64 f.a.H, .slice f.a.A f.a.l.length f.a.c]), (.agg #[.int .i64 g.a.W, .int .i64 g.a.H, .slice g.a.A g.a.l.length g.a.c])] (wanted_on rfl rfl rfl (e74.trans (by first | rfl | (simp [*]; done)))) rfl rfl (by first | (simp only [List.map_toArray, List.map_cons, List.map_nil, Act.eval, Array.getD_eq_getD_getElem?, Option.getD_some, e80, e86, e74]; done) | (simp only [List.map_toArray, List.map_cons, List.map_nil, Act.eval, Array.getD_eq_getD_getElem?, Option.getD_some, e80, e86, e74]; rfl)) ?_
                     with_reducible refine (f16_P f.a g.a ra HRA w' (Lib.hid (fm_a (HOf.out BE.out).out)) (Lib.hid (fm_a (HOg.out BE.out).out))).mono ?_
                     rintro e w2 ⟨rfl, hb⟩
                     refine ⟨_, rfl, ?_⟩
                     refine hK.out _ _ ⟨(by rw [ha.out]; exact putSel_upk 18 hb_ rfl rfl rfl), BE.out.trans (hb.mono BE.out.size)⟩
                   refine steps_cons ?_ ?_
                   · rintro b a w' ⟨ha, Q_BE⟩ hb_ hon hoff
                     refine ⟨_, rfl, fun K hK => ?_⟩
                     have e0 : a.tmps[0]? = some (.slice (some ⟨b1, o1, none⟩) fs.length c) := by rw [ha]; exact (putSel_off rfl).trans rfl
                     have e74 : a.tmps[74]? = some (.bool false) := by rw [ha]; exact putSel_on (e := (11, 74, .bool false)) 5 rfl rfl (hon 11 (by kernel_rfl)) rfl
                     replace ha := Aside0.mk ha
                     have BE := Aside0.mk Q_BE
                     refine value_ (w1 := w') (v := .slice (some ⟨b1, o1, none⟩) fs.length c) (wanted_on rfl rfl rfl (e74.trans (by first | rfl | (simp [*]; done)))) rfl ?_ ?_
                     · go_simp
                       (try simp only [i64_w])
                       try rfl
                     refine hK.out _ _ ⟨(by rw [ha.out]; exact putSel_upk 19 hb_ rfl rfl rfl), Q_BE⟩
                   refine steps_cons ?_ ?_
                   · rintro b a w' ⟨ha, Q_BE⟩ hb_ hon hoff
                     refine ⟨_, rfl, fun K hK => ?_⟩
                     have e13 : a.tmps[13]? = some (.int .i64 k) := by rw [ha]; exact (putSel_off rfl).trans rfl
                     have e74 : a.tmps[74]? = some (.bool false) := by rw [ha]; exact putSel_on (e := (11, 74, .bool false)) 5 rfl rfl (hon 11 (by kernel_rfl)) rfl
                     replace ha := Aside0.mk ha
                     have BE := Aside0.mk Q_BE
                     refine value_ (w1 := w') (v := .int .i64 k) (wanted_on rfl rfl rfl (e74.trans (by first | rfl | (simp [*]; done)))) rfl ?_ ?_
                     · go_simp
                       (try simp only [i64_w])
                       try rfl
                     refine hK.out _ _ ⟨(by rw [ha.out]; exact putSel_upk 20 hb_ rfl rfl rfl), Q_BE⟩
                   refine steps_cons ?_ ?_
                   · rintro b a w' ⟨ha, Q_BE⟩ hb_ hon hoff
                     refine ⟨_, rfl, fun K hK => ?_⟩
                     have e88 : a.tmps[88]? = some (.slice (some ⟨b1, o1, none⟩) fs.length c) := by rw [ha]; exact putSel_on (e := (25, 88, .slice (some ⟨b1, o1, none⟩) fs.length c)) 19 rfl rfl (hon 25 (by kernel_rfl)) rfl
                     have e89 : a.tmps[89]? = some (.int .i64 k) := by rw [ha]; exact putSel_on (e := (26, 89, .int .i64 k)) 20 rfl rfl (hon 26 (by kernel_rfl)) rfl
                     have e74 : a.tmps[74]? = some (.bool false) := by rw [ha]; exact putSel_on (e := (11, 74, .bool false)) 5 rfl rfl (hon 11 (by kernel_rfl)) rfl
                     replace ha := Aside0.mk ha
                     have BE := Aside0.mk Q_BE
                     refine value_ (w1 := w') (v := .pointer (some ⟨b1, o1 + k * 9, none⟩)) (wanted_on rfl rfl rfl (e74.trans (by first | rfl | (simp [*]; done)))) rfl ?_ ?_
                     · go_simp
                       (try simp only [i64_w])
                       try rfl
                     refine hK.out _ _ ⟨(by rw [ha.out]; exact putSel_upk 21 hb_ rfl rfl rfl), Q_BE⟩
                   refine steps_cons ?_ ?_
                   · rintro b a w' ⟨ha, Q_BE⟩ hb_ hon hoff
                     refine ⟨_, rfl, fun K hK => ?_⟩
                     have e90 : a.tmps[90]? = some (.pointer (some ⟨b1, o1 + k * 9, none⟩)) := by rw [ha]; exact putSel_on (e := (27, 90, .pointer (some ⟨b1, o1 + k * 9, none⟩))) 21 rfl rfl (hon 27 (by kernel_rfl)) rfl
                     have e74 : a.tmps[74]? = some (.bool false) := by rw [ha]; exact putSel_on (e := (11, 74, .bool false)) 5 rfl rfl (hon 11 (by kernel_rfl)) rfl
                     replace ha := Aside0.mk ha
                     have BE := Aside0.mk Q_BE
                     refine value_ (w1 := w') (v := .pointer (some ⟨b1, o1 + k * 9, none⟩)) (wanted_on rfl rfl rfl (e74.trans (by first | rfl | (simp [*]; done)))) rfl ?_ ?_
                     · go_simp
                       (try simp only [i64_w])
                       try rfl
                     refine hK.out _ _ ⟨(by rw [ha.out]; exact putSel_upk 22 hb_ rfl rfl rfl), Q_BE⟩
                   refine steps_cons ?_ ?_
                   · rintro b a w' ⟨ha, Q_BE⟩ hb_ hon hoff
                     refine ⟨_, rfl, fun K hK => ?_⟩
                     have e91 : a.tmps[91]? = some (.pointer (some ⟨b1, o1 + k * 9, none⟩)) := by rw [ha]; exact putSel_on (e := (28, 91, .pointer (some ⟨b1, o1 + k * 9, none⟩))) 22 rfl rfl (hon 28 (by kernel_rfl)) rfl
                     have e74 : a.tmps[74]? = some (.bool false) := by rw [ha]; exact putSel_on (e := (11, 74, .bool false)) 5 rfl rfl (hon 11 (by kernel_rfl)) rfl
                     replace ha := Aside0.mk ha
                     have BE := Aside0.mk Q_BE
                     refine value_ (w1 := w') (v := .pointer (some ⟨b1, o1 + k * 9, none⟩)) (wanted_on rfl rfl rfl (e74.trans (by first | rfl | (simp [*]; done)))) rfl ?_ ?_
                     · go_simp
                       (try simp only [i64_w])
                       try rfl
                     refine hK.out _ _ ⟨(by rw [ha.out]; exact putSel_upk 23 hb_ rfl rfl rfl), Q_BE⟩
                   refine steps_cons ?_ ?_
                   · rintro b a w' ⟨ha, Q_BE⟩ hb_ hon hoff
                     refine ⟨_, rfl, fun K hK => ?_⟩
                     have e92 : a.tmps[92]? = some (.pointer (some ⟨b1, o1 + k * 9, none⟩)) := by rw [ha]; exact putSel_on (e := (29, 92, .pointer (some ⟨b1, o1 + k * 9, none⟩))) 23 rfl rfl (hon 29 (by kernel_rfl)) rfl
                     have e74 : a.tmps[74]? = some (.bool false) := by rw [ha]; exact putSel_on (e := (11, 74, .bool false)) 5 rfl rfl (hon 11 (by kernel_rfl)) rfl
                     replace ha := Aside0.mk ha
                     have BE := Aside0.mk Q_BE
                     obtain ⟨c0, c1, c2, c3, c4, c5, c6, c7, c8⟩ := HNf.out BE.out
                     refine value_ (w1 := w') (v := (.agg #[.int .i64 f.a.W, .int .i64 f.a.H, .slice f.a.A f.a.l.length f.a.c])) (wanted_on rfl rfl rfl (e74.trans (by first | rfl | (simp [*]; done)))) rfl ?_ ?_
                     · go_simp
                       (try simp only [i64_w])
                       try rfl
                     refine hK.out _ _ ⟨(by rw [ha.out]; exact putSel_upk 24 hb_ rfl rfl rfl), Q_BE⟩
                   refine steps_cons ?_ ?_
                   · rintro b a w' ⟨ha, Q_BE⟩ hb_ hon hoff
                     refine ⟨_, rfl, fun K hK => ?_⟩
                     have e1 : a.tmps[1]? = some (.slice (some ⟨b2, o2, none⟩) gs.length c') := by rw [ha]; exact (putSel_off rfl).trans rfl
                     have e74 : a.tmps[74]? = some (.bool false) := by rw [ha]; exact putSel_on (e := (11, 74, .bool false)) 5 rfl rfl (hon 11 (by kernel_rfl)) rfl
                     replace ha := Aside0.mk ha
                     have BE := Aside0.mk Q_BE
                     refine value_ (w1 := w') (v := .slice (some ⟨b2, o2, none⟩) gs.length c') (wanted_on rfl rfl rfl (e74.trans (by first | rfl | (simp [*]; done)))) rfl ?_ ?_
                     · go_simp
                       (try simp only [i64_w])
                       try rfl
                     refine hK.out _ _ ⟨(by rw [ha.out]; exact putSel_upk 25 hb_ rfl rfl rfl), Q_BE⟩
                   refine steps_cons ?_ ?_
                   · rintro b a w' ⟨ha, Q_BE⟩ hb_ hon hoff
                     refine ⟨_, rfl, fun K hK => ?_⟩
                     have e13 : a.tmps[13]? = some (.int .i64 k) := by rw [ha]; exact (putSel_off rfl).trans rfl
                     have e74 : a.tmps[74]? = some (.bool false) := by rw [ha]; exact putSel_on (e := (11, 74, .bool false)) 5 rfl rfl (hon 11 (by kernel_rfl)) rfl
                     replace ha := Aside0.mk ha
                     have BE := Aside0.mk Q_BE
                     refine value_ (w1 := w') (v := .int .i64 k) (wanted_on rfl rfl rfl (e74.trans (by first | rfl | (simp [*]; done)))) rfl ?_ ?_
                     · go_simp
                       (try simp only [i64_w])
                       try rfl
                     refine hK.out _ _ ⟨(by rw [ha.out]; exact putSel_upk 26 hb_ rfl rfl rfl), Q_BE⟩
                   refine steps_cons ?_ ?_
                   · rintro b a w' ⟨ha, Q_BE⟩ hb_ hon hoff
                     refine ⟨_, rfl, fun K hK => ?_⟩
                     have e94 : a.tmps[94]? = some (.slice (some ⟨b2, o2, none⟩) gs.length c') := by rw [ha]; exact putSel_on (e := (31, 94, .slice (some ⟨b2, o2, none⟩) gs.length c')) 25 rfl rfl (hon 31 (by kernel_rfl)) rfl
                     have e95 : a.tmps[95]? = some (.int .i64 k) := by rw [ha]; exact putSel_on (e := (32, 95, .int .i64 k)) 26 rfl rfl (hon 32 (by kernel_rfl)) rfl
                     have e74 : a.tmps[74]? = some (.bool false) := by rw [ha]; exact putSel_on (e := (11, 74, .bool false)) 5 rfl rfl (hon 11 (by kernel_rfl)) rfl
                     replace ha := Aside0.mk ha
                     have BE := Aside0.mk Q_BE
                     refine value_ (w1 := w') (v := .pointer (some ⟨b2, o2 + k * 9, none⟩)) (wanted_on rfl rfl rfl (e74.trans (by first | rfl | (simp [*]; done)))) rfl ?_ ?_
                     · go_simp
                       (try simp only [i64_w])
                       try rfl
                     refine hK.out _ _ ⟨(by rw [ha.out]; exact putSel_upk 27 hb_ rfl rfl rfl), Q_BE⟩
                   refine steps_cons ?_ ?_
                   · rintro b a w' ⟨ha, Q_BE⟩ hb_ hon hoff
                     refine ⟨_, rfl, fun K hK => ?_⟩
                     have e96 : a.tmps[96]? = some (.pointer (some ⟨b2, o2 + k * 9, none⟩)) := by rw [ha]; exact putSel_on (e := (33, 96, .pointer (some ⟨b2, o2 + k * 9, none⟩))) 27 rfl rfl (hon 33 (by kernel_rfl)) rfl
                     have e74 : a.tmps[74]? = some (.bool false) := by rw [ha]; exact putSel_on (e := (11, 74, .bool false)) 5 rfl rfl (hon 11 (by kernel_rfl)) rfl
                     replace ha := Aside0.mk ha
                     have BE := Aside0.mk Q_BE
                     refine value_ (w1 := w') (v := .pointer (some ⟨b2, o2 + k * 9, none⟩)) (wanted_on rfl rfl rfl (e74.trans (by first | rfl | (simp [*]; done)))) rfl ?_ ?_
                     · go_simp
                       (try simp only [i64_w])
                       try rfl
                     refine hK.out _ _ ⟨(by rw [ha.out]; exact putSel_upk 28 hb_ rfl rfl rfl), Q_BE⟩
                   refine steps_cons ?_ ?_
                   · rintro b a w' ⟨ha, Q_BE⟩ hb_ hon hoff
                     refine ⟨_, rfl, fun K hK => ?_⟩
                     have e97 : a.tmps[97]? = some (.pointer (some ⟨b2, o2 + k * 9, none⟩)) := by rw [ha]; exact putSel_on (e := (34, 97, .pointer (some ⟨b2, o2 + k * 9, none⟩))) 28 rfl rfl (hon 34 (by kernel_rfl)) rfl
                     have e74 : a.tmps[74]? = some (.bool false) := by rw [ha]; exact putSel_on (e := (11, 74, .bool false)) 5 rfl rfl (hon 11 (by kernel_rfl)) rfl
                     replace ha := Aside0.mk ha
                     have BE := Aside0.mk Q_BE
                     refine value_ (w1 := w') (v := .pointer (some ⟨b2, o2 + k * 9, none⟩)) (wanted_on rfl rfl rfl (e74.trans (by first | rfl | (simp [*]; done)))) rfl ?_ ?_
                     · go_simp
                       (try simp only [i64_w])
                       try rfl
                     refine hK.out _ _ ⟨(by rw [ha.out]; exact putSel_upk 29 hb_ rfl rfl rfl), Q_BE⟩
                   refine steps_cons ?_ ?_
                   · rintro b a w' ⟨ha, Q_BE⟩ hb_ hon hoff
                     refine ⟨_, rfl, fun K hK => ?_⟩
                     have e98 : a.tmps[98]? = some (.pointer (some ⟨b2, o2 + k * 9, none⟩)) := by rw [ha]; exact putSel_on (e := (35, 98, .pointer (some ⟨b2, o2 + k * 9, none⟩))) 29 rfl rfl (hon 35 (by kernel_rfl)) rfl
                     have e74 : a.tmps[74]? = some (.bool false) := by rw [ha]; exact putSel_on (e := (11, 74, .bool false)) 5 rfl rfl (hon 11 (by kernel_rfl)) rfl
                     replace ha := Aside0.mk ha
                     have BE := Aside0.mk Q_BE
                     obtain ⟨c0, c1, c2, c3, c4, c5, c6, c7, c8⟩ := HNg.out BE.out
                     refine value_ (w1 := w') (v := (.agg #[.int .i64 g.a.W, .int .i64 g.a.H, .slice g.a.A g.a.l.length g.a.c])) (wanted_on rfl rfl rfl (e74.trans (by first | rfl | (simp [*]; done)))) rfl ?_ ?_
                     · go_simp
                       (try simp only [i64_w])
                       try rfl
                     refine hK.out _ _ ⟨(by rw [ha.out]; exact putSel_upk 30 hb_ rfl rfl rfl), Q_BE⟩
                   refine steps_cons ?_ ?_
                   · rintro b a w' ⟨ha, Q_BE⟩ hb_ hon hoff
                     refine ⟨_, rfl, fun K hK => ?_⟩
                     have e93 : a.tmps[93]? = some ((.agg #[.int .i64 f.a.W, .int .i64 f.a.H, .slice f.a.A f.a.l.length f.a.c])) := by rw [ha]; exact putSel_on (e := (30, 93, (.agg #[.int .i64 f.a.W, .int .i64 f.a.H, .slice f.a.A f.a.l.length f.a.c]))) 24 rfl rfl (hon 30 (by kernel_rfl)) rfl
                     have e99 : a.tmps[99]? = some ((.agg #[.int .i64 g.a.W, .int .i64 g.a.H, .slice g.a.A g.a.l.length g.a.c])) := by rw [ha]; exact putSel_on (e := (36, 99, (.agg #[.int .i64 g.a.W, .int .i64 g.a.H, .slice g.a.A g.a.l.length g.a.c]))) 30 rfl rfl (hon 36 (by kernel_rfl)) rfl
                     have e74 : a.tmps[74]? = some (.bool false) := by rw [ha]; exact putSel_on (e := (11, 74, .bool false)) 5 rfl rfl (hon 11 (by kernel_rfl)) rfl
                     replace ha := Aside0.mk ha
                     have BE := Aside0.mk Q_BE
                     refine goes_ Tryd.func20 (by kernel_rfl) rfl #[(.agg #[.int .i64 f.a.W, .int .i64 f.a.H, .slice f.a.A f.a.l.length f.a.c]), (.agg #[.int .i64 g.a.W, .int .i64 g.a.H, .slice g.a.A g.a.l.length g.a.c])] (wanted_on rfl rfl rfl (e74.trans (by first | rfl | (simp [*]; done)))) rfl rfl (by first | (simp only [List.map_toArray, List.map_cons, List.map_nil, Act.eval, Array.getD_eq_getD_getElem?, Option.getD_some, e93, e99, e74]; done) | (simp only [List.map_toArray, List.map_cons, List.map_nil, Act.eval, Array.getD_eq_getD_getElem?, Option.getD_some, e93, e99, e74]; rfl)) ?_
                     with_reducible refine (f20_P f.a g.a ra HRA w' (Lib.hid (fm_a (HOf.out BE.out).out)) (Lib.hid (fm_a (HOg.out BE.out).out))).mono ?_
                     rintro e w2 ⟨rfl, hb⟩
                     refine ⟨_, rfl, ?_⟩
                     refine hK.out _ _ ⟨(by rw [ha.out]; exact putSel_upk 31 hb_ rfl rfl rfl), BE.out.trans (hb.mono BE.out.size)⟩
                   refine steps_cons ?_ ?_
                   · rintro b a w' ⟨ha, Q_BE⟩ hb_ hon hoff
                     refine ⟨_, rfl, fun K hK => ?_⟩
                     have e87 : a.tmps[87]? = some ((.agg #[.int .i64 ra.c, .int .i64 ra.d, .int .i64 ra.m, .int .i64 ra.s, .int .i64 ra.q])) := by rw [ha]; exact putSel_on (e := (24, 87, (.agg #[.int .i64 ra.c, .int .i64 ra.d, .int .i64 ra.m, .int .i64 ra.s, .int .i64 ra.q]))) 18 rfl rfl (hon 24 (by kernel_rfl)) rfl
                     have e100 : a.tmps[100]? = some ((.agg #[.int .i64 ra.c, .int .i64 ra.d, .int .i64 ra.m, .int .i64 ra.s, .int .i64 ra.q])) := by rw [ha]; exact putSel_on (e := (37, 100, (.agg #[.int .i64 ra.c, .int .i64 ra.d, .int .i64 ra.m, .int .i64 ra.s, .int .i64 ra.q]))) 31 rfl rfl (hon 37 (by kernel_rfl)) rfl
                     have e74 : a.tmps[74]? = some (.bool false) := by rw [ha]; exact putSel_on (e := (11, 74, .bool false)) 5 rfl rfl (hon 11 (by kernel_rfl)) rfl
                     replace ha := Aside0.mk ha
                     have BE := Aside0.mk Q_BE
                     have q0 : (ra.c == ra.c) = true := by simp
                     have q1 : (ra.d == ra.d) = true := by simp
                     have q2 : (ra.m == ra.m) = true := by simp
                     have q3 : (ra.s == ra.s) = true := by simp
                     have q4 : (ra.q == ra.q) = true := by simp
                     refine value_ (w1 := w') (v := .bool false) (wanted_on rfl rfl rfl (e74.trans (by first | rfl | (simp [*]; done)))) rfl ?_ ?_
                     · go_simp
                       (try simp only [i64_w])
                       try rfl
                     refine hK.out _ _ ⟨(by rw [ha.out]; exact putSel_upk 32 hb_ rfl rfl rfl), Q_BE⟩
                   refine steps_cons ?_ ?_
                   · rintro b a w' ⟨ha, Q_BE⟩ hb_ hon hoff
                     refine ⟨_, rfl, fun K hK => ?_⟩
                     have e74 : a.tmps[74]? = some (.bool false) := by rw [ha]; exact putSel_on (e := (11, 74, .bool false)) 5 rfl rfl (hon 11 (by kernel_rfl)) rfl
                     have e101 : a.tmps[101]? = some (.bool false) := by rw [ha]; exact putSel_on (e := (38, 101, .bool false)) 32 rfl rfl (hon 38 (by kernel_rfl)) rfl
                     replace ha := Aside0.mk ha
                     have BE := Aside0.mk Q_BE
                     refine value_ (w1 := w') (v := .bool false) (by rfl) rfl ?_ ?_
                     · go_simp
                       (try simp only [i64_w])
                       try rfl
                     refine hK.out _ _ ⟨(by rw [ha.out]; exact putSel_upk 33 hb_ rfl rfl rfl), Q_BE⟩
                   exact steps_nil
                 · rintro b a w' hall ⟨ha, Q_BE⟩
                   have hb3_ := hall 3 (by kernel_rfl)
                   have hb7_ := hall 7 (by kernel_rfl)
                   have hb8_ := hall 8 (by kernel_rfl)
                   have hb9_ := hall 9 (by kernel_rfl)
                   have hb10_ := hall 10 (by kernel_rfl)
                   have hb11_ := hall 11 (by kernel_rfl)
                   have hb12_ := hall 12 (by kernel_rfl)
                   have hb13_ := hall 13 (by kernel_rfl)
                   have hb14_ := hall 14 (by kernel_rfl)
                   have hb15_ := hall 15 (by kernel_rfl)
                   have hb16_ := hall 16 (by kernel_rfl)
                   have hb17_ := hall 17 (by kernel_rfl)
                   have hb18_ := hall 18 (by kernel_rfl)
                   have hb19_ := hall 19 (by kernel_rfl)
                   have hb20_ := hall 20 (by kernel_rfl)
                   have hb21_ := hall 21 (by kernel_rfl)
                   have hb22_ := hall 22 (by kernel_rfl)
                   have hb23_ := hall 23 (by kernel_rfl)
                   have hb24_ := hall 24 (by kernel_rfl)
                   have hb25_ := hall 25 (by kernel_rfl)
                   have hb26_ := hall 26 (by kernel_rfl)
                   have hb27_ := hall 27 (by kernel_rfl)
                   have hb28_ := hall 28 (by kernel_rfl)
                   have hb29_ := hall 29 (by kernel_rfl)
                   have hb30_ := hall 30 (by kernel_rfl)
                   have hb31_ := hall 31 (by kernel_rfl)
                   have hb32_ := hall 32 (by kernel_rfl)
                   have hb33_ := hall 33 (by kernel_rfl)
                   have hb34_ := hall 34 (by kernel_rfl)
                   have hb35_ := hall 35 (by kernel_rfl)
                   have hb36_ := hall 36 (by kernel_rfl)
                   have hb37_ := hall 37 (by kernel_rfl)
                   have hb38_ := hall 38 (by kernel_rfl)
                   have hb39_ := hall 39 (by kernel_rfl)
                   subst ha
                   simp only [putSel, hb3_, hb7_, hb8_, hb9_, hb10_, hb11_, hb12_, hb13_, hb14_, hb15_, hb16_, hb17_, hb18_, hb19_, hb20_, hb21_, hb22_, hb23_, hb24_, hb25_, hb26_, hb27_, hb28_, hb29_, hb30_, hb31_, hb32_, hb33_, hb34_, hb35_, hb36_, hb37_, hb38_, hb39_, if_true, Act.put, List.setIfInBounds_toArray, List.set_cons_zero, List.set_cons_succ]
                   have BE := Aside0.mk Q_BE
                   clear Q_BE
                   clear hall hb3_ hb7_ hb8_ hb9_ hb10_ hb11_ hb12_ hb13_ hb14_ hb15_ hb16_ hb17_ hb18_ hb19_ hb20_ hb21_ hb22_ hb23_ hb24_ hb25_ hb26_ hb27_ hb28_ hb29_ hb30_ hb31_ hb32_ hb33_ hb34_ hb35_ hb36_ hb37_ hb38_ hb39_
                   clear HT_ HW_ HNf HNg HOf HOg
                   obtain ⟨g0, g1, g2, g3, g4, y0, y1, y2, y3, y4⟩ := five (blk_below HGX.out BE.out)
                   obtain ⟨m0, m1, m2, m3, m4, _⟩ := five (HXB.out BE.out)
                   have HGF := Lib.hid (blk_below HGX.out BE.out)
                   have HBF : Hid (Below gb wl w') := Lib.hid (HBX.out.trans (BE.out.mono hgz))
                   have HJ := Lib.hid (fun w => f21_r t r u HU0 w)
                   clear BE HGX HBX HXX HXB HAY
                   go_wp2_with fail
                   with_reducible refine (HJ.out _).mono ?_
                   rintro e w5 ⟨rfl, hb5⟩
                   have HGY := Lib.hid (blk_below HGF.out hb5)
                   have HBY : Hid (Below gb wl w5) := Lib.hid (HBF.out.trans (hb5.mono (Nat.le_of_lt (blk_lt HGF.out))))
                   clear g0 g1 g2 g3 g4 y0 y1 y2 y3 y4 m0 m1 m2 m3 m4 hb5 HGF HBF
                   obtain ⟨g0, g1, g2, g3, g4, y0, y1, y2, y3, y4⟩ := five HGY.out
                   go_wp2_with fail
                   go_roundw
                   case rel => exact ⟨k + 1, by go_num, by omega, Lib.hid (five_below HBY.out (Nat.le_refl _)), Lib.hid (by rw [HNX.out]; exact five_put HGY.out)⟩
                   case measure => simp [intOf]; omega
             · obtain rfl : k = n := by omega
               obtain ⟨res, hres⟩ : ∃ res, gFs fs gs k = res := ⟨_, rfl⟩
               obtain ⟨rr, hrr⟩ : ∃ rr, res.join res = rr := ⟨_, rfl⟩
               rw [hres] at HGK
               have HRES := Lib.hid hres
               have HRES' : Hid (gFs gs fs k = res) := Lib.hid (by rw [← hres]; exact gFs_comm _ _ _)
               have HRR := Lib.hid hrr
               have HNM : Hid (k = min fs.length gs.length) := Lib.hid (by omega)
               have HNM' : Hid (k = min gs.length fs.length) := Lib.hid (by omega)
               clear hres hrr
               go_wp2_with fail
               refine start_ (n := 22) (S := fun w' => True) (ds := []) #[false, false, false, false, false, false, false, false, false, false, false, false, false, false, false, false, false, false, false, false, false, false] (by kernel_rfl) rfl rfl trivial (fun hHeld => ?_)
               obtain ⟨w0, hw0⟩ : ∃ w0, w0 = wr.drew := ⟨_, rfl⟩
               rw [← hw0]
               have HBX : Hid (Below gb wl w0) := by rw [hw0]; exact Lib.hid HBL.out.drew
               have HXX : Hid (GB w0 gb res) := by rw [hw0]; exact Lib.hid (blk_drew HGK.out)
               have HXB : Hid (∀ {w' : World}, Below w0.heap.size w0 w' → GB w' gb res) := Lib.hid (fun hb => blk_below HXX.out hb)
               have HBW0 : Hid (Below w.heap.size w w0) := Lib.hid (HB3.out.trans (HBX.out.mono hgB))
               have HW1 : Hid (∀ {w' : World}, Below w0.heap.size w0 w' → Hid (FW w' A fs)) := Lib.hid (fun hb => Lib.hid (h1.out.below (HBW0.out.trans (hb.mono HBW0.out.size))))
               have HW2 : Hid (∀ {w' : World}, Below w0.heap.size w0 w' → Hid (FW w' A' gs)) := Lib.hid (fun hb => Lib.hid (h2.out.below (HBW0.out.trans (hb.mono HBW0.out.size))))
               clear hw0 HBL HGK
               refine with_tabW f6_28_tab f6_28_bits (fun HT_ HW_ => ?_)
               refine pure_ (i := 0) (N := some 107) (v := ?_) (a' := ?_) #[true, false, false, false, false, false, false, false, false, false, false, false, false, false, false, false, false, false, false, false, false, false] rfl rfl (by kernel_rfl) (fun _ _ _ h => h) (Or.inl ⟨by rfl, ?_⟩) ?_ ?_
               rotate_left
               · intro w'
                 go_simp
                 with_reducible rfl
               rotate_left
               · simp only [Act.put, List.setIfInBounds_toArray, List.set_cons_zero, List.set_cons_succ, i64_w, i32_w]
                 rfl
               refine pure_ (i := 1) (N := some 108) (v := ?_) (a' := ?_) #[true, true, false, false, false, false, false, false, false, false, false, false, false, false, false, false, false, false, false, false, false, false] rfl rfl (by kernel_rfl) (fun _ _ _ h => h) (Or.inl ⟨by rfl, ?_⟩) ?_ ?_
               rotate_left
               · intro w'
                 go_simp
                 with_reducible rfl
               rotate_left
               · simp only [Act.put, List.setIfInBounds_toArray, List.set_cons_zero, List.set_cons_succ, i64_w, i32_w]
                 rfl
               refine inv_at [2, 3, 4, 5, 6, 7, 8, 9, 10, 11, 12, 13, 14, 15, 16, 17, 18, 19, 20, 21] (fun a0_ b a w' => a = putSel a0_ b [(2, 109, (.agg #[.int .i64 res.c, .int .i64 res.d, .int .i64 res.m, .int .i64 res.s, .int .i64 res.q])), (3, 110, (.agg #[.int .i64 res.c, .int .i64 res.d, .int .i64 res.m, .int .i64 res.s, .int .i64 res.q])), (4, 111, .bool true), (5, 112, .bool true), (6, 113, .slice A' gs.length c'), (7, 114, .slice A fs.length c), (8, 115, (.agg #[.int .i64 res.c, .int .i64 res.d, .int .i64 res.m, .int .i64 res.s, .int .i64 res.q])), (9, 116, (.agg #[.int .i64 res.c, .int .i64 res.d, .int .i64 res.m, .int .i64 res.s, .int .i64 res.q])), (10, 117, .bool true), (11, 118, .bool true), (12, 119, .bool true), (13, 120, (.agg #[.int .i64 res.c, .int .i64 res.d, .int .i64 res.m, .int .i64 res.s, .int .i64 res.q])), (14, 121, (.agg #[.int .i64 res.c, .int .i64 res.d, .int .i64 res.m, .int .i64 res.s, .int .i64 res.q])), (15, 122, (.agg #[.int .i64 rr.c, .int .i64 rr.d, .int .i64 rr.m, .int .i64 rr.s, .int .i64 rr.q])), (16, 123, (.agg #[.int .i64 res.c, .int .i64 res.d, .int .i64 res.m, .int .i64 res.s, .int .i64 res.q])), (17, 124, (.agg #[.int .i64 res.c, .int .i64 res.d, .int .i64 res.m, .int .i64 res.s, .int .i64 res.q])), (18, 125, (.agg #[.int .i64 rr.c, .int .i64 rr.d, .int .i64 rr.m, .int .i64 rr.s, .int .i64 rr.q])), (19, 126, .bool true), (20, 127, .bool true), (21, 4, .bool true)] ∧ (Below w0.heap.size w0 w')) HT_.out HW_.out (by kernel_rfl) (by kernel_rfl) ?_ ?_ ?_
               · exact ⟨by simp only [putSel, Bool.false_eq_true, if_false], Below.refl _ _⟩
               · skip
                 refine steps_cons ?_ ?_
                 · rintro b a w' ⟨ha, Q_BE⟩ hb_ hon hoff
                   refine ⟨_, rfl, fun K hK => ?_⟩
                   have e107 : a.tmps[107]? = some (.slice A fs.length c) := by rw [ha]; exact (putSel_off rfl).trans rfl
                   have e108 : a.tmps[108]? = some (.slice A' gs.length c') := by rw [ha]; exact (putSel_off rfl).trans rfl
                   replace ha := Aside0.mk ha
                   have BE := Aside0.mk Q_BE
                   refine goes_ Tryd.func22 (by kernel_rfl) rfl #[.slice A fs.length c, .slice A' gs.length c'] (by rfl) rfl rfl (by first | (simp only [List.map_toArray, List.map_cons, List.map_nil, Act.eval, Array.getD_eq_getD_getElem?, Option.getD_some, e107, e108]; done) | (simp only [List.map_toArray, List.map_cons, List.map_nil, Act.eval, Array.getD_eq_getD_getElem?, Option.getD_some, e107, e108]; rfl)) ?_
                   with_reducible refine (f22_any A c fs A' c' gs w' (HW1.out BE.out) (HW2.out BE.out) k HNM res HRES).mono ?_
                   rintro e w2 ⟨rfl, hb⟩
                   refine ⟨_, rfl, ?_⟩
                   refine hK.out _ _ ⟨(by rw [ha.out]; exact putSel_upk 0 hb_ rfl rfl rfl), BE.out.trans (hb.mono BE.out.size)⟩
                 refine steps_cons ?_ ?_
                 · rintro b a w' ⟨ha, Q_BE⟩ hb_ hon hoff
                   refine ⟨_, rfl, fun K hK => ?_⟩
                   have e12 : a.tmps[12]? = some (.pointer (some ⟨gb, 0, none⟩)) := by rw [ha]; exact (putSel_off rfl).trans rfl
                   replace ha := Aside0.mk ha
                   have BE := Aside0.mk Q_BE
                   obtain ⟨c0, c1, c2, c3, c4, _⟩ := five (HXB.out BE.out)
                   refine value_ (w1 := w') (v := (.agg #[.int .i64 res.c, .int .i64 res.d, .int .i64 res.m, .int .i64 res.s, .int .i64 res.q])) (by rfl) rfl ?_ ?_
                   · go_simp
                     (try simp only [i64_w])
                     try rfl
                   refine hK.out _ _ ⟨(by rw [ha.out]; exact putSel_upk 1 hb_ rfl rfl rfl), Q_BE⟩
                 refine steps_cons ?_ ?_
                 · rintro b a w' ⟨ha, Q_BE⟩ hb_ hon hoff
                   refine ⟨_, rfl, fun K hK => ?_⟩
                   have e109 : a.tmps[109]? = some ((.agg #[.int .i64 res.c, .int .i64 res.d, .int .i64 res.m, .int .i64 res.s, .int .i64 res.q])) := by rw [ha]; exact putSel_on (e := (2, 109, (.agg #[.int .i64 res.c, .int .i64 res.d, .int .i64 res.m, .int .i64 res.s, .int .i64 res.q]))) 0 rfl rfl (hon 2 (by kernel_rfl)) rfl
                   have e110 : a.tmps[110]? = some ((.agg #[.int .i64 res.c, .int .i64 res.d, .int .i64 res.m, .int .i64 res.s, .int .i64 res.q])) := by rw [ha]; exact putSel_on (e := (3, 110, (.agg #[.int .i64 res.c, .int .i64 res.d, .int .i64 res.m, .int .i64 res.s, .int .i64 res.q]))) 1 rfl rfl (hon 3 (by kernel_rfl)) rfl
                   replace ha := Aside0.mk ha
                   have BE := Aside0.mk Q_BE
                   have q0 : (res.c == res.c) = true := by simp
                   have q1 : (res.d == res.d) = true := by simp
                   have q2 : (res.m == res.m) = true := by simp
                   have q3 : (res.s == res.s) = true := by simp
                   have q4 : (res.q == res.q) = true := by simp
                   refine value_ (w1 := w') (v := .bool true) (by rfl) rfl ?_ ?_
                   · go_simp
                     (try simp only [i64_w])
                     try rfl
                   refine hK.out _ _ ⟨(by rw [ha.out]; exact putSel_upk 2 hb_ rfl rfl rfl), Q_BE⟩
                 refine steps_cons ?_ ?_
                 · rintro b a w' ⟨ha, Q_BE⟩ hb_ hon hoff
                   refine ⟨_, rfl, fun K hK => ?_⟩
                   have e111 : a.tmps[111]? = some (.bool true) := by rw [ha]; exact putSel_on (e := (4, 111, .bool true)) 2 rfl rfl (hon 4 (by kernel_rfl)) rfl
                   replace ha := Aside0.mk ha
                   have BE := Aside0.mk Q_BE
                   refine value_ (w1 := w') (v := .bool true) (by rfl) rfl ?_ ?_
                   · go_simp
                     (try simp only [i64_w])
                     try rfl
                   refine hK.out _ _ ⟨(by rw [ha.out]; exact putSel_upk 3 hb_ rfl rfl rfl), Q_BE⟩
                 refine steps_cons ?_ ?_
                 · rintro b a w' ⟨ha, Q_BE⟩ hb_ hon hoff
                   refine ⟨_, rfl, fun K hK => ?_⟩
                   have e1 : a.tmps[1]? = some (.slice A' gs.length c') := by rw [ha]; exact (putSel_off rfl).trans rfl
                   have e112 : a.tmps[112]? = some (.bool true) := by rw [ha]; exact putSel_on (e := (5, 112, .bool true)) 3 rfl rfl (hon 5 (by kernel_rfl)) rfl
                   replace ha := Aside0.mk ha
                   have BE := Aside0.mk Q_BE
                   refine value_ (w1 := w') (v := .slice A' gs.length c') (wanted_on rfl rfl rfl (e112.trans (by first | rfl | (simp [*]; done)))) rfl ?_ ?_
                   · go_simp
                     (try simp only [i64_w])
                     try rfl
                   refine hK.out _ _ ⟨(by rw [ha.out]; exact putSel_upk 4 hb_ rfl rfl rfl), Q_BE⟩
                 refine steps_cons ?_ ?_
                 · rintro b a w' ⟨ha, Q_BE⟩ hb_ hon hoff
                   refine ⟨_, rfl, fun K hK => ?_⟩
                   have e0 : a.tmps[0]? = some (.slice A fs.length c) := by rw [ha]; exact (putSel_off rfl).trans rfl
                   have e112 : a.tmps[112]? = some (.bool true) := by rw [ha]; exact putSel_on (e := (5, 112, .bool true)) 3 rfl rfl (hon 5 (by kernel_rfl)) rfl
                   replace ha := Aside0.mk ha
                   have BE := Aside0.mk Q_BE
                   refine value_ (w1 := w') (v := .slice A fs.length c) (wanted_on rfl rfl rfl (e112.trans (by first | rfl | (simp [*]; done)))) rfl ?_ ?_
                   · go_simp
                     (try simp only [i64_w])
                     try rfl
                   refine hK.out _ _ ⟨(by rw [ha.out]; exact putSel_upk 5 hb_ rfl rfl rfl), Q_BE⟩
                 refine steps_cons ?_ ?_
                 · rintro b a w' ⟨ha, Q_BE⟩ hb_ hon hoff
                   refine ⟨_, rfl, fun K hK => ?_⟩
                   have e113 : a.tmps[113]? = some (.slice A' gs.length c') := by rw [ha]; exact putSel_on (e := (6, 113, .slice A' gs.length c')) 4 rfl rfl (hon 6 (by kernel_rfl)) rfl
                   have e114 : a.tmps[114]? = some (.slice A fs.length c) := by rw [ha]; exact putSel_on (e := (7, 114, .slice A fs.length c)) 5 rfl rfl (hon 7 (by kernel_rfl)) rfl
                   have e112 : a.tmps[112]? = some (.bool true) := by rw [ha]; exact putSel_on (e := (5, 112, .bool true)) 3 rfl rfl (hon 5 (by kernel_rfl)) rfl
                   replace ha := Aside0.mk ha
                   have BE := Aside0.mk Q_BE
                   refine goes_ Tryd.func22 (by kernel_rfl) rfl #[.slice A' gs.length c', .slice A fs.length c] (wanted_on rfl rfl rfl (e112.trans (by first | rfl | (simp [*]; done)))) rfl rfl (by first | (simp only [List.map_toArray, List.map_cons, List.map_nil, Act.eval, Array.getD_eq_getD_getElem?, Option.getD_some, e113, e114, e112]; done) | (simp only [List.map_toArray, List.map_cons, List.map_nil, Act.eval, Array.getD_eq_getD_getElem?, Option.getD_some, e113, e114, e112]; rfl)) ?_
                   with_reducible refine (f22_any A' c' gs A c fs w' (HW2.out BE.out) (HW1.out BE.out) k HNM' res HRES').mono ?_
                   rintro e w2 ⟨rfl, hb⟩
                   refine ⟨_, rfl, ?_⟩
                   refine hK.out _ _ ⟨(by rw [ha.out]; exact putSel_upk 6 hb_ rfl rfl rfl), BE.out.trans (hb.mono BE.out.size)⟩
                 refine steps_cons ?_ ?_
                 · rintro b a w' ⟨ha, Q_BE⟩ hb_ hon hoff
                   refine ⟨_, rfl, fun K hK => ?_⟩
                   have e12 : a.tmps[12]? = some (.pointer (some ⟨gb, 0, none⟩)) := by rw [ha]; exact (putSel_off rfl).trans rfl
                   have e112 : a.tmps[112]? = some (.bool true) := by rw [ha]; exact putSel_on (e := (5, 112, .bool true)) 3 rfl rfl (hon 5 (by kernel_rfl)) rfl
                   replace ha := Aside0.mk ha
                   have BE := Aside0.mk Q_BE
                   obtain ⟨c0, c1, c2, c3, c4, _⟩ := five (HXB.out BE.out)
                   refine value_ (w1 := w') (v := (.agg #[.int .i64 res.c, .int .i64 res.d, .int .i64 res.m, .int .i64 res.s, .int .i64 res.q])) (wanted_on rfl rfl rfl (e112.trans (by first | rfl | (simp [*]; done)))) rfl ?_ ?_
                   · go_simp
                     (try simp only [i64_w])
                     try rfl
                   refine hK.out _ _ ⟨(by rw [ha.out]; exact putSel_upk 7 hb_ rfl rfl rfl), Q_BE⟩
                 refine steps_cons ?_ ?_
                 · rintro b a w' ⟨ha, Q_BE⟩ hb_ hon hoff
                   refine ⟨_, rfl, fun K hK => ?_⟩
                   have e115 : a.tmps[115]? = some ((.agg #[.int .i64 res.c, .int .i64 res.d, .int .i64 res.m, .int .i64 res.s, .int .i64 res.q])) := by rw [ha]; exact putSel_on (e := (8, 115, (.agg #[.int .i64 res.c, .int .i64 res.d, .int .i64 res.m, .int .i64 res.s, .int .i64 res.q]))) 6 rfl rfl (hon 8 (by kernel_rfl)) rfl
                   have e116 : a.tmps[116]? = some ((.agg #[.int .i64 res.c, .int .i64 res.d, .int .i64 res.m, .int .i64 res.s, .int .i64 res.q])) := by rw [ha]; exact putSel_on (e := (9, 116, (.agg #[.int .i64 res.c, .int .i64 res.d, .int .i64 res.m, .int .i64 res.s, .int .i64 res.q]))) 7 rfl rfl (hon 9 (by kernel_rfl)) rfl
                   have e112 : a.tmps[112]? = some (.bool true) := by rw [ha]; exact putSel_on (e := (5, 112, .bool true)) 3 rfl rfl (hon 5 (by kernel_rfl)) rfl
                   replace ha := Aside0.mk ha
                   have BE := Aside0.mk Q_BE
                   have q0 : (res.c == res.c) = true := by simp
                   have q1 : (res.d == res.d) = true := by simp
                   have q2 : (res.m == res.m) = true := by simp
                   have q3 : (res.s == res.s) = true := by simp
                   have q4 : (res.q == res.q) = true := by simp
                   refine value_ (w1 := w') (v := .bool true) (wanted_on rfl rfl rfl (e112.trans (by first | rfl | (simp [*]; done)))) rfl ?_ ?_
                   · go_simp
                     (try simp only [i64_w])
                     try rfl
                   refine hK.out _ _ ⟨(by rw [ha.out]; exact putSel_upk 8 hb_ rfl rfl rfl), Q_BE⟩
                 refine steps_cons ?_ ?_
                 · rintro b a w' ⟨ha, Q_BE⟩ hb_ hon hoff
                   refine ⟨_, rfl, fun K hK => ?_⟩
                   have e112 : a.tmps[112]? = some (.bool true) := by rw [ha]; exact putSel_on (e := (5, 112, .bool true)) 3 rfl rfl (hon 5 (by kernel_rfl)) rfl
                   have e117 : a.tmps[117]? = some (.bool true) := by rw [ha]; exact putSel_on (e := (10, 117, .bool true)) 8 rfl rfl (hon 10 (by kernel_rfl)) rfl
                   replace ha := Aside0.mk ha
                   have BE := Aside0.mk Q_BE
                   refine value_ (w1 := w') (v := .bool true) (by rfl) rfl ?_ ?_
                   · go_simp
                     (try simp only [i64_w])
                     try rfl
                   refine hK.out _ _ ⟨(by rw [ha.out]; exact putSel_upk 9 hb_ rfl rfl rfl), Q_BE⟩
                 refine steps_cons ?_ ?_
                 · rintro b a w' ⟨ha, Q_BE⟩ hb_ hon hoff
                   refine ⟨_, rfl, fun K hK => ?_⟩
                   have e118 : a.tmps[118]? = some (.bool true) := by rw [ha]; exact putSel_on (e := (11, 118, .bool true)) 9 rfl rfl (hon 11 (by kernel_rfl)) rfl
                   replace ha := Aside0.mk ha
                   have BE := Aside0.mk Q_BE
                   refine value_ (w1 := w') (v := .bool true) (by rfl) rfl ?_ ?_
                   · go_simp
                     (try simp only [i64_w])
                     try rfl
                   refine hK.out _ _ ⟨(by rw [ha.out]; exact putSel_upk 10 hb_ rfl rfl rfl), Q_BE⟩
                 refine steps_cons ?_ ?_
                 · rintro b a w' ⟨ha, Q_BE⟩ hb_ hon hoff
                   refine ⟨_, rfl, fun K hK => ?_⟩
                   have e12 : a.tmps[12]? = some (.pointer (some ⟨gb, 0, none⟩)) := by rw [ha]; exact (putSel_off rfl).trans rfl
                   have e119 : a.tmps[119]? = some (.bool true) := by rw [ha]; exact putSel_on (e := (12, 119, .bool true)) 10 rfl rfl (hon 12 (by kernel_rfl)) rfl
                   replace ha := Aside0.mk ha
                   have BE := Aside0.mk Q_BE
                   obtain ⟨c0, c1, c2, c3, c4, _⟩ := five (HXB.out BE.out)
                   refine value_ (w1 := w') (v := (.agg #[.int .i64 res.c, .int .i64 res.d, .int .i64 res.m, .int .i64 res.s, .int .i64 res.q])) (wanted_on rfl rfl rfl (e119.trans (by first | rfl | (simp [*]; done)))) rfl ?_ ?_
                   · go_simp
                     (try simp only [i64_w])
                     try rfl
                   refine hK.out _ _ ⟨(by rw [ha.out]; exact putSel_upk 11 hb_ rfl rfl rfl), Q_BE⟩
                 refine steps_cons ?_ ?_
                 · rintro b a w' ⟨ha, Q_BE⟩ hb_ hon hoff
                   refine ⟨_, rfl, fun K hK => ?_⟩
                   have e12 : a.tmps[12]? = some (.pointer (some ⟨gb, 0, none⟩)) := by rw [ha]; exact (putSel_off rfl).trans rfl
                   have e119 : a.tmps[119]? = some (.bool true) := by rw [ha]; exact putSel_on (e := (12, 119, .bool true)) 10 rfl rfl (hon 12 (by kernel_rfl)) rfl
                   replace ha := Aside0.mk ha
                   have BE := Aside0.mk Q_BE
                   obtain ⟨c0, c1, c2, c3, c4, _⟩ := five (HXB.out BE.out)
                   refine value_ (w1 := w') (v := (.agg #[.int .i64 res.c, .int .i64 res.d, .int .i64 res.m, .int .i64 res.s, .int .i64 res.q])) (wanted_on rfl rfl rfl (e119.trans (by first | rfl | (simp [*]; done)))) rfl ?_ ?_
                   · go_simp
                     (try simp only [i64_w])
                     try rfl
                   refine hK.out _ _ ⟨(by rw [ha.out]; exact putSel_upk 12 hb_ rfl rfl rfl), Q_BE⟩
                 refine steps_cons ?_ ?_
                 · rintro b a w' ⟨ha, Q_BE⟩ hb_ hon hoff
                   refine ⟨_, rfl, fun K hK => ?_⟩
                   have e120 : a.tmps[120]? = some ((.agg #[.int .i64 res.c, .int .i64 res.d, .int .i64 res.m, .int .i64 res.s, .int .i64 res.q])) := by rw [ha]; exact putSel_on (e := (13, 120, (.agg #[.int .i64 res.c, .int .i64 res.d, .int .i64 res.m, .int .i64 res.s, .int .i64 res.q]))) 11 rfl rfl (hon 13 (by kernel_rfl)) rfl
                   have e121 : a.tmps[121]? = some ((.agg #[.int .i64 res.c, .int .i64 res.d, .int .i64 res.m, .int .i64 res.s, .int .i64 res.q])) := by rw [ha]; exact putSel_on (e := (14, 121, (.agg #[.int .i64 res.c, .int .i64 res.d, .int .i64 res.m, .int .i64 res.s, .int .i64 res.q]))) 12 rfl rfl (hon 14 (by kernel_rfl)) rfl
                   have e119 : a.tmps[119]? = some (.bool true) := by rw [ha]; exact putSel_on (e := (12, 119, .bool true)) 10 rfl rfl (hon 12 (by kernel_rfl)) rfl
                   replace ha := Aside0.mk ha
                   have BE := Aside0.mk Q_BE
                   refine goes_ Tryd.func23 (by kernel_rfl) rfl #[(.agg #[.int .i64 res.c, .int .i64 res.d, .int .i64 res.m, .int .i64 res.s, .int .i64 res.q]), (.agg #[.int .i64 res.c, .int .i64 res.d, .int .i64 res.m, .int .i64 res.s, .int .i64 res.q])] (wanted_on rfl rfl rfl (e119.trans (by first | rfl | (simp [*]; done)))) rfl rfl (by first | (simp only [List.map_toArray, List.map_cons, List.map_nil, Act.eval, Array.getD_eq_getD_getElem?, Option.getD_some, e120, e121, e119]; done) | (simp only [List.map_toArray, List.map_cons, List.map_nil, Act.eval, Array.getD_eq_getD_getElem?, Option.getD_some, e120, e121, e119]; rfl)) ?_
                   with_reducible refine (f23_r res res rr HRR w').mono ?_
                   rintro e w2 ⟨rfl, hb⟩
                   refine ⟨_, rfl, ?_⟩
                   refine hK.out _ _ ⟨(by rw [ha.out]; exact putSel_upk 13 hb_ rfl rfl rfl), BE.out.trans (hb.mono BE.out.size)⟩
                 refine steps_cons ?_ ?_
                 · rintro b a w' ⟨ha, Q_BE⟩ hb_ hon hoff
                   refine ⟨_, rfl, fun K hK => ?_⟩
                   have e12 : a.tmps[12]? = some (.pointer (some ⟨gb, 0, none⟩)) := by rw [ha]; exact (putSel_off rfl).trans rfl
                   have e119 : a.tmps[119]? = some (.bool true) := by rw [ha]; exact putSel_on (e := (12, 119, .bool true)) 10 rfl rfl (hon 12 (by kernel_rfl)) rfl
                   replace ha := Aside0.mk ha
                   have BE := Aside0.mk Q_BE
                   obtain ⟨c0, c1, c2, c3, c4, _⟩ := five (HXB.out BE.out)
                   refine value_ (w1 := w') (v := (.agg #[.int .i64 res.c, .int .i64 res.d, .int .i64 res.m, .int .i64 res.s, .int .i64 res.q])) (wanted_on rfl rfl rfl (e119.trans (by first | rfl | (simp [*]; done)))) rfl ?_ ?_
                   · go_simp
                     (try simp only [i64_w])
                     try rfl
                   refine hK.out _ _ ⟨(by rw [ha.out]; exact putSel_upk 14 hb_ rfl rfl rfl), Q_BE⟩
                 refine steps_cons ?_ ?_
                 · rintro b a w' ⟨ha, Q_BE⟩ hb_ hon hoff
                   refine ⟨_, rfl, fun K hK => ?_⟩
                   have e12 : a.tmps[12]? = some (.pointer (some ⟨gb, 0, none⟩)) := by rw [ha]; exact (putSel_off rfl).trans rfl
                   have e119 : a.tmps[119]? = some (.bool true) := by rw [ha]; exact putSel_on (e := (12, 119, .bool true)) 10 rfl rfl (hon 12 (by kernel_rfl)) rfl
                   replace ha := Aside0.mk ha
                   have BE := Aside0.mk Q_BE
                   obtain ⟨c0, c1, c2, c3, c4, _⟩ := five (HXB.out BE.out)
                   refine value_ (w1 := w') (v := (.agg #[.int .i64 res.c, .int .i64 res.d, .int .i64 res.m, .int .i64 res.s, .int .i64 res.q])) (wanted_on rfl rfl rfl (e119.trans (by first | rfl | (simp [*]; done)))) rfl ?_ ?_
                   · go_simp
                     (try simp only [i64_w])
                     try rfl
                   refine hK.out _ _ ⟨(by rw [ha.out]; exact putSel_upk 15 hb_ rfl rfl rfl), Q_BE⟩
                 refine steps_cons ?_ ?_
                 · rintro b a w' ⟨ha, Q_BE⟩ hb_ hon hoff
                   refine ⟨_, rfl, fun K hK => ?_⟩
                   have e123 : a.tmps[123]? = some ((.agg #[.int .i64 res.c, .int .i64 res.d, .int .i64 res.m, .int .i64 res.s, .int .i64 res.q])) := by rw [ha]; exact putSel_on (e := (16, 123, (.agg #[.int .i64 res.c, .int .i64 res.d, .int .i64 res.m, .int .i64 res.s, .int .i64 res.q]))) 14 rfl rfl (hon 16 (by kernel_rfl)) rfl
                   have e124 : a.tmps[124]? = some ((.agg #[.int .i64 res.c, .int .i64 res.d, .int .i64 res.m, .int .i64 res.s, .int .i64 res.q])) := by rw [ha]; exact putSel_on (e := (17, 124, (.agg #[.int .i64 res.c, .int .i64 res.d, .int .i64 res.m, .int .i64 res.s, .int .i64 res.q]))) 15 rfl rfl (hon 17 (by kernel_rfl)) rfl
                   have e119 : a.tmps[119]? = some (.bool true) := by rw [ha]; exact putSel_on (e := (12, 119, .bool true)) 10 rfl rfl (hon 12 (by kernel_rfl)) rfl
                   replace ha := Aside0.mk ha
                   have BE := Aside0.mk Q_BE
                   refine goes_ Tryd.func21 (by kernel_rfl) rfl #[(.agg #[.int .i64 res.c, .int .i64 res.d, .int .i64 res.m, .int .i64 res.s, .int .i64 res.q]), (.agg #[.int .i64 res.c, .int .i64 res.d, .int .i64 res.m, .int .i64 res.s, .int .i64 res.q])] (wanted_on rfl rfl rfl (e119.trans (by first | rfl | (simp [*]; done)))) rfl rfl (by first | (simp only [List.map_toArray, List.map_cons, List.map_nil, Act.eval, Array.getD_eq_getD_getElem?, Option.getD_some, e123, e124, e119]; done) | (simp only [List.map_toArray, List.map_cons, List.map_nil, Act.eval, Array.getD_eq_getD_getElem?, Option.getD_some, e123, e124, e119]; rfl)) ?_
                   with_reducible refine (f21_r res res rr HRR w').mono ?_
                   rintro e w2 ⟨rfl, hb⟩
                   refine ⟨_, rfl, ?_⟩
                   refine hK.out _ _ ⟨(by rw [ha.out]; exact putSel_upk 16 hb_ rfl rfl rfl), BE.out.trans (hb.mono BE.out.size)⟩
                 refine steps_cons ?_ ?_
                 · rintro b a w' ⟨ha, Q_BE⟩ hb_ hon hoff
                   refine ⟨_, rfl, fun K hK => ?_⟩
                   have e122 : a.tmps[122]? = some ((.agg #[.int .i64 rr.c, .int .i64 rr.d, .int .i64 rr.m, .int .i64 rr.s, .int .i64 rr.q])) := by rw [ha]; exact putSel_on (e := (15, 122, (.agg #[.int .i64 rr.c, .int .i64 rr.d, .int .i64 rr.m, .int .i64 rr.s, .int .i64 rr.q]))) 13 rfl rfl (hon 15 (by kernel_rfl)) rfl
                   have e125 : a.tmps[125]? = some ((.agg #[.int .i64 rr.c, .int .i64 rr.d, .int .i64 rr.m, .int .i64 rr.s, .int .i64 rr.q])) := by rw [ha]; exact putSel_on (e := (18, 125, (.agg #[.int .i64 rr.c, .int .i64 rr.d, .int .i64 rr.m, .int .i64 rr.s, .int .i64 rr.q]))) 16 rfl rfl (hon 18 (by kernel_rfl)) rfl
                   have e119 : a.tmps[119]? = some (.bool true) := by rw [ha]; exact putSel_on (e := (12, 119, .bool true)) 10 rfl rfl (hon 12 (by kernel_rfl)) rfl
                   replace ha := Aside0.mk ha
                   have BE := Aside0.mk Q_BE
                   have q0 : (rr.c == rr.c) = true := by simp
                   have q1 : (rr.d == rr.d) = true := by simp
                   have q2 : (rr.m == rr.m) = true := by simp
                   have q3 : (rr.s == rr.s) = true := by simp
                   have q4 : (rr.q == rr.q) = true := by simp
                   refine value_ (w1 := w') (v := .bool true) (wanted_on rfl rfl rfl (e119.trans (by first | rfl | (simp [*]; done)))) rfl ?_ ?_
                   · go_simp
                     (try simp only [i64_w])
                     try rfl
                   refine hK.out _ _ ⟨(by rw [ha.out]; exact putSel_upk 17 hb_ rfl rfl rfl), Q_BE⟩
                 refine steps_cons ?_ ?_
                 · rintro b a w' ⟨ha, Q_BE⟩ hb_ hon hoff
                   refine ⟨_, rfl, fun K hK => ?_⟩
                   have e119 : a.tmps[119]? = some (.bool true) := by rw [ha]; exact putSel_on (e := (12, 119, .bool true)) 10 rfl rfl (hon 12 (by kernel_rfl)) rfl
                   have e126 : a.tmps[126]? = some (.bool true) := by rw [ha]; exact putSel_on (e := (19, 126, .bool true)) 17 rfl rfl (hon 19 (by kernel_rfl)) rfl
                   replace ha := Aside0.mk ha
                   have BE := Aside0.mk Q_BE
                   refine value_ (w1 := w') (v := .bool true) (by rfl) rfl ?_ ?_
                   · go_simp
                     (try simp only [i64_w])
                     try rfl
                   refine hK.out _ _ ⟨(by rw [ha.out]; exact putSel_upk 18 hb_ rfl rfl rfl), Q_BE⟩
                 refine steps_cons ?_ ?_
                 · rintro b a w' ⟨ha, Q_BE⟩ hb_ hon hoff
                   refine ⟨_, rfl, fun K hK => ?_⟩
                   have e127 : a.tmps[127]? = some (.bool true) := by rw [ha]; exact putSel_on (e := (20, 127, .bool true)) 18 rfl rfl (hon 20 (by kernel_rfl)) rfl
                   replace ha := Aside0.mk ha
                   have BE := Aside0.mk Q_BE
                   refine value_ (w1 := w') (v := .bool true) (by rfl) rfl ?_ ?_
                   · go_simp
                     (try simp only [i64_w])
                     try rfl
                   refine hK.out _ _ ⟨(by rw [ha.out]; exact putSel_upk 19 hb_ rfl rfl rfl), Q_BE⟩
                 exact steps_nil
               · rintro b a w' hall ⟨ha, Q_BE⟩
                 have hb2_ := hall 2 (by kernel_rfl)
                 have hb3_ := hall 3 (by kernel_rfl)
                 have hb4_ := hall 4 (by kernel_rfl)
                 have hb5_ := hall 5 (by kernel_rfl)
                 have hb6_ := hall 6 (by kernel_rfl)
                 have hb7_ := hall 7 (by kernel_rfl)
                 have hb8_ := hall 8 (by kernel_rfl)
                 have hb9_ := hall 9 (by kernel_rfl)
                 have hb10_ := hall 10 (by kernel_rfl)
                 have hb11_ := hall 11 (by kernel_rfl)
                 have hb12_ := hall 12 (by kernel_rfl)
                 have hb13_ := hall 13 (by kernel_rfl)
                 have hb14_ := hall 14 (by kernel_rfl)
                 have hb15_ := hall 15 (by kernel_rfl)
                 have hb16_ := hall 16 (by kernel_rfl)
                 have hb17_ := hall 17 (by kernel_rfl)
                 have hb18_ := hall 18 (by kernel_rfl)
                 have hb19_ := hall 19 (by kernel_rfl)
                 have hb20_ := hall 20 (by kernel_rfl)
                 have hb21_ := hall 21 (by kernel_rfl)
                 subst ha
                 simp only [putSel, hb2_, hb3_, hb4_, hb5_, hb6_, hb7_, hb8_, hb9_, hb10_, hb11_, hb12_, hb13_, hb14_, hb15_, hb16_, hb17_, hb18_, hb19_, hb20_, hb21_, if_true, Act.put, List.setIfInBounds_toArray, List.set_cons_zero, List.set_cons_succ]
                 have BE := Aside0.mk Q_BE
                 clear Q_BE
                 clear hall hb2_ hb3_ hb4_ hb5_ hb6_ hb7_ hb8_ hb9_ hb10_ hb11_ hb12_ hb13_ hb14_ hb15_ hb16_ hb17_ hb18_ hb19_ hb20_ hb21_
                 go_wp2_with fail
                 go_ret
                 exact ⟨rfl, HBW0.out.trans (BE.out.mono HBW0.out.size)⟩
end Go.Proofs.YtecijaibbjafoaaDoor
