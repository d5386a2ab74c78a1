import Derived.Test.YtecijaibbjafoaaDoorTxtR
import Derived.Test.YtecijaibbjafoaaDoorShelf
import Derived.Lib.AppendIntMem
import Derived.Deep.RegionLaw
import Derived.Deep.RegionHeld3
namespace Go.Proofs.YtecijaibbjafoaaDoor
open Go.RowKit Go.Proofs.YtecijaibbjafoaaDoorW.PrintWords Go.Proofs.YtecijaibbjafoaaDoorW.PrintLast Go.Proofs.YtecijaibbjafoaaDoorW.PrintMore Go.Proofs.YtecijaibbjafoaaDoor.PG
/-- The table of powers of ten is laid. -/
def Tab (w : World) : Prop := Lib.TabIs Tryd.prog w "internal/strconv.uint64pow10" .u64 Lib.pow10Tab
theorem Tab.below {w w1 : World} (h : Tab w) (hb : Below w.heap.size w w1) : Tab w1 := by
  unfold Tab Lib.TabIs World.var? at h ⊢
  cases hg : Tryd.prog.globalNamed "internal/strconv.uint64pow10" with
  | none => rw [hg] at h; cases h
  | some g =>
    rw [hg] at h
    simp only [Option.bind_some] at h ⊢
    have hlt : g < w.heap.size := by
      rcases Nat.lt_or_ge g w.heap.size with h' | h'
      · exact h'
      · rw [Array.getElem?_eq_none h'] at h; cases h
    rw [hb.block g hlt]
    exact h
theorem f27_any (n : Int) (h : inR n) (w : World) (ht : Hid (Tab w)) : Calls Tryd.prog 27 #[.int .i64 n] w fun e w' => e = .returned (.string (numB n)) ∧ Below w.heap.size w w' := by
  refine (Tryd.strconv_Itoa n h.1 h.2 w ht.out).mono ?_
  rintro e w' ⟨rfl, k, os, rfl⟩
  exact ⟨rfl, Lib.below_grow _ w (Nat.le_refl _) k os⟩
theorem info9 : (Tryd.prog.info? 9).map (fun i => (i.zero, i.size, i.bytes)) = some (some (.string ⟨#[]⟩), 1, 16) := by kernel_rfl
/-- l = append(l, y0, y1): a row of texts of the call's own. -/
theorem step_app2 {ops : Array Oper} {o : Oper} {a : Act} {Q : Exit → Act → World → Prop} {K : Act → World → Prop} {w0 W : World} (base : Nat) (hw : Region.wanted o (yielded ops a.tmps) = true) (s x : Operand)
    (ho : o.op = .call { callee := .builtin .append, args := #[s, x], argTypes := #[49, 49] }) (v : Value) (n : Nat) (xs : List Value) (y0 y1 : ByteArray) (hs : a.eval s = v) (hx : a.eval x = .slice (some ⟨W.heap.size, 0, none⟩) 2 2)
    (HO : Hid (W.ownsRow base 9 1 v n xs)) (HB : Hid (Below base w0 W)) (hbase : base ≤ W.heap.size) (hl : n ≤ 100)
    (h : ∀ v1 w1, Hid (w1.ownsRow base 9 1 v1 (n + 2) (xs ++ [.string y0, .string y1])) → Hid (Below base w0 w1) → Hid (Below base W w1) → K (a.put o.dst v1) w1) :
    if Region.wanted o (yielded ops a.tmps) = true then Oper.wp Tryd.prog o a (W.alloc (.cells #[.string y0, .string y1] 9)) K Q else K (a.put o.dst undef) (W.alloc (.cells #[.string y0, .string y1] 9)) := by
  obtain ⟨i0, hi, hzz⟩ := Option.map_eq_some_iff.1 info9
  simp only [Prod.mk.injEq] at hzz
  obtain ⟨hz0, hz1, hz2⟩ := hzz
  rw [if_pos hw]
  have HBW : Below base W (W.alloc (.cells #[.string y0, .string y1] 9)) := (Below.refl _ _).alloc hbase _
  obtain ⟨v1, w1, hr, hown, hg, _, hat⟩ := run_append_own_at (P := Tryd.prog) (W.alloc (.cells #[.string y0, .string y1] 9)) base 49 o.type 9 i0 _ 1 16 Tryd.underlying49 hi hz0 hz1 hz2 rfl (by omega) v n xs (HO.out.alloc _) ⟨W.heap.size, 0, none⟩ 2 2 [.string y0, .string y1] rfl
    (by simpa using World.news_of_block (cs := #[.string y0, .string y1]) (t := 9) (fr := (0, 0)) (heap_alloc_new W (.cells #[.string y0, .string y1] 9))) (by intro u hu; simp at hu; rcases hu with rfl | rfl <;> rfl) (by simp only [maxLen]; omega) (by omega) (by simp; omega)
  unfold Oper.wp execOp
  simp only [ho, resolve, invoke, builtin, Sem.run_bind, Sem.run_pure, Result.andThen_ok, List.map_toArray, List.map_cons, List.map_nil, hs, hx, hr]
  exact h v1 w1 (Lib.hid hown) (Lib.hid ((HB.out.alloc hbase _).grown hg (by simp; omega) (own_base HO.out))) (Lib.hid (HBW.grown hg (by simp; omega) (own_base HO.out)))
theorem own_bel {w w1 : World} {base n : Nat} {e : TypeId} {size : Nat} {v : Value} {xs : List Value} (h : w.ownsRow base e size v n xs) (hb : Below w.heap.size w w1) : w1.ownsRow base e size v n xs :=
  own_move h (fun k hk => hb.block k (own_lt h k hk))
/-- What strings.Join makes of the ten. -/
theorem join_txt (c d m s q : ByteArray) : (⟨(Lib.join ([(⟨#[99, 111, 117, 110, 116]⟩ : ByteArray), c, ⟨#[100, 105, 102, 102, 101, 114]⟩, d, ⟨#[119, 111, 114, 115, 116]⟩, m, ⟨#[115, 117, 109]⟩, s, ⟨#[115, 113, 117, 97, 114, 101, 115]⟩, q].map (·.data.toList)) (⟨#[32]⟩ : ByteArray).data.toList).toArray⟩ : ByteArray) = txt c d m s q := by
  apply ByteArray.ext
  unfold txt
  apply Array.toList_inj.1
  simp only [ByteArray.data_append, Array.toList_append]
  simp [Lib.join, List.intercalate, List.intersperse]
theorem txt_size (c d m s q : ByteArray) (h0 : c.size ≤ 20) (h1 : d.size ≤ 20) (h2 : m.size ≤ 20) (h3 : s.size ≤ 20) (h4 : q.size ≤ 20) : (txt c d m s q).size ≤ 200 := by
  unfold txt
  simp only [ByteArray.size_append]
  have e1 : (⟨#[99, 111, 117, 110, 116, 32]⟩ : ByteArray).size = 6 := rfl
  have e2 : (⟨#[32, 100, 105, 102, 102, 101, 114, 32]⟩ : ByteArray).size = 8 := rfl
  have e3 : (⟨#[32, 119, 111, 114, 115, 116, 32]⟩ : ByteArray).size = 7 := rfl
  have e4 : (⟨#[32, 115, 117, 109, 32]⟩ : ByteArray).size = 5 := rfl
  have e5 : (⟨#[32, 115, 113, 117, 97, 114, 101, 115, 32]⟩ : ByteArray).size = 9 := rfl
  omega
set_option maxHeartbeats 8000000 in
set_option maxRecDepth 100000 in
theorem f12_any (g : G5) (hg : Hid g.inR) (w : World) (ht : Hid (Tab w)) : Calls Tryd.prog 12 #[.agg #[.int .i64 g.c, .int .i64 g.d, .int .i64 g.m, .int .i64 g.s, .int .i64 g.q]] w fun e w' => e = .returned (.string (txt (numB g.c) (numB g.d) (numB g.m) (numB g.s) (numB g.q))) ∧ Below w.heap.size w w' := by
  obtain ⟨h0, h1, h2, h3, h4⟩ := hg.out
  have F0 := Lib.hid (fun w (ht : Hid (Tab w)) => f27_any g.c h0 w ht)
  have F1 := Lib.hid (fun w (ht : Hid (Tab w)) => f27_any g.d h1 w ht)
  have F2 := Lib.hid (fun w (ht : Hid (Tab w)) => f27_any g.m h2 w ht)
  have F3 := Lib.hid (fun w (ht : Hid (Tab w)) => f27_any g.s h3 w ht)
  have F4 := Lib.hid (fun w (ht : Hid (Tab w)) => f27_any g.q h4 w ht)
  have HSZ := Lib.hid (txt_size _ _ _ _ _ (numB_size g.c h0) (numB_size g.d h1) (numB_size g.m h2) (numB_size g.s h3) (numB_size g.q h4))
  clear h0 h1 h2 h3 h4 hg
  obtain ⟨b0, e0⟩ : ∃ b, numB g.c = b := ⟨_, rfl⟩
  obtain ⟨b1, e1⟩ : ∃ b, numB g.d = b := ⟨_, rfl⟩
  obtain ⟨b2, e2⟩ : ∃ b, numB g.m = b := ⟨_, rfl⟩
  obtain ⟨b3, e3⟩ : ∃ b, numB g.s = b := ⟨_, rfl⟩
  obtain ⟨b4, e4⟩ : ∃ b, numB g.q = b := ⟨_, rfl⟩
  rw [e0] at F0 HSZ
  rw [e1] at F1 HSZ
  rw [e2] at F2 HSZ
  rw [e3] at F3 HSZ
  rw [e4] at F4 HSZ
  rw [e0, e1, e2, e3, e4]
  clear e0 e1 e2 e3 e4
  have ix0 : ∀ w, (Instr.index 50 (.agg #[.int .i64 g.c, .int .i64 g.d, .int .i64 g.m, .int .i64 g.s, .int .i64 g.q]) (.int .i64 0)).run Tryd.prog w = .ok (.int .i64 g.c) w := fun _ => by kernel_rfl
  have ix1 : ∀ w, (Instr.index 50 (.agg #[.int .i64 g.c, .int .i64 g.d, .int .i64 g.m, .int .i64 g.s, .int .i64 g.q]) (.int .i64 1)).run Tryd.prog w = .ok (.int .i64 g.d) w := fun _ => by kernel_rfl
  have ix2 : ∀ w, (Instr.index 50 (.agg #[.int .i64 g.c, .int .i64 g.d, .int .i64 g.m, .int .i64 g.s, .int .i64 g.q]) (.int .i64 2)).run Tryd.prog w = .ok (.int .i64 g.m) w := fun _ => by kernel_rfl
  have ix3 : ∀ w, (Instr.index 50 (.agg #[.int .i64 g.c, .int .i64 g.d, .int .i64 g.m, .int .i64 g.s, .int .i64 g.q]) (.int .i64 3)).run Tryd.prog w = .ok (.int .i64 g.s) w := fun _ => by kernel_rfl
  have ix4 : ∀ w, (Instr.index 50 (.agg #[.int .i64 g.c, .int .i64 g.d, .int .i64 g.m, .int .i64 g.s, .int .i64 g.q]) (.int .i64 4)).run Tryd.prog w = .ok (.int .i64 g.q) w := fun _ => by kernel_rfl
  have iy0 : ∀ w, (Instr.index 51 (.agg #[.string (⟨#[99, 111, 117, 110, 116]⟩ : ByteArray), .string (⟨#[100, 105, 102, 102, 101, 114]⟩ : ByteArray), .string (⟨#[119, 111, 114, 115, 116]⟩ : ByteArray), .string (⟨#[115, 117, 109]⟩ : ByteArray), .string (⟨#[115, 113, 117, 97, 114, 101, 115]⟩ : ByteArray)]) (.int .i64 0)).run Tryd.prog w = .ok (.string (⟨#[99, 111, 117, 110, 116]⟩ : ByteArray)) w := fun _ => by kernel_rfl
  have iy1 : ∀ w, (Instr.index 51 (.agg #[.string (⟨#[99, 111, 117, 110, 116]⟩ : ByteArray), .string (⟨#[100, 105, 102, 102, 101, 114]⟩ : ByteArray), .string (⟨#[119, 111, 114, 115, 116]⟩ : ByteArray), .string (⟨#[115, 117, 109]⟩ : ByteArray), .string (⟨#[115, 113, 117, 97, 114, 101, 115]⟩ : ByteArray)]) (.int .i64 1)).run Tryd.prog w = .ok (.string (⟨#[100, 105, 102, 102, 101, 114]⟩ : ByteArray)) w := fun _ => by kernel_rfl
  have iy2 : ∀ w, (Instr.index 51 (.agg #[.string (⟨#[99, 111, 117, 110, 116]⟩ : ByteArray), .string (⟨#[100, 105, 102, 102, 101, 114]⟩ : ByteArray), .string (⟨#[119, 111, 114, 115, 116]⟩ : ByteArray), .string (⟨#[115, 117, 109]⟩ : ByteArray), .string (⟨#[115, 113, 117, 97, 114, 101, 115]⟩ : ByteArray)]) (.int .i64 2)).run Tryd.prog w = .ok (.string (⟨#[119, 111, 114, 115, 116]⟩ : ByteArray)) w := fun _ => by kernel_rfl
  have iy3 : ∀ w, (Instr.index 51 (.agg #[.string (⟨#[99, 111, 117, 110, 116]⟩ : ByteArray), .string (⟨#[100, 105, 102, 102, 101, 114]⟩ : ByteArray), .string (⟨#[119, 111, 114, 115, 116]⟩ : ByteArray), .string (⟨#[115, 117, 109]⟩ : ByteArray), .string (⟨#[115, 113, 117, 97, 114, 101, 115]⟩ : ByteArray)]) (.int .i64 3)).run Tryd.prog w = .ok (.string (⟨#[115, 117, 109]⟩ : ByteArray)) w := fun _ => by kernel_rfl
  have iy4 : ∀ w, (Instr.index 51 (.agg #[.string (⟨#[99, 111, 117, 110, 116]⟩ : ByteArray), .string (⟨#[100, 105, 102, 102, 101, 114]⟩ : ByteArray), .string (⟨#[119, 111, 114, 115, 116]⟩ : ByteArray), .string (⟨#[115, 117, 109]⟩ : ByteArray), .string (⟨#[115, 113, 117, 97, 114, 101, 115]⟩ : ByteArray)]) (.int .i64 4)).run Tryd.prog w = .ok (.string (⟨#[115, 113, 117, 97, 114, 101, 115]⟩ : ByteArray)) w := fun _ => by kernel_rfl
  obtain ⟨wb, hwb⟩ : ∃ wb, wb = w.alloc (.cells #[.int .i64 g.c, .int .i64 g.d, .int .i64 g.m, .int .i64 g.s, .int .i64 g.q] 23) := ⟨_, rfl⟩
  obtain ⟨B, hB⟩ : ∃ B, B = w.heap.size := ⟨_, rfl⟩
  have HB : Hid (Below B w wb) := by rw [hwb, hB]; exact Lib.hid (by go_grown)
  have HOW : Hid (wb.ownsRow B 9 1 (.slice none 0 0) 0 []) := Lib.hid (World.ownsRow_nil _ _ _ _)
  have HBS : Hid (B ≤ w.heap.size) := Lib.hid (by omega)
  have HWB := Lib.hid hwb
  have HBB := Lib.hid hB
  clear hwb hB
  go_enter Tryd.func12, Tryd.ntmps12
  go_wp2_with fail
  rw [← HWB.out]
  clear HWB
  refine wp_loop_rounds 6 ?_
  rw [rounds_succ]
  go_upto_block 1 with fail
  go_cut [3, 17] from 17 to 29 (fun v3 v17 wc => v17 = .int .i64 0 ∧ Hid (wc.ownsRow B 9 1 v3 2 [.string (⟨#[99, 111, 117, 110, 116]⟩ : ByteArray), .string b0]) ∧ Hid (Below B w wc))
  case first =>
    go_upto_region 5 with fail
    have XT : Hid (Tab wb.drew) := Lib.hid (ht.out.below (HBB.out ▸ HB.out.drew))
    go_region_held3 (fun _ => True) (trivial) (first | (refine step_app2 B rfl (.tmp 21) (.tmp 27) rfl (.slice none 0 0) 0 [] (⟨#[99, 111, 117, 110, 116]⟩ : ByteArray) b0 rfl rfl W2 B2 z2 (by omega) ?_; intro v1 w1 W3 B3 _) | (go_at_call 27; with_reducible refine (F0.out _ XT).mono ?_; rintro e u2 ⟨rfl, hb2⟩; have W2 : Hid (u2.ownsRow B 9 1 (.slice none 0 0) 0 []) := Lib.hid (own_bel (own_drew HOW.out) hb2); have B2 : Hid (Below B w u2) := Lib.hid (HB.out.drew.trans (hb2.mono (Nat.le_trans HBS.out HB.out.drew.size))); have z2 : B ≤ u2.heap.size := Nat.le_trans HBS.out B2.out.size; clear hb2))
    all_goals (go_wp2_with fail; go_meet; exact ⟨rfl, W3, B3⟩)
  case rest =>
    clear HOW HB
    obtain ⟨rfl, HOW, HB⟩ := hcut
    obtain ⟨v1, hv1⟩ : ∃ v, v = wc := ⟨_, rfl⟩
    obtain ⟨l1, hl1⟩ : ∃ v, v = u3 := ⟨_, rfl⟩
    rw [← hv1] at HOW HB
    rw [← hl1] at HOW
    rw [← hv1, ← hl1]
    clear hv1 hl1
    go_wp2_with fail
    rw [rounds_succ]
    go_upto_block 1 with fail
    go_cut [3, 17] from 17 to 29 (fun v3 v17 wc => v17 = .int .i64 1 ∧ Hid (wc.ownsRow B 9 1 v3 4 [.string (⟨#[99, 111, 117, 110, 116]⟩ : ByteArray), .string b0, .string (⟨#[100, 105, 102, 102, 101, 114]⟩ : ByteArray), .string b1]) ∧ Hid (Below B w wc))
    case first =>
      go_upto_region 5 with fail
      have XT : Hid (Tab v1.drew) := Lib.hid (ht.out.below (HBB.out ▸ HB.out.drew))
      go_region_held3 (fun _ => True) (trivial) (first | (refine step_app2 B rfl (.tmp 21) (.tmp 27) rfl (l1) 2 [.string (⟨#[99, 111, 117, 110, 116]⟩ : ByteArray), .string b0] (⟨#[100, 105, 102, 102, 101, 114]⟩ : ByteArray) b1 rfl rfl W2 B2 z2 (by omega) ?_; intro v1 w1 W3 B3 _) | (go_at_call 27; with_reducible refine (F1.out _ XT).mono ?_; rintro e u2 ⟨rfl, hb2⟩; have W2 : Hid (u2.ownsRow B 9 1 (l1) 2 [.string (⟨#[99, 111, 117, 110, 116]⟩ : ByteArray), .string b0]) := Lib.hid (own_bel (own_drew HOW.out) hb2); have B2 : Hid (Below B w u2) := Lib.hid (HB.out.drew.trans (hb2.mono (Nat.le_trans HBS.out HB.out.drew.size))); have z2 : B ≤ u2.heap.size := Nat.le_trans HBS.out B2.out.size; clear hb2))
      all_goals (go_wp2_with fail; go_meet; exact ⟨rfl, W3, B3⟩)
    case rest =>
      clear HOW HB
      obtain ⟨rfl, HOW, HB⟩ := hcut
      obtain ⟨v2, hv2⟩ : ∃ v, v = wc := ⟨_, rfl⟩
      obtain ⟨l2, hl2⟩ : ∃ v, v = u3 := ⟨_, rfl⟩
      rw [← hv2] at HOW HB
      rw [← hl2] at HOW
      rw [← hv2, ← hl2]
      clear hv2 hl2
      go_wp2_with fail
      rw [rounds_succ]
      go_upto_block 1 with fail
      go_cut [3, 17] from 17 to 29 (fun v3 v17 wc => v17 = .int .i64 2 ∧ Hid (wc.ownsRow B 9 1 v3 6 [.string (⟨#[99, 111, 117, 110, 116]⟩ : ByteArray), .string b0, .string (⟨#[100, 105, 102, 102, 101, 114]⟩ : ByteArray), .string b1, .string (⟨#[119, 111, 114, 115, 116]⟩ : ByteArray), .string b2]) ∧ Hid (Below B w wc))
      case first =>
        go_upto_region 5 with fail
        have XT : Hid (Tab v2.drew) := Lib.hid (ht.out.below (HBB.out ▸ HB.out.drew))
        go_region_held3 (fun _ => True) (trivial) (first | (refine step_app2 B rfl (.tmp 21) (.tmp 27) rfl (l2) 4 [.string (⟨#[99, 111, 117, 110, 116]⟩ : ByteArray), .string b0, .string (⟨#[100, 105, 102, 102, 101, 114]⟩ : ByteArray), .string b1] (⟨#[119, 111, 114, 115, 116]⟩ : ByteArray) b2 rfl rfl W2 B2 z2 (by omega) ?_; intro v1 w1 W3 B3 _) | (go_at_call 27; with_reducible refine (F2.out _ XT).mono ?_; rintro e u2 ⟨rfl, hb2⟩; have W2 : Hid (u2.ownsRow B 9 1 (l2) 4 [.string (⟨#[99, 111, 117, 110, 116]⟩ : ByteArray), .string b0, .string (⟨#[100, 105, 102, 102, 101, 114]⟩ : ByteArray), .string b1]) := Lib.hid (own_bel (own_drew HOW.out) hb2); have B2 : Hid (Below B w u2) := Lib.hid (HB.out.drew.trans (hb2.mono (Nat.le_trans HBS.out HB.out.drew.size))); have z2 : B ≤ u2.heap.size := Nat.le_trans HBS.out B2.out.size; clear hb2))
        all_goals (go_wp2_with fail; go_meet; exact ⟨rfl, W3, B3⟩)
      case rest =>
        clear HOW HB
        obtain ⟨rfl, HOW, HB⟩ := hcut
        obtain ⟨v3, hv3⟩ : ∃ v, v = wc := ⟨_, rfl⟩
        obtain ⟨l3, hl3⟩ : ∃ v, v = u3 := ⟨_, rfl⟩
        rw [← hv3] at HOW HB
        rw [← hl3] at HOW
        rw [← hv3, ← hl3]
        clear hv3 hl3
        go_wp2_with fail
        rw [rounds_succ]
        go_upto_block 1 with fail
        go_cut [3, 17] from 17 to 29 (fun v3 v17 wc => v17 = .int .i64 3 ∧ Hid (wc.ownsRow B 9 1 v3 8 [.string (⟨#[99, 111, 117, 110, 116]⟩ : ByteArray), .string b0, .string (⟨#[100, 105, 102, 102, 101, 114]⟩ : ByteArray), .string b1, .string (⟨#[119, 111, 114, 115, 116]⟩ : ByteArray), .string b2, .string (⟨#[115, 117, 109]⟩ : ByteArray), .string b3]) ∧ Hid (Below B w wc))
        case first =>
          go_upto_region 5 with fail
          have XT : Hid (Tab v3.drew) := Lib.hid (ht.out.below (HBB.out ▸ HB.out.drew))
          go_region_held3 (fun _ => True) (trivial) (first | (refine step_app2 B rfl (.tmp 21) (.tmp 27) rfl (l3) 6 [.string (⟨#[99, 111, 117, 110, 116]⟩ : ByteArray), .string b0, .string (⟨#[100, 105, 102, 102, 101, 114]⟩ : ByteArray), .string b1, .string (⟨#[119, 111, 114, 115, 116]⟩ : ByteArray), .string b2] (⟨#[115, 117, 109]⟩ : ByteArray) b3 rfl rfl W2 B2 z2 (by omega) ?_; intro v1 w1 W3 B3 _) | (go_at_call 27; with_reducible refine (F3.out _ XT).mono ?_; rintro e u2 ⟨rfl, hb2⟩; have W2 : Hid (u2.ownsRow B 9 1 (l3) 6 [.string (⟨#[99, 111, 117, 110, 116]⟩ : ByteArray), .string b0, .string (⟨#[100, 105, 102, 102, 101, 114]⟩ : ByteArray), .string b1, .string (⟨#[119, 111, 114, 115, 116]⟩ : ByteArray), .string b2]) := Lib.hid (own_bel (own_drew HOW.out) hb2); have B2 : Hid (Below B w u2) := Lib.hid (HB.out.drew.trans (hb2.mono (Nat.le_trans HBS.out HB.out.drew.size))); have z2 : B ≤ u2.heap.size := Nat.le_trans HBS.out B2.out.size; clear hb2))
          all_goals (go_wp2_with fail; go_meet; exact ⟨rfl, W3, B3⟩)
        case rest =>
          clear HOW HB
          obtain ⟨rfl, HOW, HB⟩ := hcut
          obtain ⟨v4, hv4⟩ : ∃ v, v = wc := ⟨_, rfl⟩
          obtain ⟨l4, hl4⟩ : ∃ v, v = u3 := ⟨_, rfl⟩
          rw [← hv4] at HOW HB
          rw [← hl4] at HOW
          rw [← hv4, ← hl4]
          clear hv4 hl4
          go_wp2_with fail
          rw [rounds_succ]
          go_upto_block 1 with fail
          go_cut [3, 17] from 17 to 29 (fun v3 v17 wc => v17 = .int .i64 4 ∧ Hid (wc.ownsRow B 9 1 v3 10 [.string (⟨#[99, 111, 117, 110, 116]⟩ : ByteArray), .string b0, .string (⟨#[100, 105, 102, 102, 101, 114]⟩ : ByteArray), .string b1, .string (⟨#[119, 111, 114, 115, 116]⟩ : ByteArray), .string b2, .string (⟨#[115, 117, 109]⟩ : ByteArray), .string b3, .string (⟨#[115, 113, 117, 97, 114, 101, 115]⟩ : ByteArray), .string b4]) ∧ Hid (Below B w wc))
          case first =>
            go_upto_region 5 with fail
            have XT : Hid (Tab v4.drew) := Lib.hid (ht.out.below (HBB.out ▸ HB.out.drew))
            go_region_held3 (fun _ => True) (trivial) (first | (refine step_app2 B rfl (.tmp 21) (.tmp 27) rfl (l4) 8 [.string (⟨#[99, 111, 117, 110, 116]⟩ : ByteArray), .string b0, .string (⟨#[100, 105, 102, 102, 101, 114]⟩ : ByteArray), .string b1, .string (⟨#[119, 111, 114, 115, 116]⟩ : ByteArray), .string b2, .string (⟨#[115, 117, 109]⟩ : ByteArray), .string b3] (⟨#[115, 113, 117, 97, 114, 101, 115]⟩ : ByteArray) b4 rfl rfl W2 B2 z2 (by omega) ?_; intro v1 w1 W3 B3 _) | (go_at_call 27; with_reducible refine (F4.out _ XT).mono ?_; rintro e u2 ⟨rfl, hb2⟩; have W2 : Hid (u2.ownsRow B 9 1 (l4) 8 [.string (⟨#[99, 111, 117, 110, 116]⟩ : ByteArray), .string b0, .string (⟨#[100, 105, 102, 102, 101, 114]⟩ : ByteArray), .string b1, .string (⟨#[119, 111, 114, 115, 116]⟩ : ByteArray), .string b2, .string (⟨#[115, 117, 109]⟩ : ByteArray), .string b3]) := Lib.hid (own_bel (own_drew HOW.out) hb2); have B2 : Hid (Below B w u2) := Lib.hid (HB.out.drew.trans (hb2.mono (Nat.le_trans HBS.out HB.out.drew.size))); have z2 : B ≤ u2.heap.size := Nat.le_trans HBS.out B2.out.size; clear hb2))
            all_goals (go_wp2_with fail; go_meet; exact ⟨rfl, W3, B3⟩)
          case rest =>
            clear HOW HB
            obtain ⟨rfl, HOW, HB⟩ := hcut
            obtain ⟨v5, hv5⟩ : ∃ v, v = wc := ⟨_, rfl⟩
            obtain ⟨l5, hl5⟩ : ∃ v, v = u3 := ⟨_, rfl⟩
            rw [← hv5] at HOW HB
            rw [← hl5] at HOW
            rw [← hv5, ← hl5]
            clear hv5 hl5
            go_wp2_with fail
            rw [rounds_succ]
            obtain ⟨bk, cap, hsl⟩ : ∃ bk cap, l5 = .slice (some ⟨bk, 0, none⟩) 10 cap := by
              rcases HOW.out.2 with ⟨_, h⟩ | ⟨g, cap, cur, h, _⟩
              · omega
              · exact ⟨g, cap, h⟩
            subst hsl
            have HLT : bk < v5.heap.size := own_lt HOW.out bk rfl
            have HCAP : 10 ≤ cap := by
              rcases HOW.out.2 with ⟨h, _⟩ | ⟨g, cap', cur, h, _, _, h2, _⟩
              · cases h
              · injection h with _ _ h; omega
            have HJ0 := (Tryd.strings_Join bk 0 cap [(⟨#[99, 111, 117, 110, 116]⟩ : ByteArray), b0, (⟨#[100, 105, 102, 102, 101, 114]⟩ : ByteArray), b1, (⟨#[119, 111, 114, 115, 116]⟩ : ByteArray), b2, (⟨#[115, 117, 109]⟩ : ByteArray), b3, (⟨#[115, 113, 117, 97, 114, 101, 115]⟩ : ByteArray), b4] ⟨#[32]⟩ v5 (fun j x hx => by
              rw [Nat.zero_add]
              rw [World.ownsRow.cellAt HOW.out j (by have := (List.getElem?_eq_some_iff.1 hx).1; simpa using this)]
              have e : [.string (⟨#[99, 111, 117, 110, 116]⟩ : ByteArray), .string b0, .string (⟨#[100, 105, 102, 102, 101, 114]⟩ : ByteArray), .string b1, .string (⟨#[119, 111, 114, 115, 116]⟩ : ByteArray), .string b2, .string (⟨#[115, 117, 109]⟩ : ByteArray), .string b3, .string (⟨#[115, 113, 117, 97, 114, 101, 115]⟩ : ByteArray), .string b4] = ([(⟨#[99, 111, 117, 110, 116]⟩ : ByteArray), b0, (⟨#[100, 105, 102, 102, 101, 114]⟩ : ByteArray), b1, (⟨#[119, 111, 114, 115, 116]⟩ : ByteArray), b2, (⟨#[115, 117, 109]⟩ : ByteArray), b3, (⟨#[115, 113, 117, 97, 114, 101, 115]⟩ : ByteArray), b4] : List ByteArray).map Value.string := rfl
              rw [e, List.getElem?_map, hx]; rfl) HLT (by simp) (by simpa using HCAP) (by
              have h := congrArg ByteArray.size (join_txt b0 b1 b2 b3 b4)
              have h2 := HSZ.out
              rw [← h] at h2
              exact Nat.le_trans (show _ ≤ 200 from h2) (by omega)))
            rw [join_txt] at HJ0
            have HJ := Lib.hid HJ0
            clear HJ0
            clear HSZ HOW
            go_wp2_with fail
            refine HJ.out.mono ?_
            rintro e w6 ⟨rfl, hb6⟩
            go_wp2_with fail
            go_ret
            exact ⟨rfl, HBB.out ▸ (HB.out.trans (hb6.mono (Nat.le_trans HBS.out HB.out.size)))⟩
end Go.Proofs.YtecijaibbjafoaaDoor
