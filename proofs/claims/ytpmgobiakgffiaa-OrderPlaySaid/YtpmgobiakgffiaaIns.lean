import Derived.Test.YtpmgobiakgffiaaProg
import Derived.Test.YtpmgobiakgffiaaKit
import Derived.WalkKit
import Derived.Handy
import Derived.Deep.QuietTactic
import Derived.BigQuiet
import Derived.WalkSpells
import Derived.WalkLawsBesides
import Derived.Outline
import Derived.Lib.Hide
import Derived.Deep.DeepFit
namespace Go.Proofs.Ytpmgobiakgffiaa
open Go.RowKit
def zero78 : Value := .agg #[.int .i64 0, .int .i64 0, .int .i64 0, .slice none 0 0, .int .i64 0, .int .i64 0, .slice none 0 0, .int .i64 0, .int .i64 0, .slice none 0 0]
theorem info78 : (Try.prog.info? 78).map (fun i => (i.zero, i.size, i.bytes)) = some (some zero78, 10, 128) := by kernel_rfl
theorem zero78_size : zero78.cells.size = 10 := rfl
theorem Rw.own {w : World} {B n : Nat} {v : Value} {xs : List It} (h : Rw w B v xs) (hl : xs.length = n) : w.ownsRow B 78 10 v n (flat xs) := by subst hl; exact h
theorem Rw.snoc {w : World} {B n : Nat} {v : Value} {xs : List It} {x : It} (h : w.ownsRow B 78 10 v (n + 1) (flat xs ++ x.cells)) (hl : xs.length = n) : Rw w B v (xs ++ [x]) := by
  subst hl
  have e : flat (xs ++ [x]) = flat xs ++ x.cells := by rw [flat_append, flat_cons, flat_nil, List.append_nil]
  unfold Rw
  rw [e, List.length_append]
  exact h
set_option maxHeartbeats 400000 in
theorem f30_end (B : Nat) (A : Option Addr) (n c : Nat) (xs : List It) (x : It) (vb : Nat) (w : World) (hB : B ≤ w.heap.size) (hl : Hid (xs.length = n)) (hn : n ≤ 1000) (hnc : n ≤ c)
    (hr : Hid (Rw w B (.slice A n c) xs)) (hv : Hid (∀ j u, x.cells[j]? = some u → w.cell? ((⟨vb, 0, none⟩ : Addr).add j) = some u)) (h1 : Hid (∀ u ∈ x.cells, u.oneCell' = true)) :
    Calls Try.prog 30 #[.slice A n c, .int .i64 n, .slice (some ⟨vb, 0, none⟩) 1 1] w fun e w' => ∃ v', e = .returned v' ∧ Rw w' B v' (xs ++ [x]) ∧ w.grownBy w' (Value.slice A n c).ownBlock := by
  obtain ⟨i0, hi0, hz0, hzs, hzb⟩ := info_parts info78
  by_cases hc : c = n
  · subst hc
    go_enter Try.func30, Try.ntmps30
    go_wp2_with (at_builtin; refine wpList_append_own _ rfl _ _ 71 rfl B 78 i0 zero78 10 128 Try.underlying71 hi0 hz0 hzs hzb rfl (by decide) _ c (flat xs) rfl (hr.out.own hl.out) ⟨vb, 0, none⟩ 1 1 x.cells rfl rfl hv.out h1.out ?c3 ?c4 hB ?_)
    case c3 => unfold maxLen; omega
    case c4 => omega
    intro v' w1 ho hg _
    have HO := Lib.hid ho; have HG := Lib.hid hg; clear ho hg
    go_wp2
    go_ret
    exact ⟨v', rfl, Rw.snoc HO.out hl.out, HG.out⟩
  · have hlt : n < c := by omega
    rcases hr.out.form with ⟨e, _⟩ | ⟨g, c', e, _⟩
    · injection e with _ _ e3; omega
    · have e1 : A = some ⟨g, 0, none⟩ := by injection e
      subst e1; clear e
      go_enter Try.func30, Try.ntmps30
      go_wp2_with (at_builtin; refine wpList_append_own _ rfl _ _ 71 rfl B 78 i0 zero78 10 128 Try.underlying71 hi0 hz0 hzs hzb rfl (by decide) _ n (flat xs) rfl (hr.out.own hl.out) ⟨vb, 0, none⟩ 1 1 x.cells rfl rfl hv.out h1.out ?c3 ?c4 hB ?_)
      case c3 => unfold maxLen; omega
      case c4 => omega
      intro v' w1 ho hg _
      have HO := Lib.hid ho; have HG := Lib.hid hg; clear ho hg
      go_wp2
      go_ret
      exact ⟨v', rfl, Rw.snoc HO.out hl.out, HG.out⟩

theorem run_size78 (w : World) : (sizeOf 78).run Try.prog w = .ok 10 w := by
  obtain ⟨i0, hi0, hz0, hzs, hzb⟩ := info_parts info78
  simp [sizeOf, typeInfo, hi0, hzs]
theorem info78s : (Try.prog.info? 78).map (·.size) = some 10 := by kernel_rfl
theorem grown_setRow (w : World) (g : Nat) (cs : Array Value) : w.grownBy (w.setRow g cs) (some g) := ⟨rfl, rfl, rfl, by simp, fun k _ hk => setRow_other w g k cs (fun e => hk (by rw [e]))⟩
theorem grownBy_trans {a b c : World} {r : Option Nat} (h : a.grownBy b r) (k : b.grownBy c r) : a.grownBy c r :=
  ⟨k.os.trans h.os, k.tape.trans h.tape, k.output.trans h.output, Nat.le_trans h.size k.size, fun i hi hr => (k.block i (Nat.lt_of_lt_of_le hi h.size) hr).trans (h.block i hi hr)⟩
theorem grownBy_drew {a b : World} {r : Option Nat} (h : a.grownBy b r) : a.grownBy b.drew r := ⟨h.os, h.tape, h.output, h.size, h.block⟩
theorem drew_grownBy {a b : World} {r : Option Nat} (h : a.drew.grownBy b r) : a.grownBy b r := ⟨h.os, h.tape, h.output, h.size, h.block⟩
/-- The row behind the two copies of an insertion. -/
theorem ins_row (L S X T : List Value) (a b : Nat) (ha : L.length = a) (hX : X.length = b) (hT : b ≤ T.length) :
    ((L ++ (S ++ T)).take (a + b) ++ S ++ (L ++ (S ++ T)).drop (a + b + S.length)).take a ++ X ++ ((L ++ (S ++ T)).take (a + b) ++ S ++ (L ++ (S ++ T)).drop (a + b + S.length)).drop (a + b) = L ++ (X ++ (S ++ T.drop b)) := by
  subst ha; subst hX
  have h1 : ((L ++ (S ++ T)).take (L.length + X.length)).length = L.length + X.length := by simp; omega
  have e1 : ((L ++ (S ++ T)).take (L.length + X.length) ++ S ++ (L ++ (S ++ T)).drop (L.length + X.length + S.length)).take L.length = L := by
    rw [List.append_assoc, List.take_append_of_le_length (by omega), List.take_take, Nat.min_eq_left (by omega), List.take_append_of_le_length (by omega), List.take_of_length_le (by omega)]
  have e2 : ((L ++ (S ++ T)).take (L.length + X.length) ++ S ++ (L ++ (S ++ T)).drop (L.length + X.length + S.length)).drop (L.length + X.length) = S ++ T.drop X.length := by
    have e3 : (L ++ (S ++ T)).drop (L.length + X.length + S.length) = T.drop X.length := by
      rw [List.drop_append, List.drop_of_length_le (by omega), List.nil_append, List.drop_append, List.drop_of_length_le (by omega), List.nil_append]
      congr 1
      omega
    rw [List.append_assoc, List.drop_append_of_le_length (by omega), List.drop_of_length_le (by omega), List.nil_append, e3]
  rw [e1, e2]
  simp
set_option maxHeartbeats 1000000 in
set_option maxRecDepth 100000 in
theorem f30_shift (B g n c i : Nat) (xs : List It) (x : It) (vb : Nat) (w : World) (hl : Hid (xs.length = n)) (hn : n ≤ 1000) (hin : i < n) (hroom : n + 1 ≤ c) (hvb : vb ≠ g)
    (hr : Hid (Rw w B (.slice (some ⟨g, 0, none⟩) n c) xs)) (hv : Hid (w.heap[vb]? = some (.cells x.cells.toArray 78 (0, 0)))) (h1 : Hid (∀ u ∈ flat (x :: xs), u.oneCell' = true)) :
    Calls Try.prog 30 #[.slice (some ⟨g, 0, none⟩) n c, .int .i64 i, .slice (some ⟨vb, 0, none⟩) 1 1] w fun e w' => ∃ v', e = .returned v' ∧ Rw w' B v' (xs.take i ++ x :: xs.drop i) ∧ w.grownBy w' (some g) := by
  obtain ⟨T, cur, hgB, hcm, hcur, hT, hg⟩ : ∃ (T cur : List Value), B ≤ g ∧ c ≤ 9223372036854775807 ∧ cur = flat (xs.take i) ++ (flat (xs.drop i) ++ T) ∧ T.length = (c - n) * 10 ∧ w.heap[g]? = some (.cells cur.toArray 78 (0, 0)) := by
    rcases hr.out.2 with ⟨e, _⟩ | ⟨g', cap, cur0, e, hb, hg, hnc, hm, hsz, htk⟩
    · cases e
    · injection e with e1 _ e3
      injection e1 with e1
      injection e1 with e1 _ _
      subst e1; subst e3
      have hlo := hl.out
      rw [hlo] at htk
      refine ⟨cur0.toList.drop (n * 10), cur0.toList, hb, by unfold maxLen at hm; omega, ?_, by simp; omega, by simpa using hg⟩
      rw [← List.append_assoc, ← flat_append, List.take_append_drop, ← htk, List.take_append_drop]
  have HT := Lib.hid hT; clear hT
  have HG := Lib.hid hg; clear hg
  have HCUR := Lib.hid hcur; clear hcur
  have ld : Hid ((flat (xs.drop i)).length = (n - i) * 10) := Lib.hid (by rw [flat_length, List.length_drop, hl.out])
  have lt : Hid ((flat (xs.take i)).length = i * 10) := Lib.hid (by rw [flat_length, List.length_take, hl.out, Nat.min_eq_left (by omega)])
  have lcur : Hid (cur.length = c * 10) := Lib.hid (by rw [HCUR.out, List.length_append, List.length_append, ld.out, lt.out, HT.out]; omega)
  have hov : ∀ lb cb, (callFunc 39 #[.slice (some ⟨vb, 0, none⟩) 1 1, .slice (some ⟨g, (i + 1) * 10, none⟩) lb cb]).run Try.prog w = .ok (.value (.bool false)) w := fun lb cb => by
    rw [run_callFunc_extern Try.func39 (by kernel_rfl) (by kernel_rfl) (by kernel_rfl) (e := Extern.SlicesOverlaps.overlaps #[71, 71] #[4]) (by kernel_rfl),
      Lib.run_overlaps_apart w 71 4 78 Try.underlying71 10 run_size78 ⟨vb, 0, none⟩ ⟨g, (i + 1) * 10, none⟩ 1 1 lb cb hvb 78 78 10 (c * 10) (by simp [World.shape?, hv.out, It.cells]) (by simp [World.shape?, HG.out, lcur.out]) (by omega) (by simp [World.frozen?, hv.out]) (by simp [World.frozen?, hv.out])]
    rfl
  obtain ⟨cur1, hcur1⟩ : ∃ cur1, cur1 = cur.take ((i + 1) * 10) ++ flat (xs.drop i) ++ cur.drop ((i + 1) * 10 + (flat (xs.drop i)).length) := ⟨_, rfl⟩
  have lcur1 : Hid (cur1.length = c * 10) := Lib.hid (by simp only [hcur1, List.length_append, List.length_take, List.length_drop, ld.out, lcur.out]; omega)
  obtain ⟨W1, hW1⟩ : ∃ W1, W1 = w.drew.setRow g cur1.toArray := ⟨_, rfl⟩
  have G1 : Hid (W1.heap[g]? = some (.cells cur1.toArray 78 (0, 0))) := Lib.hid (by rw [hW1]; exact setRow_heap w.drew g cur.toArray _ 78 _ HG.out)
  have hcp1 : ∀ cs ty dc sc, (builtin .copy #[71, 71] ty cs #[.slice (some ⟨g, (i + 1) * 10, none⟩) (n - i) dc, .slice (some ⟨g, i * 10, none⟩) (n + 1 - i) sc]).run Try.prog w.drew = .ok (.value (goInt (n - i : Nat))) W1 := fun cs ty dc sc => by
    have hr1 := run_copy_row_n (P := Try.prog) w.drew 71 71 ty 78 10 g ((i + 1) * 10) (n - i) dc ⟨g, i * 10, none⟩ (n + 1 - i) sc cur.toArray 78 (flat (xs.drop i)) Try.underlying71 info78s HG.out (n - i) (Nat.min_eq_right (by omega)) ld.out
      (fun j v hj => by
        rw [Addr.add_lit]
        refine (cell_of_row w.drew g (i * 10 + j) cur.toArray 78 (0, 0) HG.out).trans ?_
        rw [List.getElem?_toArray, HCUR.out, List.getElem?_append_right (by rw [lt.out]; omega), lt.out, Nat.add_sub_cancel_left, List.getElem?_append_left (by rw [List.getElem?_eq_some_iff] at hj; exact hj.1)]
        exact hj)
      (by rw [ld.out, List.size_toArray, lcur.out]; omega) (fun v hv => h1.out v (by rw [flat_cons]; refine List.mem_append_right _ ?_; rw [← List.take_append_drop i xs, flat_append]; exact List.mem_append_right _ hv))
    rw [hW1, hcur1]
    exact builtin_copy _ _ _ _ _ hr1
  obtain ⟨cur2, hcur2⟩ : ∃ cur2, cur2 = cur1.take (i * 10) ++ x.cells ++ cur1.drop (i * 10 + x.cells.length) := ⟨_, rfl⟩
  obtain ⟨W2, hW2⟩ : ∃ W2, W2 = W1.setRow g cur2.toArray := ⟨_, rfl⟩
  have hcp2 : ∀ cs ty dc, (builtin .copy #[71, 71] ty cs #[.slice (some ⟨g, i * 10, none⟩) (n + 1 - i) dc, .slice (some ⟨vb, 0, none⟩) 1 1]).run Try.prog W1 = .ok (.value (goInt 1)) W2 := fun cs ty dc => by
    have hr2 := run_copy_row_n (P := Try.prog) W1 71 71 ty 78 10 g (i * 10) (n + 1 - i) dc ⟨vb, 0, none⟩ 1 1 cur1.toArray 78 x.cells Try.underlying71 info78s G1.out 1 (Nat.min_eq_left (by omega)) rfl
      (fun j v hj => by
        rw [Addr.add_lit]
        have hb : W1.heap[vb]? = some (.cells x.cells.toArray 78 (0, 0)) := by rw [hW1]; exact (setRow_other w.drew g vb _ hvb).trans hv.out
        refine (cell_of_row W1 vb (0 + j) x.cells.toArray 78 (0, 0) hb).trans ?_
        rw [List.getElem?_toArray, Nat.zero_add]
        exact hj)
      (by rw [It.cells_length, List.size_toArray, lcur1.out]; omega) (fun v hv => h1.out v (by rw [flat_cons]; exact List.mem_append_left _ hv))
    rw [hW2, hcur2]
    exact builtin_copy _ _ _ _ _ hr2
  have HE := Lib.hid hcur1; have HE2 := Lib.hid hcur2; have HW1 := Lib.hid hW1; have HW2 := Lib.hid hW2
  clear hcur1 hcur2 hW1 hW2
  have hz2 : ¬ ((i : Int) = (n : Int)) := by omega
  have hw1 : IntKind.i64.wrap ((i : Int) + 1) = (i : Int) + 1 := by rw [IntKind.wrap_i64]; omega
  have hb1 : (0 : Int) ≤ (i : Int) + 1 := by omega
  have htn : ((i : Int) + 1).toNat = i + 1 := by omega
  have hb2 : ¬ (c = i + 1) := by omega
  have hb3 : (i : Int) ≤ (n : Int) + 1 := by omega
  have hb4 : ¬ (c = i) := by omega
  have hin2 : i ≤ n := by omega
  go_enter Try.func30, Try.ntmps30
  go_wp2_with (simp only [hov])
  go_region_law (refine step_run rfl .copy _ _ rfl #[.slice (some ⟨g, (i + 1) * 10, none⟩) (n - i) (c - (i + 1)), .slice (some ⟨g, i * 10, none⟩) (n + 1 - i) (c - i)] (by simp [Act.eval, Act.put]) (fun cs => hcp1 cs _ _ _) ?_)
  go_wp2_with (refine wpList_run2 _ rfl .copy _ _ _ rfl (.slice (some ⟨g, i * 10, none⟩) (n + 1 - i) (c - i)) (.slice (some ⟨vb, 0, none⟩) 1 1) rfl rfl (fun cs => hcp2 cs _ _) ?_)
  go_ret
  refine ⟨_, rfl, ⟨by rw [flat_length], .inr ⟨g, c, cur2.toArray, ?_, hgB, ?_, ?_, by unfold maxLen; omega, ?_, ?_⟩⟩, ?_⟩
  · simp [hl.out]
    omega
  · rw [HW2.out]; exact setRow_heap W1 g cur1.toArray _ 78 _ G1.out
  · simp [hl.out]; omega
  · simp only [HE2.out, List.size_toArray, List.length_append, List.length_take, List.length_drop, It.cells_length, lcur1.out]; omega
  · have e := ins_row (flat (xs.take i)) (flat (xs.drop i)) x.cells T (i * 10) 10 lt.out rfl (by rw [HT.out]; omega)
    rw [HE2.out, HE.out, HCUR.out, It.cells_length, show (i + 1) * 10 = i * 10 + 10 by omega, e]
    rw [show flat (xs.take i) ++ (x.cells ++ (flat (xs.drop i) ++ T.drop 10)) = flat (xs.take i ++ x :: xs.drop i) ++ T.drop 10 by rw [flat_append, flat_cons]; simp]
    rw [List.take_append_of_le_length (by rw [flat_length]; exact Nat.le_refl _), List.take_of_length_le (by rw [flat_length]; exact Nat.le_refl _)]
  · rw [HW2.out, HW1.out]
    exact grownBy_trans (drew_grownBy (grown_setRow w.drew g _)) (grown_setRow _ g _)

theorem heap_drew_alloc (w : World) (o : Obj) : (w.drew.alloc o).heap[w.heap.size]? = some o := heap_alloc_new w.drew o
theorem underlying3_int : Try.prog.underlying 3 = some (.int .i64) := Try.underlying3
/-- What the two copies behind a grown row leave. -/
theorem ins_row2 (L S X Z : List Value) (a b : Nat) (ha : L.length = a) (hX : X.length = b) (hT : b + S.length ≤ Z.length) :
    (((L ++ Z).take a ++ X ++ (L ++ Z).drop (a + b)).take (a + b) ++ S ++ ((L ++ Z).take a ++ X ++ (L ++ Z).drop (a + b)).drop (a + b + S.length)) = L ++ (X ++ (S ++ Z.drop (b + S.length))) := by
  subst ha; subst hX
  have e0 : (L ++ Z).take L.length = L := by simp
  have e1 : (L ++ Z).drop (L.length + X.length) = Z.drop X.length := by rw [List.drop_append, List.drop_of_length_le (by omega), List.nil_append, Nat.add_sub_cancel_left]
  rw [e0, e1]
  have e2 : (L ++ X ++ Z.drop X.length).take (L.length + X.length) = L ++ X := by
    rw [List.take_append_of_le_length (by simp), List.take_of_length_le (by simp)]
  have e3 : (L ++ X ++ Z.drop X.length).drop (L.length + X.length + S.length) = Z.drop (X.length + S.length) := by
    rw [List.drop_append, List.drop_of_length_le (by simp), List.nil_append, List.drop_drop]
    congr 1
    simp
  rw [e2, e3]
  simp
set_option maxHeartbeats 1000000 in
set_option maxRecDepth 100000 in
theorem f30_grow (B g n c i : Nat) (xs : List It) (x : It) (vb : Nat) (w : World) (hB : B ≤ w.heap.size) (hl : Hid (xs.length = n)) (hn : n ≤ 1000) (hin : i < n) (hnc : n ≤ c) (hroom : c < n + 1)
    (hr : Hid (Rw w B (.slice (some ⟨g, 0, none⟩) n c) xs)) (hv : Hid (w.heap[vb]? = some (.cells x.cells.toArray 78 (0, 0)))) (h1 : Hid (∀ u ∈ flat (x :: xs), u.oneCell' = true)) :
    Calls Try.prog 30 #[.slice (some ⟨g, 0, none⟩) n c, .int .i64 i, .slice (some ⟨vb, 0, none⟩) 1 1] w fun e w' => ∃ v', e = .returned v' ∧ Rw w' B v' (xs.take i ++ x :: xs.drop i) ∧ w.grownBy w' (some g) := by
  obtain ⟨i0, hi0, hz0, hzs, hzb⟩ := info_parts info78
  obtain ⟨T, cur, hgB, hcm, hcur, hT, hg⟩ : ∃ (T cur : List Value), B ≤ g ∧ c ≤ 9223372036854775807 ∧ cur = flat (xs.take i) ++ (flat (xs.drop i) ++ T) ∧ T.length = (c - n) * 10 ∧ w.heap[g]? = some (.cells cur.toArray 78 (0, 0)) := by
    rcases hr.out.2 with ⟨e, _⟩ | ⟨g', cap, cur0, e, hb, hg, hnc, hm, hsz, htk⟩
    · cases e
    · injection e with e1 _ e3
      injection e1 with e1
      injection e1 with e1 _ _
      subst e1; subst e3
      have hlo := hl.out
      rw [hlo] at htk
      refine ⟨cur0.toList.drop (n * 10), cur0.toList, hb, by unfold maxLen at hm; omega, ?_, by simp; omega, by simpa using hg⟩
      rw [← List.append_assoc, ← flat_append, List.take_append_drop, ← htk, List.take_append_drop]
  have HT := Lib.hid hT; clear hT
  have HG := Lib.hid hg; clear hg
  have HCUR := Lib.hid hcur; clear hcur
  have ld : Hid ((flat (xs.drop i)).length = (n - i) * 10) := Lib.hid (by rw [flat_length, List.length_drop, hl.out])
  have lt : Hid ((flat (xs.take i)).length = i * 10) := Lib.hid (by rw [flat_length, List.length_take, hl.out, Nat.min_eq_left (by omega)])
  have lcur : Hid (cur.length = c * 10) := Lib.hid (by rw [HCUR.out, List.length_append, List.length_append, ld.out, lt.out, HT.out]; omega)
  have hgw : g < w.heap.size := (Array.getElem?_eq_some_iff.1 HG.out).1
  have hvw : vb < w.heap.size := (Array.getElem?_eq_some_iff.1 hv.out).1
  have hold : (Builtin.firstCells i0.size i (.slice (some ⟨g, 0, none⟩) i c)).run Try.prog w.drew = .ok (flat (xs.take i)).toArray w.drew := by
    rw [hzs]
    exact run_firstCells_some w.drew 10 i ⟨g, 0, none⟩ i c (flat (xs.take i)) lt.out (fun j v hj => by
      rw [Addr.add_lit]
      refine (cell_of_row w.drew g (0 + j) cur.toArray 78 (0, 0) HG.out).trans ?_
      rw [List.getElem?_toArray, Nat.zero_add, HCUR.out, List.getElem?_append_left (by rw [List.getElem?_eq_some_iff] at hj; exact hj.1)]
      exact hj)
  obtain ⟨G, hG⟩ : ∃ G, G = grownCap w (n + 1) c 78 := ⟨_, rfl⟩
  obtain ⟨Z, hZ⟩ : ∃ Z : List Value, Z = (Builtin.zeroCells zero78.cells (n + 1 - i)).toList ++ (Builtin.zeroCells zero78.cells (G - (n + 1))).toList := ⟨_, rfl⟩
  obtain ⟨R, hR⟩ : ∃ R : List Value, R = flat (xs.take i) ++ Z := ⟨_, rfl⟩
  obtain ⟨W1, hW1⟩ : ∃ W1, W1 = w.drew.alloc (.cells R.toArray 78) := ⟨_, rfl⟩
  have hGn : n + 1 ≤ G := by rw [hG]; exact grownCap_ge w _ _ _
  have hG63 : G ≤ 9223372036854775807 := by
    have := grownCap_le_maxLen w (n + 1) c 78 (by unfold maxLen; omega)
    rw [← hG] at this
    unfold maxLen at this
    omega
  have lZ : Hid (Z.length = (G - i) * 10) := Lib.hid (by rw [hZ, List.length_append, Array.length_toList, Array.length_toList, size_zeroCells, size_zeroCells, zero78_size]; omega)
  have lR : Hid (R.length = G * 10) := Lib.hid (by rw [hR, List.length_append, lt.out, lZ.out]; omega)
  have hrz : ∀ cs ty, (builtin .append #[71, 3] ty cs #[.slice (some ⟨g, 0, none⟩) i c, .int .i64 ((n : Int) + 1 - (i : Int))]).run Try.prog w = .ok (.value (.slice (some ⟨w.heap.size, 0, none⟩) (n + 1) G)) W1 := fun cs ty => by
    have h := Lib.run_append_grow_zeros w 71 3 ty 78 i0 zero78 .i64 .i64 Try.underlying71 underlying3_int hi0 hz0 (some ⟨g, 0, none⟩) i c (flat (xs.take i)) hold (n + 1 - i) (by omega) (by omega) (by omega) (by omega) (by rw [hzb]; omega) (by rw [hzb, show i + (n + 1 - i) = n + 1 by omega]; exact growslice_fits hroom (by omega))
    rw [show i + (n + 1 - i) = n + 1 by omega, ← hG] at h
    rw [show (n : Int) + 1 - (i : Int) = ((n + 1 - i : Nat) : Int) by omega, hW1, hR, hZ]
    refine builtin_append _ _ _ _ _ (h.trans ?_)
    congr 3
    apply Array.ext'
    simp
  have G1 : Hid (W1.heap[w.heap.size]? = some (.cells R.toArray 78 (0, 0))) := Lib.hid (by rw [hW1]; exact heap_drew_alloc w _)
  obtain ⟨cur2, hcur2⟩ : ∃ cur2, cur2 = R.take (i * 10) ++ x.cells ++ R.drop (i * 10 + x.cells.length) := ⟨_, rfl⟩
  have lcur2 : Hid (cur2.length = G * 10) := Lib.hid (by simp only [hcur2, List.length_append, List.length_take, List.length_drop, It.cells_length, lR.out]; omega)
  obtain ⟨W2, hW2⟩ : ∃ W2, W2 = W1.setRow w.heap.size cur2.toArray := ⟨_, rfl⟩
  have G2 : Hid (W2.heap[w.heap.size]? = some (.cells cur2.toArray 78 (0, 0))) := Lib.hid (by rw [hW2]; exact setRow_heap W1 _ _ _ 78 _ G1.out)
  have hcp1 : ∀ cs ty dc, (builtin .copy #[71, 71] ty cs #[.slice (some ⟨w.heap.size, i * 10, none⟩) (n + 1 - i) dc, .slice (some ⟨vb, 0, none⟩) 1 1]).run Try.prog W1 = .ok (.value (goInt 1)) W2 := fun cs ty dc => by
    have hr2 := run_copy_row_n (P := Try.prog) W1 71 71 ty 78 10 w.heap.size (i * 10) (n + 1 - i) dc ⟨vb, 0, none⟩ 1 1 R.toArray 78 x.cells Try.underlying71 info78s G1.out 1 (Nat.min_eq_left (by omega)) rfl
      (fun j v hj => by
        rw [Addr.add_lit]
        have hb : W1.heap[vb]? = some (.cells x.cells.toArray 78 (0, 0)) := by rw [hW1]; exact (Below.heap_alloc w.drew _ vb hvw).trans hv.out
        refine (cell_of_row W1 vb (0 + j) x.cells.toArray 78 (0, 0) hb).trans ?_
        rw [List.getElem?_toArray, Nat.zero_add]
        exact hj)
      (by rw [It.cells_length, List.size_toArray, lR.out]; omega) (fun v hv => h1.out v (by rw [flat_cons]; exact List.mem_append_left _ hv))
    rw [hW2, hcur2]
    exact builtin_copy _ _ _ _ _ hr2
  obtain ⟨cur3, hcur3⟩ : ∃ cur3, cur3 = cur2.take ((i + 1) * 10) ++ flat (xs.drop i) ++ cur2.drop ((i + 1) * 10 + (flat (xs.drop i)).length) := ⟨_, rfl⟩
  have lcur3 : Hid (cur3.length = G * 10) := Lib.hid (by simp only [hcur3, List.length_append, List.length_take, List.length_drop, ld.out, lcur2.out]; omega)
  obtain ⟨W3, hW3⟩ : ∃ W3, W3 = W2.drew.setRow w.heap.size cur3.toArray := ⟨_, rfl⟩
  have hcp2 : ∀ cs ty dc sc, (builtin .copy #[71, 71] ty cs #[.slice (some ⟨w.heap.size, (i + 1) * 10, none⟩) (n - i) dc, .slice (some ⟨g, i * 10, none⟩) (n - i) sc]).run Try.prog W2.drew = .ok (.value (goInt (n - i : Nat))) W3 := fun cs ty dc sc => by
    have hgg : W2.heap[g]? = some (.cells cur.toArray 78 (0, 0)) := by rw [hW2, hW1]; exact (setRow_other _ _ g _ (by omega)).trans ((Below.heap_alloc w.drew _ g hgw).trans HG.out)
    have hr1 := run_copy_row_n (P := Try.prog) W2.drew 71 71 ty 78 10 w.heap.size ((i + 1) * 10) (n - i) dc ⟨g, i * 10, none⟩ (n - i) sc cur2.toArray 78 (flat (xs.drop i)) Try.underlying71 info78s G2.out (n - i) (Nat.min_self _) ld.out
      (fun j v hj => by
        rw [Addr.add_lit]
        refine (cell_of_row W2.drew g (i * 10 + j) cur.toArray 78 (0, 0) hgg).trans ?_
        rw [List.getElem?_toArray, HCUR.out, List.getElem?_append_right (by rw [lt.out]; omega), lt.out, Nat.add_sub_cancel_left, List.getElem?_append_left (by rw [List.getElem?_eq_some_iff] at hj; exact hj.1)]
        exact hj)
      (by rw [ld.out, List.size_toArray, lcur2.out]; omega) (fun v hv => h1.out v (by rw [flat_cons]; refine List.mem_append_right _ ?_; rw [← List.take_append_drop i xs, flat_append]; exact List.mem_append_right _ hv))
    rw [hW3, hcur3]
    exact builtin_copy _ _ _ _ _ hr1
  have HR := Lib.hid hR; have HE2 := Lib.hid hcur2; have HE3 := Lib.hid hcur3; have HW1 := Lib.hid hW1; have HW2 := Lib.hid hW2; have HW3 := Lib.hid hW3
  clear hcur3 hcur2 hW1 hW2 hW3 hR hZ hG hold
  have hz2 : ¬ ((i : Int) = (n : Int)) := by omega
  have hz3 : (c : Int) < (n : Int) + 1 := by omega
  have hw1 : IntKind.i64.wrap ((i : Int) + 1) = (i : Int) + 1 := by rw [IntKind.wrap_i64]; omega
  have hb1 : (0 : Int) ≤ (i : Int) + 1 := by omega
  have htn : ((i : Int) + 1).toNat = i + 1 := by omega
  have hGi : ¬ (G = i) := by omega
  have hGim : ¬ (G = i + 1) := by omega
  have hb3 : (i : Int) ≤ (n : Int) := by omega
  have hb4 : ¬ (c = i) := by omega
  have hin2 : i ≤ n := by omega
  go_enter Try.func30, Try.ntmps30
  go_wp2_with (first | (refine wpList_run2 _ rfl .append _ _ #[71, 3] rfl (.slice (some ⟨g, 0, none⟩) i c) (.int .i64 ((n : Int) + 1 - (i : Int))) rfl rfl (fun cs => hrz cs _) ?_) | (refine wpList_run2 _ rfl .copy _ _ _ rfl (.slice (some ⟨w.heap.size, i * 10, none⟩) (n + 1 - i) (G - i)) (.slice (some ⟨vb, 0, none⟩) 1 1) rfl rfl (fun cs => hcp1 cs _ _) ?_))
  go_region_law (refine step_run rfl .copy _ _ rfl #[.slice (some ⟨w.heap.size, (i + 1) * 10, none⟩) (n - i) (G - (i + 1)), .slice (some ⟨g, i * 10, none⟩) (n - i) (c - i)] (by simp [Act.eval, Act.put]) (fun cs => hcp2 cs _ _ _) ?_)
  go_wp2
  go_ret
  refine ⟨_, rfl, ⟨by rw [flat_length], .inr ⟨w.heap.size, G, cur3.toArray, ?_, hB, ?_, ?_, by unfold maxLen; omega, ?_, ?_⟩⟩, ?_⟩
  · simp [hl.out]
    omega
  · rw [HW3.out]; exact setRow_heap W2.drew _ _ _ 78 _ G2.out
  · simp [hl.out]; omega
  · rw [List.size_toArray, lcur3.out]
  · have e := ins_row2 (flat (xs.take i)) (flat (xs.drop i)) x.cells Z (i * 10) 10 lt.out rfl (by rw [ld.out, lZ.out]; omega)
    rw [HE3.out, HE2.out, HR.out, It.cells_length, show (i + 1) * 10 = i * 10 + 10 by omega, e]
    rw [show flat (xs.take i) ++ (x.cells ++ (flat (xs.drop i) ++ Z.drop (10 + (flat (xs.drop i)).length))) = flat (xs.take i ++ x :: xs.drop i) ++ Z.drop (10 + (flat (xs.drop i)).length) by rw [flat_append, flat_cons]; simp]
    rw [List.take_append_of_le_length (by rw [flat_length]; exact Nat.le_refl _), List.take_of_length_le (by rw [flat_length]; exact Nat.le_refl _)]
  · rw [HW3.out, HW2.out, HW1.out]
    refine ⟨rfl, rfl, rfl, by simp, fun k hk _ => ?_⟩
    rw [setRow_other _ _ k _ (by omega)]
    show (World.setRow _ _ _).heap[k]? = _
    rw [setRow_other _ _ k _ (by omega)]
    exact Below.heap_alloc w.drew _ k hk

theorem cells_add {w : World} {vb : Nat} {x : It} (hv : w.heap[vb]? = some (.cells x.cells.toArray 78 (0, 0))) : ∀ j u, x.cells[j]? = some u → w.cell? ((⟨vb, 0, none⟩ : Addr).add j) = some u := fun j u hj => by
  rw [Addr.add_lit]
  refine (cell_of_row w vb (0 + j) x.cells.toArray 78 (0, 0) hv).trans ?_
  rw [List.getElem?_toArray, Nat.zero_add]
  exact hj
/-- slices.Insert: one item at place i of a row. -/
theorem f30_any (B : Nat) (v : Value) (n i : Nat) (xs : List It) (x : It) (vb : Nat) (w : World) (hB : B ≤ w.heap.size) (hl : Hid (xs.length = n)) (hn : n ≤ 1000) (hin : i ≤ n)
    (hr : Hid (Rw w B v xs)) (hv : Hid (w.heap[vb]? = some (.cells x.cells.toArray 78 (0, 0)))) (hne : v.ownBlock ≠ some vb) (h1 : Hid (∀ u ∈ flat (x :: xs), u.oneCell' = true)) :
    Calls Try.prog 30 #[v, .int .i64 i, .slice (some ⟨vb, 0, none⟩) 1 1] w fun e w' => ∃ v', e = .returned v' ∧ Rw w' B v' (xs.take i ++ x :: xs.drop i) ∧ w.grownBy w' v.ownBlock := by
  have hx : ∀ u ∈ x.cells, u.oneCell' = true := fun u hu => h1.out u (by rw [flat_cons]; exact List.mem_append_left _ hu)
  by_cases he : i = n
  · subst he
    have e : xs.take i ++ x :: xs.drop i = xs ++ [x] := by rw [List.take_of_length_le (by rw [hl.out]; omega), List.drop_of_length_le (by rw [hl.out]; omega)]
    rw [e]
    rcases hr.out.form with ⟨rfl, h0⟩ | ⟨g, c, rfl, _, _, hc, _⟩
    · obtain rfl : i = 0 := by rw [← hl.out, h0]; rfl
      exact f30_end B none 0 0 xs x vb w hB hl (by omega) (Nat.le_refl _) hr (Lib.hid (cells_add hv.out)) (Lib.hid hx)
    · have hlo := hl.out
      rw [hlo] at hr hc ⊢
      exact f30_end B (some ⟨g, 0, none⟩) i c xs x vb w hB hl hn hc hr (Lib.hid (cells_add hv.out)) (Lib.hid hx)
  · rcases hr.out.form with ⟨rfl, h0⟩ | ⟨g, c, rfl, _, _, hc, _⟩
    · have : n = 0 := by rw [← hl.out, h0]; rfl
      omega
    · have hlo := hl.out
      rw [hlo] at hr hc ⊢
      have hvb : vb ≠ g := fun e => hne (by rw [e]; rfl)
      by_cases hroom : n + 1 ≤ c
      · exact f30_shift B g n c i xs x vb w hl hn (by omega) hroom hvb hr hv h1
      · exact f30_grow B g n c i xs x vb w hB hl hn (by omega) hc (by omega) hr hv h1
end Go.Proofs.Ytpmgobiakgffiaa
