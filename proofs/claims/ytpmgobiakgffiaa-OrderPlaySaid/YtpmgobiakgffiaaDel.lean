import Derived.Test.YtpmgobiakgffiaaProg
import Derived.Test.YtpmgobiakgffiaaIns
import Derived.WalkKit
import Derived.Handy
import Derived.Deep.QuietTactic
import Derived.BigQuiet
import Derived.WalkSpells
import Derived.WalkLawsBesides
import Derived.Outline
import Derived.Lib.Hide
import Derived.Deep.DeepFit
namespace Go.Proofs.Ytpmgobiakgffiaa
open Go.RowKit
/-- What the row holds behind a deletion at its head. -/
theorem del_row (X S T Z : List Value) (b : Nat) (hX : X.length = b) (hZ : Z.length = b) :
    (((X ++ (S ++ T)).take 0 ++ S ++ (X ++ (S ++ T)).drop (0 + S.length)).take S.length ++ Z ++ ((X ++ (S ++ T)).take 0 ++ S ++ (X ++ (S ++ T)).drop (0 + S.length)).drop (S.length + b)) = S ++ (Z ++ T) := by
  subst hX
  have e1 : (X ++ (S ++ T)).take 0 ++ S ++ (X ++ (S ++ T)).drop (0 + S.length) = S ++ (X ++ (S ++ T)).drop S.length := by simp
  rw [e1]
  have e2 : (S ++ (X ++ (S ++ T)).drop S.length).take S.length = S := by simp
  have e3 : (S ++ (X ++ (S ++ T)).drop S.length).drop (S.length + X.length) = T := by
    rw [List.drop_append, List.drop_of_length_le (by omega), List.nil_append, List.drop_drop, Nat.add_sub_cancel_left, ← List.append_assoc, show S.length + X.length = (X ++ S).length by simp; omega]
    simp
  rw [e2, e3]
  simp
theorem zero_ones (k : Nat) : ∀ u ∈ (Builtin.zeroCells zero78.cells k).toList, u.oneCell' = true := by
  intro u hu
  simp only [Builtin.zeroCells, Array.toList_map, List.mem_map] at hu
  obtain ⟨j, _, rfl⟩ := hu
  have hj : j % zero78.cells.size < 10 := Nat.mod_lt _ (by rw [zero78_size]; omega)
  obtain ⟨m, hm⟩ : ∃ m, j % zero78.cells.size = m := ⟨_, rfl⟩
  rw [hm] at hj ⊢
  have : m = 0 ∨ m = 1 ∨ m = 2 ∨ m = 3 ∨ m = 4 ∨ m = 5 ∨ m = 6 ∨ m = 7 ∨ m = 8 ∨ m = 9 := by omega
  rcases this with rfl | rfl | rfl | rfl | rfl | rfl | rfl | rfl | rfl | rfl <;> rfl
set_option maxHeartbeats 1000000 in
set_option maxRecDepth 100000 in
theorem f32_any (B g n c : Nat) (x : It) (xs : List It) (w : World) (hl : Hid (xs.length = n)) (hn : n ≤ 1000)
    (hr : Hid (Rw w B (.slice (some ⟨g, 0, none⟩) (n + 1) c) (x :: xs))) (h1 : Hid (∀ u ∈ flat (x :: xs), u.oneCell' = true)) :
    Calls Try.prog 32 #[.slice (some ⟨g, 0, none⟩) (n + 1) c, .int .i64 0, .int .i64 1] w fun e w' => e = .returned (.slice (some ⟨g, 0, none⟩) n c) ∧ Rw w' B (.slice (some ⟨g, 0, none⟩) n c) xs ∧ w.grownBy w' (some g) := by
  obtain ⟨i0, hi0, hz0, hzs, hzb⟩ := info_parts info78
  obtain ⟨T, cur, hgB, hnc, hcm, hcur, hT, hg⟩ : ∃ (T cur : List Value), B ≤ g ∧ n + 1 ≤ c ∧ c ≤ 9223372036854775807 ∧ cur = x.cells ++ (flat xs ++ T) ∧ T.length = (c - (n + 1)) * 10 ∧ w.heap[g]? = some (.cells cur.toArray 78 (0, 0)) := by
    rcases hr.out.2 with ⟨e, _⟩ | ⟨g', cap, cur0, e, hb, hg, hnc, hm, hsz, htk⟩
    · cases e
    · injection e with e1 _ e3
      injection e1 with e1
      injection e1 with e1 _ _
      subst e1; subst e3
      have hlo := hl.out
      rw [List.length_cons, hlo] at htk hnc
      refine ⟨cur0.toList.drop ((n + 1) * 10), cur0.toList, hb, hnc, by unfold maxLen at hm; omega, ?_, by simp; omega, by simpa using hg⟩
      rw [← List.append_assoc, ← flat_cons, ← htk, List.take_append_drop]
  have HT := Lib.hid hT; clear hT
  have HG := Lib.hid hg; clear hg
  have HCUR := Lib.hid hcur; clear hcur
  have ld : Hid ((flat xs).length = n * 10) := Lib.hid (by rw [flat_length, hl.out])
  have lcur : Hid (cur.length = c * 10) := Lib.hid (by rw [HCUR.out, List.length_append, List.length_append, ld.out, It.cells_length, HT.out]; omega)
  obtain ⟨cur1, hcur1⟩ : ∃ cur1, cur1 = cur.take 0 ++ flat xs ++ cur.drop (0 + (flat xs).length) := ⟨_, rfl⟩
  have lcur1 : Hid (cur1.length = c * 10) := Lib.hid (by simp only [hcur1, List.length_append, List.length_take, List.length_drop, ld.out, lcur.out]; omega)
  obtain ⟨W1, hW1⟩ : ∃ W1, W1 = w.drew.setRow g cur1.toArray := ⟨_, rfl⟩
  have G1 : Hid (W1.heap[g]? = some (.cells cur1.toArray 78 (0, 0))) := Lib.hid (by rw [hW1]; exact setRow_heap w.drew g cur.toArray _ 78 _ HG.out)
  have hap : ∀ o, (0 < n → o = 10) → ∀ cs ty sc, (builtin .append #[71, 71] ty cs #[.slice (some ⟨g, 0, none⟩) 0 c, .slice (some ⟨g, o, none⟩) n sc]).run Try.prog w.drew = .ok (.value (.slice (some ⟨g, 0, none⟩) n c)) W1 := fun o ho cs ty sc => by
    have h := run_append_room (P := Try.prog) w.drew 71 ty 78 i0 Try.underlying71 hi0 g 0 c cur.toArray HG.out ⟨g, o, none⟩ n sc (flat xs) (by rw [ld.out, hzs]) (fun j v hj => by
        have hjl : j < n * 10 := by rw [← ld.out]; rw [List.getElem?_eq_some_iff] at hj; exact hj.1
        obtain rfl : o = 10 := ho (by omega)
        rw [Addr.add_lit]
        refine (cell_of_row w.drew g (10 + j) cur.toArray 78 (0, 0) HG.out).trans ?_
        rw [List.getElem?_toArray, HCUR.out, List.getElem?_append_right (by rw [It.cells_length]; omega), It.cells_length, Nat.add_sub_cancel_left, List.getElem?_append_left (by rw [ld.out]; exact hjl)]
        exact hj)
      (fun v hv => h1.out v (by rw [flat_cons]; exact List.mem_append_right _ hv)) (by omega) (by rw [ld.out, List.size_toArray, lcur.out]; omega)
    refine builtin_append _ _ _ _ _ (h.trans ?_)
    rw [hW1, hcur1]
    simp
  obtain ⟨cur2, hcur2⟩ : ∃ cur2, cur2 = cur1.take (n * 10) ++ (Builtin.zeroCells zero78.cells 1).toList ++ cur1.drop (n * 10 + 1 * zero78.cells.size) := ⟨_, rfl⟩
  have lcur2 : Hid (cur2.length = c * 10) := Lib.hid (by simp only [hcur2, List.length_append, List.length_take, List.length_drop, Array.length_toList, size_zeroCells, zero78_size, lcur1.out]; omega)
  obtain ⟨W2, hW2⟩ : ∃ W2, W2 = W1.setRow g cur2.toArray := ⟨_, rfl⟩
  have hcl : ∀ cs ty cc, (builtin .clear #[71] ty cs #[.slice (some ⟨g, n * 10, none⟩) 1 cc]).run Try.prog W1 = .ok (.value (.tuple #[])) W2 := fun cs ty cc => by
    have h := run_clear_row_n (P := Try.prog) W1 71 ty 78 i0 zero78 g (n * 10) 1 cc cur1.toArray 78 Try.underlying71 hi0 hz0 (by omega) G1.out (by rw [zero78_size, List.size_toArray, lcur1.out]; omega) (zero_ones 1)
    rw [hW2, hcur2]
    exact builtin_clear _ _ _ _ _ h
  have HE := Lib.hid hcur1; have HE2 := Lib.hid hcur2; have HW1 := Lib.hid hW1; have HW2 := Lib.hid hW2
  clear hcur1 hcur2 hW1 hW2
  have hz : ¬ ((0 : Int) = 1) := by omega
  have h0 : (1 : Int) ≤ (n : Int) + 1 := by omega
  have hcn : ¬ (c = n) := by omega
  have fin : ∃ v', Ending.returned (.slice (some ⟨g, 0, none⟩) n c) = Ending.returned v' := ⟨_, rfl⟩
  have HF : Hid (Rw W2 B (.slice (some ⟨g, 0, none⟩) n c) xs ∧ w.grownBy W2 (some g)) := Lib.hid (by
    refine ⟨⟨by rw [flat_length], .inr ⟨g, c, cur2.toArray, by rw [hl.out], hgB, ?_, by rw [hl.out]; omega, by unfold maxLen; omega, by rw [List.size_toArray, lcur2.out], ?_⟩⟩, ?_⟩
    · rw [HW2.out]; exact setRow_heap W1 g cur1.toArray _ 78 _ G1.out
    · have e := del_row x.cells (flat xs) T (Builtin.zeroCells zero78.cells 1).toList 10 rfl (by simp [Builtin.zeroCells, zero78_size])
      rw [ld.out] at e
      rw [HE2.out, HE.out, HCUR.out, ld.out, zero78_size, Nat.one_mul, e]
      rw [List.take_append_of_le_length (by rw [flat_length]; exact Nat.le_refl _), List.take_of_length_le (by rw [flat_length]; exact Nat.le_refl _)]
    · rw [HW2.out, HW1.out]
      exact grownBy_trans (drew_grownBy (grown_setRow w.drew g _)) (grown_setRow _ g _))
  by_cases hc1 : c = 1
  · obtain rfl : n = 0 := by omega
    subst hc1
    go_enter Try.func32, Try.ntmps32
    go_wp2
    go_region_law (refine step_run rfl .append _ _ rfl #[.slice (some ⟨g, 0, none⟩) 0 1, .slice (some ⟨g, 0, none⟩) 0 0] (by simp [Act.eval, Act.put]) (fun cs => hap 0 (by omega) cs _ _) ?_)
    go_wp2_with (refine wpList_run1 _ rfl .clear _ _ rfl (.slice (some ⟨g, 0 * 10, none⟩) 1 1) rfl (fun cs => hcl cs _ _) ?_)
    go_ret
    exact ⟨rfl, HF.out⟩
  · go_enter Try.func32, Try.ntmps32
    go_wp2
    go_region_law (refine step_run rfl .append _ _ rfl #[.slice (some ⟨g, 0, none⟩) 0 c, .slice (some ⟨g, 10, none⟩) n (c - 1)] (by simp [Act.eval, Act.put]) (fun cs => hap 10 (fun _ => rfl) cs _ _) ?_)
    go_wp2_with (refine wpList_run1 _ rfl .clear _ _ rfl (.slice (some ⟨g, n * 10, none⟩) 1 (c - n)) rfl (fun cs => hcl cs _ _) ?_)
    go_ret
    exact ⟨rfl, HF.out⟩
end Go.Proofs.Ytpmgobiakgffiaa
