import Derived.Test.YtpmgobiakgffiaaProg
import Derived.Test.YtpmgobiakgffiaaIns
import Derived.Test.YtpmgobiakgffiaaDel
import Derived.Test.YtpmgobiakgffiaaFr
import Derived.Test.YtpmgobiakgffiaaSame
import Derived.Test.YtpmgobiakgffiaaPut2
import Derived.Test.YtpmgobiakgffiaaTake
import Derived.Test.YtpmgobiakgffiaaRef
import Derived.Test.YtpmgobiakgffiaaRefT
import Derived.Deep.LoopGhost
import Derived.Test.YtpmgobiakgffiaaSmall
import Derived.WalkKit
import Derived.Handy
import Derived.Deep.QuietTactic
import Derived.BigQuiet
import Derived.WalkSpells
import Derived.WalkLawsBesides
import Derived.Outline
import Derived.Lib.Hide
import Derived.Deep.DeepFit
import Derived.StillTailTactics
import Derived.Deep.RegionHeld3
import Derived.Deep.RegionWith
namespace Go.Proofs.Ytpmgobiakgffiaa
open Go.RowKit
def irow (ns : List Int) : List Value := ns.map (fun n => Value.int .i64 n)
/-- A row of integers of the call's own. -/
def IntsAt (w : World) (W : Nat) (v : Value) (ns : List Int) : Prop := w.ownsRow W 3 1 v ns.length (irow ns)
def nums (ms : List M) : List Int := ms.map (fun m => m.n)
theorem irow_snoc (ns : List Int) (n : Int) : irow (ns ++ [n]) = irow ns ++ [.int .i64 n] := by simp [irow]
theorem nums_take {ms : List M} (i : Nat) (h : i < ms.length) : nums (ms.take (i + 1)) = nums (ms.take i) ++ [(nthM ms i).n] := by
  unfold nums nthM
  rw [List.take_add_one, List.map_append]
  simp [h]
theorem IntsAt.snoc {w : World} {W k : Nat} {v : Value} {ns : List Int} {n : Int} (h : w.ownsRow W 3 1 v (k + 1) (irow ns ++ [.int .i64 n])) (hk : ns.length = k) : IntsAt w W v (ns ++ [n]) := by
  unfold IntsAt
  rw [irow_snoc, List.length_append, List.length_singleton, hk]
  exact h
theorem ints_step {w wr W1 w1 : World} {W : Nat} {v : Value} {ns : List Int} (hW : W = w.heap.size) (hb : Below W w wr) (hW1 : Below wr.heap.size wr W1) (ho : IntsAt wr W v ns) (hg : W1.grownBy w1 v.ownBlock) : Below W w w1 := by
  have h2 : W ≤ wr.heap.size := by rw [hW]; exact Nat.le_trans (Nat.le_of_eq rfl) hb.size
  exact (hb.trans (hW1.mono h2)).grown hg (Nat.le_trans h2 hW1.size) (fun k e => (World.ownsRow.lt ho k e).1)
theorem item_cells {w : World} {B g n c : Nat} {xs : List It} {ms : List M} (h : Rw w B (.slice (some ⟨g, 0, none⟩) n c) xs) (ha : All2 (fun x m => ∃ w0, Is w0 x m) xs ms) (i : Nat) (hi : i < xs.length) :
    ∃ p0 c0 p1 c1 p2 c2, w.cell? ⟨g, i * 10, none⟩ = some (.int .i64 (nthM ms i).n) ∧ w.cell? ⟨g, i * 10 + 1, none⟩ = some (.int .i64 1) ∧ w.cell? ⟨g, i * 10 + 2, none⟩ = some (.int .i64 1) ∧ w.cell? ⟨g, i * 10 + 3, none⟩ = some (.slice (some ⟨p0, 0, none⟩) 1 c0) ∧
    w.cell? ⟨g, i * 10 + 4, none⟩ = some (.int .i64 1) ∧ w.cell? ⟨g, i * 10 + 5, none⟩ = some (.int .i64 1) ∧ w.cell? ⟨g, i * 10 + 6, none⟩ = some (.slice (some ⟨p1, 0, none⟩) 1 c1) ∧
    w.cell? ⟨g, i * 10 + 7, none⟩ = some (.int .i64 1) ∧ w.cell? ⟨g, i * 10 + 8, none⟩ = some (.int .i64 1) ∧ w.cell? ⟨g, i * 10 + 9, none⟩ = some (.slice (some ⟨p2, 0, none⟩) 1 c2) := by
  obtain ⟨c1, c2, c3, c4, c5, c6, c7, c8, c9, e, k0, k1, k2, k3, k4, k5, k6, k7, k8, k9⟩ := h.item i hi
  have his : ∃ w0, Is w0 (nth xs i) (nthM ms i) := by
    have key : ∀ {xs : List It} {ms : List M}, All2 (fun x m => ∃ w0, Is w0 x m) xs ms → ∀ i, i < xs.length → ∃ w0, Is w0 (nth xs i) (nthM ms i) := by
      intro xs
      induction xs with
      | nil => intro ms _ i hi; simp at hi
      | cons x xs ih => intro ms h i hi; cases ms with
        | nil => exact h.elim
        | cons m ms => cases i with
          | zero => exact h.1
          | succ i => have := ih h.2 i (by simpa using hi); simpa [Ytpmgobiakgffiaa.nth, nthM] using this
    exact key ha i hi
  obtain ⟨w0, hn, p0, d0, p1, d1, p2, d2, ea, _⟩ := his
  simp only [It.arr, e, fr9, Array.mk.injEq, List.cons.injEq, and_true] at ea
  obtain ⟨rfl, rfl, rfl, rfl, rfl, rfl, rfl, rfl, rfl⟩ := ea
  rw [hn] at k0
  exact ⟨p0, d0, p1, d1, p2, d2, k0, k1, k2, k3, k4, k5, k6, k7, k8, k9⟩
set_option maxHeartbeats 4000000 in
set_option maxRecDepth 100000 in
theorem f18_any (B q : Nat) (next : Int) (ms : List M) (w : World) (hq : Hid (QS w B q next ms)) :
    Calls Try.prog 18 #[.pointer (some ⟨q, 0, none⟩)] w fun e w' => ∃ v, e = .returned v ∧ IntsAt w' w.heap.size v (nums ms) ∧ Below w.heap.size w w' := by
  obtain ⟨q0, hi0, hz0, hzs, hzb⟩ := info_parts info3
  obtain ⟨v, xs, hh, hrw, hall⟩ := hq.out.out
  have hn9 := good_len hq.out.good
  have hlen := hall.length
  have HALL := Lib.hid hall
  have HRW := Lib.hid hrw
  have e1 : w.cell? ⟨q, 1, none⟩ = some v := (cell_of_row w q 1 _ 73 (0, 0) hh).trans rfl
  clear hh hrw hall
  obtain ⟨A, c, hv⟩ : ∃ A c, v = .slice A ms.length c := by
    rw [← hlen]
    rcases HRW.out.form with ⟨rfl, rfl⟩ | ⟨g, c, rfl, _⟩
    · exact ⟨none, 0, rfl⟩
    · exact ⟨_, c, rfl⟩
  subst hv
  obtain ⟨k, hk⟩ : ∃ k, k = ms.length := ⟨_, rfl⟩
  rw [← hk] at HRW e1 hn9 hlen
  have HKM := Lib.hid hk
  clear hk
  go_enter Try.func18, Try.ntmps18
  go_wp2
  go_loopw [3, 13] (fun v3 v13 wr => ∃ i : Nat, v13 = .int .i64 i ∧ i ≤ k ∧ Hid (IntsAt wr w.heap.size v3 (nums (ms.take i))) ∧ Hid (Below w.heap.size w wr)) (fun _ v _ => (k - intOf v).toNat)
  case atStart => exact ⟨0, rfl, by omega, Lib.hid (World.ownsRow_nil _ _ _ _), Lib.hid (Below.refl _ _)⟩
  case round =>
    obtain ⟨i, rfl, hik, HI, HB⟩ := hrel
    by_cases hlt : i < k
    · have hix : i < xs.length := by omega
      obtain ⟨g, c', hv, hcB, hgw, hnc, hcm⟩ : ∃ g c', (Value.slice A k c) = .slice (some ⟨g, 0, none⟩) xs.length c' ∧ B ≤ g ∧ g < w.heap.size ∧ xs.length ≤ c' ∧ c' ≤ maxLen := by
        rcases HRW.out.form with ⟨_, h⟩ | ⟨g, c, h⟩
        · rw [h] at hix; simp at hix
        · exact ⟨g, c, h⟩
      have hA : A = some ⟨g, 0, none⟩ := by injection hv
      have hc' : c = c' := by injection hv
      subst hA; subst hc'
      have HRB : Hid (Rw wr B (.slice (some ⟨g, 0, none⟩) k c) xs) := Lib.hid (HRW.out.below HB.out)
      have hil : i < ms.length := by rw [← HKM.out]; exact hlt
      obtain ⟨p0, d0, p1, d1, p2, d2, k0, k1, k2, k3, k4, k5, k6, k7, k8, k9⟩ := item_cells HRB.out (HALL.out.imp (fun _ _ h => ⟨w, h⟩)) i hix
      have HNT : Hid (nums (ms.take (i + 1)) = nums (ms.take i) ++ [(nthM ms i).n]) := Lib.hid (nums_take i hil)
      have HLT : Hid ((nums (ms.take i)).length = i) := Lib.hid (by simp [nums]; omega)
      obtain ⟨m, hm⟩ : ∃ m, (nthM ms i).n = m := ⟨_, rfl⟩
      rw [hm] at k0 HNT
      clear hv hcB hgw hnc hcm hm hil hix
      go_wp2_with (at_builtin; refine wpList_append_own _ rfl _ _ 24 rfl w.heap.size 3 q0 (.int .i64 0) 1 8 Try.underlying24 hi0 hz0 hzs hzb rfl (by decide) _ i (irow (nums (ms.take i))) rfl ?c0 ⟨wr.heap.size + 1, 0, none⟩ 1 1 [.int .i64 m] rfl rfl ?c1 ?c2 ?c3 ?c4 ?c5 ?_)
      case c0 => have h := HI.out; unfold IntsAt at h; rw [HLT.out] at h; exact World.ownsRow.alloc (World.ownsRow.alloc h _) _
      case c1 =>
        intro j u hj
        rw [Addr.add_lit]
        cases j with
        | zero => simp at hj; subst hj; exact (cell_of_row _ (wr.heap.size + 1) 0 #[.int .i64 m] 3 (0, 0) (blk_at _ _ _ (by simp))).trans rfl
        | succ j => simp at hj
      case c2 => exact fun u hu => by simp at hu; subst hu; rfl
      case c3 => unfold maxLen; omega
      case c4 => omega
      case c5 => have := HB.out.size; simp; omega
      intro v4 w1 ho hg _
      have HO := Lib.hid ho; have HG := Lib.hid hg; clear ho hg
      go_wp2
      go_roundw
      case rel => exact ⟨i + 1, by go_num, by omega, by rw [HNT.out]; exact Lib.hid (IntsAt.snoc HO.out HLT.out), Lib.hid (ints_step rfl HB.out (((Below.refl _ _).alloc (Nat.le_refl _) _).alloc (by simp) _) HI.out HG.out)⟩
      case measure => simp [intOf]; omega
    · obtain rfl : k = i := by omega
      go_wp2
      go_ret
      exact ⟨_, rfl, by have h := HI.out; rwa [HKM.out, List.take_length] at h, HB.out⟩
theorem f18_nil (w : World) : Calls Try.prog 18 #[.pointer none] w fun e w' => e = .returned (.slice none 0 0) ∧ w' = w := by
  go_enter Try.func18, Try.ntmps18
  go_wp2
  go_ret
  exact ⟨rfl, rfl⟩
theorem ix43 (b0 b1 b2 b3 b4 b5 b6 b7 b8 : Bool) (w : World) (i : Nat) (hi : i < 9) (b : Bool) (hb : [b0, b1, b2, b3, b4, b5, b6, b7, b8][i]? = some b) : (Instr.index 43 (.agg #[.bool b0, .bool b1, .bool b2, .bool b3, .bool b4, .bool b5, .bool b6, .bool b7, .bool b8]) (.int .i64 (i : Int))).run Try.prog w = .ok (.bool b) w := by
  have a0 : (Instr.index 43 (.agg #[.bool b0, .bool b1, .bool b2, .bool b3, .bool b4, .bool b5, .bool b6, .bool b7, .bool b8]) (.int .i64 ((0 : Nat) : Int))).run Try.prog w = .ok (.bool b0) w := by kernel_rfl
  have a1 : (Instr.index 43 (.agg #[.bool b0, .bool b1, .bool b2, .bool b3, .bool b4, .bool b5, .bool b6, .bool b7, .bool b8]) (.int .i64 ((1 : Nat) : Int))).run Try.prog w = .ok (.bool b1) w := by kernel_rfl
  have a2 : (Instr.index 43 (.agg #[.bool b0, .bool b1, .bool b2, .bool b3, .bool b4, .bool b5, .bool b6, .bool b7, .bool b8]) (.int .i64 ((2 : Nat) : Int))).run Try.prog w = .ok (.bool b2) w := by kernel_rfl
  have a3 : (Instr.index 43 (.agg #[.bool b0, .bool b1, .bool b2, .bool b3, .bool b4, .bool b5, .bool b6, .bool b7, .bool b8]) (.int .i64 ((3 : Nat) : Int))).run Try.prog w = .ok (.bool b3) w := by kernel_rfl
  have a4 : (Instr.index 43 (.agg #[.bool b0, .bool b1, .bool b2, .bool b3, .bool b4, .bool b5, .bool b6, .bool b7, .bool b8]) (.int .i64 ((4 : Nat) : Int))).run Try.prog w = .ok (.bool b4) w := by kernel_rfl
  have a5 : (Instr.index 43 (.agg #[.bool b0, .bool b1, .bool b2, .bool b3, .bool b4, .bool b5, .bool b6, .bool b7, .bool b8]) (.int .i64 ((5 : Nat) : Int))).run Try.prog w = .ok (.bool b5) w := by kernel_rfl
  have a6 : (Instr.index 43 (.agg #[.bool b0, .bool b1, .bool b2, .bool b3, .bool b4, .bool b5, .bool b6, .bool b7, .bool b8]) (.int .i64 ((6 : Nat) : Int))).run Try.prog w = .ok (.bool b6) w := by kernel_rfl
  have a7 : (Instr.index 43 (.agg #[.bool b0, .bool b1, .bool b2, .bool b3, .bool b4, .bool b5, .bool b6, .bool b7, .bool b8]) (.int .i64 ((7 : Nat) : Int))).run Try.prog w = .ok (.bool b7) w := by kernel_rfl
  have a8 : (Instr.index 43 (.agg #[.bool b0, .bool b1, .bool b2, .bool b3, .bool b4, .bool b5, .bool b6, .bool b7, .bool b8]) (.int .i64 ((8 : Nat) : Int))).run Try.prog w = .ok (.bool b8) w := by kernel_rfl
  have h9 : i = 0 ∨ i = 1 ∨ i = 2 ∨ i = 3 ∨ i = 4 ∨ i = 5 ∨ i = 6 ∨ i = 7 ∨ i = 8 := by omega
  rcases h9 with rfl | rfl | rfl | rfl | rfl | rfl | rfl | rfl | rfl
  · obtain rfl : b0 = b := by injection hb
    exact a0
  · obtain rfl : b1 = b := by injection hb
    exact a1
  · obtain rfl : b2 = b := by injection hb
    exact a2
  · obtain rfl : b3 = b := by injection hb
    exact a3
  · obtain rfl : b4 = b := by injection hb
    exact a4
  · obtain rfl : b5 = b := by injection hb
    exact a5
  · obtain rfl : b6 = b := by injection hb
    exact a6
  · obtain rfl : b7 = b := by injection hb
    exact a7
  · obtain rfl : b8 = b := by injection hb
    exact a8
theorem nine_at (h : Nat → Bool) (i : Nat) (hi : i < 9) : [h 0, h 1, h 2, h 3, h 4, h 5, h 6, h 7, h 8][i]? = some (h i) := by
  have h9 : i = 0 ∨ i = 1 ∨ i = 2 ∨ i = 3 ∨ i = 4 ∨ i = 5 ∨ i = 6 ∨ i = 7 ∨ i = 8 := by omega
  rcases h9 with rfl | rfl | rfl | rfl | rfl | rfl | rfl | rfl | rfl <;> rfl
/-- The numbers of the reference's table, from the j-th place on, k places. -/
def tf (next : Int) (h : Nat → Bool) : Nat → Nat → List Int
  | _, 0 => []
  | j, k + 1 => (if h j = true then [next + j] else []) ++ tf next h (j + 1) k
theorem tf_all {next : Int} {h : Nat → Bool} : ∀ (k j : Nat) (ms : List M), j + k = 9 → (∀ m, m ∈ ms → next + j ≤ m.n ∧ m.n ≤ next + 8) → (∀ a b, a < b → b < ms.length → (nthM ms a).n < (nthM ms b).n) →
    (∀ i : Nat, j ≤ i → i < 9 → (h i = true ↔ ∃ m, m ∈ ms ∧ m.n = next + i)) → tf next h j k = nums ms := by
  intro k
  induction k with
  | zero =>
    intro j ms hj hr hs hh
    cases ms with
    | nil => rfl
    | cons m r => have := hr m (by simp); omega
  | succ k ih =>
    intro j ms hj hr hs hh
    have tl : ∀ (m : M) (r : List M), ms = m :: r → ∀ x, x ∈ r → m.n < x.n := fun m r e x hx => by
      obtain ⟨i, hi, e'⟩ := List.getElem_of_mem hx
      have := hs 0 (i + 1) (by omega) (by rw [e]; simpa using hi)
      rw [e] at this
      simpa [nthM, hi, e'] using this
    unfold tf
    by_cases hhj : h j = true
    · rw [if_pos hhj]
      obtain ⟨m, hm, hn⟩ := (hh j (by omega) (by omega)).1 hhj
      cases ms with
      | nil => simp at hm
      | cons m0 r =>
        have h0 := (hr m0 (by simp)).1
        have : m0.n = next + j := by
          rcases List.mem_cons.1 hm with h | h
          · rw [← h]; exact hn
          · have := tl m0 r rfl m h; omega
        have := ih (j + 1) r (by omega) (fun x hx => ⟨by have := tl m0 r rfl x hx; omega, (hr x (by simp [hx])).2⟩) (fun a b hab hb => by
          have := hs (a + 1) (b + 1) (by omega) (by simpa using hb)
          simpa [nthM] using this) (fun i hi h9 => by
          rw [hh i (by omega) h9]
          refine ⟨fun ⟨x, hx, e⟩ => ⟨x, ?_, e⟩, fun ⟨x, hx, e⟩ => ⟨x, by simp [hx], e⟩⟩
          rcases List.mem_cons.1 hx with h | h
          · subst h; omega
          · exact h)
        rw [this]
        simp [nums]
        omega
    · rw [if_neg hhj, List.nil_append]
      refine ih (j + 1) ms (by omega) (fun x hx => ⟨?_, (hr x hx).2⟩) hs (fun i hi h9 => hh i (by omega) h9)
      have h1 := (hr x hx).1
      have : x.n ≠ next + j := fun e => hhj ((hh j (by omega) (by omega)).2 ⟨x, hx, e⟩)
      omega
theorem tab_nums {w : World} {next : Int} {h : Nat → Bool} {g : Nat → Nine} {ms : List M} (t : Tab w next h g ms) (hg : Good next ms) : tf next h 0 9 = nums ms :=
  tf_all 9 0 ms rfl (fun m hm => by have := good_ge hg m hm; omega) hg.2.2.2 (fun i _ h9 => t.1 i h9)
theorem tf_no {next : Int} {h : Nat → Bool} {i k : Nat} {ns L : List Int} (hk : 9 - i = k + 1) (hh : h i = false) (e : ns ++ tf next h i (9 - i) = L) : ns ++ tf next h (i + 1) (9 - (i + 1)) = L := by
  rw [hk] at e
  rw [show 9 - (i + 1) = k by omega, ← e]
  simp [tf, hh]
theorem tf_yes {next : Int} {h : Nat → Bool} {i k : Nat} {ns L : List Int} (hk : 9 - i = k + 1) (hh : h i = true) (e : ns ++ tf next h i (9 - i) = L) : (ns ++ [next + i]) ++ tf next h (i + 1) (9 - (i + 1)) = L := by
  rw [hk] at e
  rw [show 9 - (i + 1) = k by omega, ← e]
  simp [tf, hh]
theorem tf_end {w : World} {W : Nat} {v : Value} {next : Int} {h : Nat → Bool} {ns L : List Int} (e : ns ++ tf next h 9 (9 - 9) = L) (hi : IntsAt w W v ns) : IntsAt w W v L := by
  rw [Nat.sub_self] at e
  simp only [tf, List.append_nil] at e
  rw [← e]
  exact hi
set_option maxHeartbeats 4000000 in
set_option maxRecDepth 100000 in
theorem f19_any (x : Nat) (next : Int) (h : Nat → Bool) (g : Nat → Nine) (w : World) (hr : Hid (RB w x next h g)) (hnx : 0 ≤ next ∧ next ≤ 2000000) :
    Calls Try.prog 19 #[.pointer (some ⟨x, 0, none⟩)] w fun e w' => ∃ v, e = .returned v ∧ IntsAt w' w.heap.size v (tf next h 0 9) ∧ Below w.heap.size w w' := by
  obtain ⟨q0, hi0, hz0, hzs, hzb⟩ := info_parts info3
  have hx := hr.out.lt
  have k0 : w.cell? ⟨x, 1, none⟩ = some (.bool (h 0)) := hr.out.ch 0 (by omega)
  have k1 : w.cell? ⟨x, 2, none⟩ = some (.bool (h 1)) := hr.out.ch 1 (by omega)
  have k2 : w.cell? ⟨x, 3, none⟩ = some (.bool (h 2)) := hr.out.ch 2 (by omega)
  have k3 : w.cell? ⟨x, 4, none⟩ = some (.bool (h 3)) := hr.out.ch 3 (by omega)
  have k4 : w.cell? ⟨x, 5, none⟩ = some (.bool (h 4)) := hr.out.ch 4 (by omega)
  have k5 : w.cell? ⟨x, 6, none⟩ = some (.bool (h 5)) := hr.out.ch 5 (by omega)
  have k6 : w.cell? ⟨x, 7, none⟩ = some (.bool (h 6)) := hr.out.ch 6 (by omega)
  have k7 : w.cell? ⟨x, 8, none⟩ = some (.bool (h 7)) := hr.out.ch 7 (by omega)
  have k8 : w.cell? ⟨x, 9, none⟩ = some (.bool (h 8)) := hr.out.ch 8 (by omega)
  go_enter Try.func19, Try.ntmps19
  go_wp2
  go_loopw [3, 10] (fun v3 v10 wr => ∃ (i : Nat) (ns : List Int), v10 = .int .i64 i ∧ i ≤ 9 ∧ ns.length ≤ i ∧ Hid (IntsAt wr w.heap.size v3 ns) ∧ Hid (ns ++ tf next h i (9 - i) = tf next h 0 9) ∧ Hid (Below w.heap.size w wr)) (fun _ v _ => (9 - intOf v).toNat)
  case atStart => exact ⟨0, [], rfl, by omega, by simp, Lib.hid (World.ownsRow_nil _ _ _ _), Lib.hid rfl, Lib.hid (Below.refl _ _)⟩
  case round =>
    clear k0 k1 k2 k3 k4 k5 k6 k7 k8
    obtain ⟨i, ns, rfl, hi9, hni, HI, HN, HB⟩ := hrel
    by_cases hlt : i < 9
    · have HRR : Hid (RB wr x next h g) := Lib.hid (hr.out.below HB.out)
      have hx' := HRR.out.lt
      have c0 : wr.cell? ⟨x, 0, none⟩ = some (.int .i64 next) := HRR.out.c0
      have hki : ∃ b, h i = b := ⟨_, rfl⟩
      obtain ⟨b, hb⟩ := hki
      have HIX := Lib.hid hb
      clear hb
      have ix : ∀ w, (Instr.index 43 (.agg #[.bool (h 0), .bool (h 1), .bool (h 2), .bool (h 3), .bool (h 4), .bool (h 5), .bool (h 6), .bool (h 7), .bool (h 8)]) (.int .i64 (i : Int))).run Try.prog w = .ok (.bool b) w := fun w => ix43 _ _ _ _ _ _ _ _ _ w i hlt b (by rw [← HIX.out]; exact nine_at h i hlt)
      obtain ⟨r, hr9⟩ : ∃ r, 9 - i = r + 1 := ⟨8 - i, by omega⟩
      have HR9 := Lib.hid hr9
      clear hr9
      cases b with
      | false =>
        go_wp2
        go_roundw
        case rel => exact ⟨i + 1, ns, by go_num, by omega, by omega, HI, Lib.hid (tf_no HR9.out HIX.out HN.out), HB⟩
        case measure => simp [intOf]; omega
      | true =>
        go_wp2_with (at_builtin; refine wpList_append_own _ rfl _ _ 24 rfl w.heap.size 3 q0 (.int .i64 0) 1 8 Try.underlying24 hi0 hz0 hzs hzb rfl (by decide) _ ns.length (irow ns) rfl ?c0 ⟨wr.heap.size, 0, none⟩ 1 1 [.int .i64 (next + i)] rfl rfl ?c1 ?c2 ?c3 ?c4 ?c5 ?_)
        case c0 => exact World.ownsRow.alloc HI.out _
        case c1 =>
          intro j u hj
          rw [Addr.add_lit]
          cases j with
          | zero => simp at hj; subst hj; exact (cell_of_row _ wr.heap.size 0 #[.int .i64 (next + i)] 3 (0, 0) (blk_at _ _ _ rfl)).trans rfl
          | succ j => simp at hj
        case c2 => exact fun u hu => by simp at hu; subst hu; rfl
        case c3 => unfold maxLen; omega
        case c4 => omega
        case c5 => have := HB.out.size; simp; omega
        intro v4 w1 ho hg _
        have HO := Lib.hid ho; have HG := Lib.hid hg; clear ho hg
        go_wp2
        go_roundw
        case rel => exact ⟨i + 1, ns ++ [next + i], by go_num, by omega, by simp; omega, Lib.hid (IntsAt.snoc HO.out rfl), Lib.hid (tf_yes HR9.out HIX.out HN.out), Lib.hid (ints_step rfl HB.out ((Below.refl _ _).alloc (Nat.le_refl _) _) HI.out HG.out)⟩
        case measure => simp [intOf]; omega
    · obtain rfl : i = 9 := by omega
      go_wp2
      go_ret
      exact ⟨_, rfl, tf_end HN.out HI.out, HB.out⟩
end Go.Proofs.Ytpmgobiakgffiaa
