import Derived.Test.YtpmgobiakgffiaaProg
import Derived.Test.YtpmgobiakgffiaaIns
import Derived.Test.YtpmgobiakgffiaaDel
import Derived.Test.YtpmgobiakgffiaaFr
import Derived.Test.YtpmgobiakgffiaaSame
import Derived.Test.YtpmgobiakgffiaaQ2
import Derived.Deep.LoopGhost
import Derived.Test.YtpmgobiakgffiaaSmall
import Derived.WalkKit
import Derived.Handy
import Derived.Deep.QuietTactic
import Derived.BigQuiet
import Derived.WalkSpells
import Derived.WalkLawsBesides
import Derived.Outline
import Derived.Lib.Hide
import Derived.Deep.DeepFit
import Derived.StillTailTactics
import Derived.Deep.RegionHeld3
import Derived.Deep.RegionWith
namespace Go.Proofs.Ytpmgobiakgffiaa
open Go.RowKit
def zero31 : Value := .agg #[.int .i64 0, .int .i64 0, .slice none 0 0, .int .i64 0, .int .i64 0, .slice none 0 0, .int .i64 0, .int .i64 0, .slice none 0 0]
theorem info31 : (Try.prog.info? 31).map (fun i => (i.zero, i.size, i.bytes)) = some (some zero31, 9, 120) := by kernel_rfl
/-- A row of frames, of the call's own from W on. -/
def rows (fs : List (Array Value)) : List Value := fs.flatMap (·.toList)
theorem rows_snoc (fs : List (Array Value)) (f : Array Value) : rows (fs ++ [f]) = rows fs ++ f.toList := by simp [rows]
/-- The frames that stand in a slice. -/
def Frs (w : World) (W : Nat) (v : Value) (ms : List M) : Prop := ∃ fs, w.ownsRow W 31 9 v fs.length (rows fs) ∧ All2 (fun f m => Fr w 0 f m.a m.b m.c) fs ms
/-- All blocks but those of frames are as they were. -/
def Only31 (w w' : World) : Prop := w.heap.size ≤ w'.heap.size ∧ ∀ (k : Nat) (cur : Array Value) (t : TypeId) (fr : Nat × Nat), w.heap[k]? = some (.cells cur t fr) → t ≠ 31 → w'.heap[k]? = some (.cells cur t fr)
theorem own_31 {w : World} {W n : Nat} {v : Value} {xs : List Value} (h : w.ownsRow W 31 9 v n xs) : ∀ g, v.ownBlock = some g → ∃ cs, w.heap[g]? = some (Obj.cells cs 31 (0, 0)) := fun g e => by
  rcases h.2 with ⟨rfl, _⟩ | ⟨g', cap, cur, rfl, _, hg, _⟩
  · simp [Value.ownBlock] at e
  · simp only [Value.ownBlock, Option.some.injEq] at e
    subst e
    exact ⟨cur, hg⟩
theorem only31_of {w W1 w1 : World} {W n : Nat} {v : Value} {xs : List Value} (h : w.ownsRow W 31 9 v n xs) (hb : Below w.heap.size w W1) (hg : W1.grownBy w1 v.ownBlock) : Only31 w w1 :=
  ⟨Nat.le_trans hb.size hg.size, fun k cur t fr hk ht => by
    have hlt := (Array.getElem?_eq_some_iff.1 hk).1
    refine (hg.block k (Nat.lt_of_lt_of_le hlt hb.size) (fun e => ?_)).trans ((hb.block k hlt).trans hk)
    obtain ⟨cs, hc⟩ := own_31 h k e.symm
    rw [hk] at hc; injection hc with hc; injection hc with _ ht' _
    exact ht ht'⟩
theorem Only31.nums {w w' : World} (h : Only31 w w') : Nums w w' := ⟨h.1, fun k cur hk => h.2 k cur 3 _ hk (by decide)⟩
theorem Only31.rw {w w' : World} (h : Only31 w w') {B : Nat} {v : Value} {xs : List It} (hr : Rw w B v xs) : Rw w' B v xs := by
  refine ⟨hr.1, ?_⟩
  rcases hr.2 with h0 | ⟨g, cap, cur, e, hb, hg, r⟩
  · exact .inl h0
  · exact .inr ⟨g, cap, cur, e, hb, h.2 g cur 78 _ hg (by decide), r⟩
theorem keep_ext {w wr W1 w1 : World} {r : Option Nat} (h : Keep w wr) (hb : Below wr.heap.size wr W1) (hg : W1.grownBy w1 r) (hr : ∀ g, r = some g → w.heap.size ≤ g) : Keep w w1 :=
  ⟨Nat.le_trans h.1 (Nat.le_trans hb.size hg.size), fun k cur t fr hk h1 h2 => by
    have hlt := (Array.getElem?_eq_some_iff.1 hk).1
    have hlt2 := Nat.lt_of_lt_of_le hlt h.1
    exact (hg.block k (Nat.lt_of_lt_of_le hlt2 hb.size) (fun e => by have := hr k e.symm; omega)).trans ((hb.block k hlt2).trans (h.2 k cur t fr hk h1 h2))⟩
theorem good_next {next : Int} {m : M} {ms : List M} (h : Good next (m :: ms)) (hm : m.n = next) (hn : next ≤ 2000000) : Good (next + 1) ms := by
  obtain ⟨h0, h1, h2, h3⟩ := h
  refine ⟨by omega, by omega, fun i hi => ?_, fun i j hij hj => ?_⟩
  · have a := h2 (i + 1) (by simpa using hi)
    have b := h3 0 (i + 1) (by omega) (by simpa using hi)
    have e : nthM (m :: ms) (i + 1) = nthM ms i := rfl
    have e0 : nthM (m :: ms) 0 = m := rfl
    rw [e] at a b
    rw [e0] at b
    omega
  · exact h3 (i + 1) (j + 1) (by omega) (by simpa using hj)
/-- One round of Take. -/
theorem take_step {B q g c : Nat} {next : Int} {x : It} {xs : List It} {m : M} {done rest : List M} {fs : List (Array Value)} {u v4 : Value} {F : Array Value} {w wr W1 w1 w2 : World}
    (hB : B ≤ w.heap.size) (hk : Hid (Keep w wr)) (hbl : Hid (Below B w wr)) (hw1 : Hid (Below wr.heap.size wr W1))
    (hq : Hid (QS wr B q (next + done.length) (m :: rest))) (hall : Hid (All2 (Is wr) (x :: xs) (m :: rest))) (hF : Hid (x.arr = F))
    (hfo : Hid (wr.ownsRow w.heap.size 31 9 u fs.length (rows fs))) (hfa : Hid (All2 (fun f m => Fr wr 0 f m.a m.b m.c) fs done)) (hn : next + done.length ≤ 2000000)
    (hm : m.n = next + done.length)
    (ho : Hid (w1.ownsRow w.heap.size 31 9 v4 (fs.length + 1) (rows fs ++ F.toList))) (hg : Hid (W1.grownBy w1 u.ownBlock))
    (hh : Hid (w2.heap[q]? = some (.cells #[.int .i64 (next + done.length), .slice (some ⟨g, 0, none⟩) (xs.length + 1) c] 73 (0, 0))))
    (hr2 : Hid (Rw w2 B (.slice (some ⟨g, 0, none⟩) xs.length c) xs)) (hg2 : Hid (w1.grownBy w2 (some g))) (hgB : B ≤ g) (hg78 : Hid (∃ cs, w1.heap[g]? = some (Obj.cells cs 78 (0, 0)))) :
    ∀ Wf, Wf = (w2.setCell ⟨q, 1, none⟩ (.slice (some ⟨g, 0, none⟩) xs.length c)).setCell ⟨q, 0, none⟩ (.int .i64 (next + done.length + 1)) →
    Hid (QS Wf B q (next + (done ++ [m]).length) rest) ∧ Hid (Frs Wf w.heap.size v4 (done ++ [m])) ∧ Hid (Keep w Wf) ∧ Hid (Below B w Wf) := by
  intro Wf hWf
  obtain ⟨cs78, h78⟩ := hg78.out
  have kw1 : Keep w w1 := keep_ext hk.out hw1.out hg.out (fun g' e => (World.ownsRow.lt hfo.out g' e).1)
  have kw2 : Keep w w2 := kw1.trans (Keep.grown hg2.out (fun g' e => by injection e with e; subst e; exact ⟨cs78, 78, (0, 0), h78, .inr rfl⟩))
  obtain ⟨S1, hS1⟩ : ∃ S1, S1 = w2.setCell ⟨q, 1, none⟩ (.slice (some ⟨g, 0, none⟩) xs.length c) := ⟨_, rfl⟩
  rw [← hS1] at hWf
  have hs1 : S1.heap[q]? = some (.cells #[.int .i64 (next + done.length), .slice (some ⟨g, 0, none⟩) xs.length c] 73 (0, 0)) := by
    rw [hS1]; exact (heap_setCell_same w2 q 1 _ 73 _ hh.out).trans rfl
  have hsf : Wf.heap[q]? = some (.cells #[.int .i64 (next + done.length + 1), .slice (some ⟨g, 0, none⟩) xs.length c] 73 (0, 0)) := by
    rw [hWf]; exact (heap_setCell_same S1 q 0 _ 73 _ hs1).trans rfl
  have ks1 : Keep w2 S1 := by rw [hS1]; exact Keep.set hh.out (.inl rfl) _ _
  have ks2 : Keep S1 Wf := by rw [hWf]; exact Keep.set hs1 (.inl rfl) _ _
  have kw12 : Keep w1 w2 := Keep.grown hg2.out (fun g' e => by injection e with e; subst e; exact ⟨cs78, 78, (0, 0), h78, .inr rfl⟩)
  have k1f : Keep w1 Wf := kw12.trans (ks1.trans ks2)
  have kf : Keep w Wf := kw2.trans (ks1.trans ks2)
  have o1 : Only31 wr w1 := only31_of hfo.out hw1.out hg.out
  have nf : Nums wr Wf := o1.nums.trans k1f.nums
  have gs : w2.grownBy Wf (some q) := by
    rw [hWf, hS1]
    exact ⟨rfl, rfl, rfl, by simp [World.setCell], fun k _ hk => (Below.heap_setCell _ ⟨q, 0, none⟩ _ k (fun e => hk (by rw [e]))).trans (Below.heap_setCell _ ⟨q, 1, none⟩ _ k (fun e => hk (by rw [e])))⟩
  have hqb := hq.out.base
  refine ⟨⟨⟨_, xs, ?_, World.ownsRow.kept hr2.out gs (.inr ?_), ?_⟩, hqb, ?_⟩, ⟨fs ++ [F], ?_, ?_⟩, kf, ?_⟩
  · rw [hsf, List.length_append, List.length_singleton]
    rw [show next + ((done.length + 1 : Nat) : Int) = next + done.length + 1 by omega]
  · have := own_ne73 hr2 hh; exact fun e => this e.symm
  · exact hall.out.2.imp (fun _ _ k => k.nums nf)
  · have := good_next hq.out.good hm hn
    rw [List.length_append, List.length_singleton]
    rw [show next + ((done.length + 1 : Nat) : Int) = next + done.length + 1 by omega]
    exact this
  · rw [List.length_append, List.length_singleton, rows_snoc]
    refine World.ownsRow.kept (row := some q) (World.ownsRow.kept (row := some g) ho.out hg2.out (.inr ?_)) gs (.inr ?_)
    · intro e
      obtain ⟨cs, hc⟩ := own_31 ho.out g e
      rw [h78] at hc; injection hc with hc; injection hc with _ ht _; exact absurd ht (by decide)
    · intro e
      obtain ⟨cs, hc⟩ := own_31 ho.out q e
      have hlt := (Array.getElem?_eq_some_iff.1 hc).1
      have hqg : some q ≠ some g := own_ne73 hr2 hh
      have := (hg2.out.block q hlt hqg).trans hc
      rw [hh.out] at this; injection this with this; injection this with _ ht _; exact absurd ht (by decide)
  · refine (hfa.out.imp (fun _ _ k => k.nums nf)).append ⟨?_, trivial⟩
    have := hall.out.1.2
    rw [hF.out] at this
    exact this.nums nf
  · have b1 : Below B w w1 := (hbl.out.trans (hw1.out.mono (by have := hk.out.1; omega))).grown hg.out (by have := hk.out.1; have := hw1.out.size; omega) (fun k e => by have := (World.ownsRow.lt hfo.out k e).1; omega)
    have b2 : Below B w w2 := b1.grown hg2.out (by have := b1.size; omega) (fun k e => by injection e with e; omega)
    exact b2.grown gs (by have := b2.size; omega) (fun k e => by injection e with e; omega)
theorem row_78 {w : World} {B g n c : Nat} {xs : List It} (h : Rw w B (.slice (some ⟨g, 0, none⟩) n c) xs) : ∃ cs, w.heap[g]? = some (Obj.cells cs 78 (0, 0)) := by
  rcases h.2 with ⟨e, _⟩ | ⟨g', cap, cur, e, _, hg, _⟩
  · cases e
  · injection e with e; injection e with e; injection e with e; subst e
    exact ⟨cur, hg⟩
theorem head_cells {w : World} {B g n c : Nat} {x : It} {xs : List It} {m : M} (h : Rw w B (.slice (some ⟨g, 0, none⟩) n c) (x :: xs)) (hi : Is w x m) :
    ∃ p0 c0 p1 c1 p2 c2, x.arr = fr9 p0 c0 p1 c1 p2 c2 ∧ w.cell? ⟨g, 0, none⟩ = some (.int .i64 m.n) ∧ w.cell? ⟨g, 1, none⟩ = some (.int .i64 1) ∧ w.cell? ⟨g, 2, none⟩ = some (.int .i64 1) ∧ w.cell? ⟨g, 3, none⟩ = some (.slice (some ⟨p0, 0, none⟩) 1 c0) ∧
    w.cell? ⟨g, 4, none⟩ = some (.int .i64 1) ∧ w.cell? ⟨g, 5, none⟩ = some (.int .i64 1) ∧ w.cell? ⟨g, 6, none⟩ = some (.slice (some ⟨p1, 0, none⟩) 1 c1) ∧
    w.cell? ⟨g, 7, none⟩ = some (.int .i64 1) ∧ w.cell? ⟨g, 8, none⟩ = some (.int .i64 1) ∧ w.cell? ⟨g, 9, none⟩ = some (.slice (some ⟨p2, 0, none⟩) 1 c2) := by
  obtain ⟨c1, c2, c3, c4, c5, c6, c7, c8, c9, e, k0, k1, k2, k3, k4, k5, k6, k7, k8, k9⟩ := h.item 0 (by simp)
  have ex : nth (x :: xs) 0 = x := rfl
  rw [ex] at e k0
  obtain ⟨hn, p0, d0, p1, d1, p2, d2, ea, _⟩ := hi
  have ea' := ea
  simp only [It.arr, e, fr9, Array.mk.injEq, List.cons.injEq, and_true] at ea'
  obtain ⟨rfl, rfl, rfl, rfl, rfl, rfl, rfl, rfl, rfl⟩ := ea'
  rw [hn] at k0
  simp only [Nat.zero_mul, Nat.zero_add] at k0 k1 k2 k3 k4 k5 k6 k7 k8 k9
  exact ⟨p0, d0, p1, d1, p2, d2, ea, k0, k1, k2, k3, k4, k5, k6, k7, k8, k9⟩
/-- The numbers are next, next + 1, .. -/
def Run (next : Int) (done : List M) : Prop := ∀ i, i < done.length → (nthM done i).n = next + i
theorem run_snoc {next : Int} {done : List M} {m : M} (h : Run next done) (hm : m.n = next + done.length) : Run next (done ++ [m]) := by
  intro i hi
  rw [List.length_append, List.length_singleton] at hi
  by_cases hlt : i < done.length
  · have e : nthM (done ++ [m]) i = nthM done i := by simp only [nthM, List.getD_eq_getElem?_getD, List.getElem?_append_left hlt]
    rw [e]; exact h i hlt
  · obtain rfl : i = done.length := by omega
    have e : nthM (done ++ [m]) done.length = m := by simp [nthM]
    rw [e]; exact hm
/-- What Take leaves. -/
def TakePost (B q : Nat) (next : Int) (ms : List M) (w : World) (e : Ending) (w' : World) : Prop :=
  ∃ done rest v, done ++ rest = ms ∧ Run next done ∧ (∀ m r, rest = m :: r → m.n ≠ next + done.length) ∧ e = .returned v ∧ Frs w' w.heap.size v done ∧ QS w' B q (next + done.length) rest ∧ Keep w w' ∧ Below B w w'
theorem take_end {B q : Nat} {next : Int} {ms done rest : List M} {v : Value} {w wr : World} (HD : Hid (done ++ rest = ms)) (HRUN : Hid (Run next done)) (HQ : Hid (QS wr B q (next + done.length) rest)) (HF : Hid (Frs wr w.heap.size v done)) (HK : Hid (Keep w wr)) (HB : Hid (Below B w wr))
    (hne : ∀ m r, rest = m :: r → m.n ≠ next + done.length) (n : Nat) : TakePost B q next ms w (.returned v) (wr.drewN n) :=
  ⟨done, rest, v, HD.out, HRUN.out, hne, rfl, HF.out, HQ.out.keep (belowN (Below.refl _ _) _), HK.out.trans (Keep.below (belowN (Below.refl _ _) _)), belowN HB.out _⟩
set_option maxHeartbeats 4000000 in
set_option maxRecDepth 100000 in
theorem f12_any (B q : Nat) (next : Int) (ms : List M) (w : World) (hB : B ≤ w.heap.size) (hq : Hid (QS w B q next ms)) (hnx : next ≤ 1000000) :
    Calls Try.prog 12 #[.pointer (some ⟨q, 0, none⟩)] w (TakePost B q next ms w) := by
  go_enter Try.func12, Try.ntmps12
  go_wp2
  go_loopg [3] (ms.length) (fun k v3 wr => ∃ (done rest : List M), k = rest.length ∧ Hid (done ++ rest = ms) ∧ Hid (Run next done) ∧ Hid (QS wr B q (next + done.length) rest) ∧ Hid (Frs wr w.heap.size v3 done) ∧ Hid (Keep w wr) ∧ Hid (Below B w wr))
  case atStart => exact ⟨[], ms, rfl, Lib.hid rfl, Lib.hid (fun i hi => by simp at hi), Lib.hid (by simpa using hq.out), Lib.hid ⟨[], World.ownsRow_nil _ _ _ _, trivial⟩, Lib.hid (Keep.refl w), Lib.hid (Below.refl B w)⟩
  case round =>
    obtain ⟨done, rest, rfl, HD, HRUN, HQ, HF, HK, HB⟩ := hrel
    obtain ⟨v, xs, hh, hrw, hall⟩ := HQ.out.out
    have hlen : xs.length ≤ 9 := by rw [hall.length]; exact good_len HQ.out.good
    have HH := Lib.hid hh; have HRW := Lib.hid hrw; have HALL := Lib.hid hall
    clear hh hrw hall
    have e0 : wr.cell? ⟨q, 0, none⟩ = some (.int .i64 (next + done.length)) := (cell_of_row wr q 0 _ 73 (0, 0) HH.out).trans rfl
    have e1 : wr.cell? ⟨q, 1, none⟩ = some v := (cell_of_row wr q 1 _ 73 (0, 0) HH.out).trans rfl
    cases xs with
    | nil =>
      obtain ⟨A, c, rfl⟩ : ∃ A c, v = .slice A 0 c := by
        rcases HRW.out.form with ⟨rfl, _⟩ | ⟨g, c, rfl, _⟩
        · exact ⟨_, _, rfl⟩
        · exact ⟨_, _, rfl⟩
      have hd : decide ((0 : Int) < 0) = false := by decide
      go_wp2
      go_quiet (fail)
      go_wp2
      go_ret
      have hrest : rest = [] := List.length_eq_zero_iff.1 (by have := HALL.out.length; simpa using this.symm)
      exact take_end (v := u3) HD HRUN HQ HF HK HB (fun m r h => by rw [hrest] at h; cases h) _
    | cons x xs =>
      cases rest with
      | nil => exact absurd HALL.out (by simp [All2])
      | cons m rest =>
        obtain ⟨g, c, hv, hBg, hgw, hnc, hcm⟩ : ∃ g c, v = .slice (some ⟨g, 0, none⟩) (xs.length + 1) c ∧ B ≤ g ∧ g < wr.heap.size ∧ xs.length + 1 ≤ c ∧ c ≤ maxLen := by
          rcases HRW.out.form with ⟨_, h⟩ | ⟨g, c, h⟩
          · cases h
          · exact ⟨g, c, h⟩
        subst hv
        unfold maxLen at hcm
        obtain ⟨p0, c0, p1, c1, p2, c2, harr, k0, k1, k2, k3, k4, k5, k6, k7, k8, k9⟩ := head_cells HRW.out HALL.out.1
        have HARR := Lib.hid harr; clear harr
        by_cases hm : m.n = next + done.length
        · have hd : (m.n == next + (done.length : Int)) = true := by simpa using hm
          obtain ⟨mn, hmn⟩ : ∃ mn, m.n = mn := ⟨_, rfl⟩
          have HMN := Lib.hid hmn
          have HM := Lib.hid (hmn.symm.trans hm)
          rw [hmn] at k0 hd
          clear hm hmn
          have hd0 : decide ((0 : Int) < (xs.length : Int) + 1) = true := by simp
          have hd1 : (0 : Int) < (xs.length : Int) + 1 := by omega
          obtain ⟨fs, hfo, hfa⟩ := HF.out
          have HFO := Lib.hid hfo; have HFA := Lib.hid hfa
          clear hfo hfa
          have hfl : fs.length ≤ 8 := by
            have := good_len hq.out.good
            have h2 := HD.out
            have h3 := HFA.out.length
            rw [← h2, List.length_append, List.length_cons] at this
            omega
          obtain ⟨q0, hi0, hz0, hzs, hzb⟩ := info_parts info31
          have HWR : Hid (w.heap.size ≤ wr.heap.size) := Lib.hid HK.out.1
          go_wp2
          go_quiet (fail)
          go_wp2_with (at_builtin; refine wpList_append_own _ rfl _ _ 35 rfl w.heap.size 31 q0 zero31 9 120 Try.underlying35 hi0 hz0 hzs hzb rfl (by decide) _ fs.length (rows fs) rfl ?c0 ⟨wr.heap.size, 0, none⟩ 1 1 (fr9 p0 c0 p1 c1 p2 c2).toList rfl rfl ?c1 ?c2 ?c3 ?c4 ?c5 ?_)
          case c0 => exact World.ownsRow.alloc (w := wr.drewN nq) HFO.out _
          case c1 => exact fun j u hj => by rw [Addr.add_lit]; refine (cell_of_row _ wr.heap.size (0 + j) (fr9 p0 c0 p1 c1 p2 c2) 31 (0, 0) (blk_at _ _ _ rfl)).trans ?_; rw [Nat.zero_add]; simpa using hj
          case c2 => exact fun u hu => by simp only [fr9, List.mem_cons, List.not_mem_nil, or_false] at hu; rcases hu with rfl | rfl | rfl | rfl | rfl | rfl | rfl | rfl | rfl <;> rfl
          case c3 => unfold maxLen; omega
          case c4 => omega
          case c5 => have := HWR.out; simp; omega
          intro v4 w1 ho hg _
          have HO := Lib.hid ho; have HG := Lib.hid hg; clear ho hg
          have HW1 : Hid (Below wr.heap.size wr ((wr.drewN nq).alloc (.cells #[.int .i64 1, .int .i64 1, .slice (some ⟨p0, 0, none⟩) 1 c0, .int .i64 1, .int .i64 1, .slice (some ⟨p1, 0, none⟩) 1 c1, .int .i64 1, .int .i64 1, .slice (some ⟨p2, 0, none⟩) 1 c2] 31))) := Lib.hid ((belowN (Below.refl _ _) _).alloc (Nat.le_refl _) _)
          have HO1 : Hid (Only31 wr w1) := Lib.hid (only31_of HFO.out HW1.out HG.out)
          have HQ1 : Hid (w1.heap[q]? = some (.cells #[.int .i64 (next + done.length), .slice (some ⟨g, 0, none⟩) (xs.length + 1) c] 73 (0, 0))) := Lib.hid (HO1.out.2 q _ 73 _ HH.out (by decide))
          have a0 : w1.cell? ⟨q, 0, none⟩ = some (.int .i64 (next + done.length)) := (cell_of_row w1 q 0 _ 73 (0, 0) HQ1.out).trans rfl
          have a1 : w1.cell? ⟨q, 1, none⟩ = some (.slice (some ⟨g, 0, none⟩) (xs.length + 1) c) := (cell_of_row w1 q 1 _ 73 (0, 0) HQ1.out).trans rfl
          have HR1 : Hid (Rw w1 B (.slice (some ⟨g, 0, none⟩) (xs.length + 1) c) (x :: xs)) := Lib.hid (HO1.out.rw HRW.out)
          have H78 : Hid (∃ cs, w1.heap[g]? = some (Obj.cells cs 78 (0, 0))) := Lib.hid (row_78 HR1.out)
          have hl8 : xs.length ≤ 8 := by simpa using hlen
          have hdl : done.length ≤ 9 := by have := HFA.out.length; omega
          have hnn : 0 ≤ next := hq.out.good.1
          have HON : Hid (∀ u ∈ flat (x :: xs), u.oneCell' = true) := Lib.hid (QS.ones HALL.out)
          have hqg : Hid (some q ≠ some g) := Lib.hid (own_ne73 HR1 HQ1)
          have hqw1 : q < w1.heap.size := (Array.getElem?_eq_some_iff.1 HQ1.out).1
          clear k0 k1 k2 k3 k4 k5 k6 k7 k8 k9 e0 e1 hd
          go_wp2_with fail
          refine (f32_any B g xs.length c x xs w1 (Lib.hid rfl) (by omega) HR1 HON).mono ?_
          rintro e w2 ⟨rfl, hr2, hg2⟩
          have HR2 := Lib.hid hr2; have HG2 := Lib.hid hg2; clear hr2 hg2
          have HQ2 : Hid (w2.heap[q]? = some (.cells #[.int .i64 (next + done.length), .slice (some ⟨g, 0, none⟩) (xs.length + 1) c] 73 (0, 0))) := Lib.hid ((HG2.out.block q hqw1 hqg.out).trans HQ1.out)
          have b0 : w2.cell? ⟨q, 0, none⟩ = some (.int .i64 (next + done.length)) := (cell_of_row w2 q 0 _ 73 (0, 0) HQ2.out).trans rfl
          have b1 : w2.cell? ⟨q, 1, none⟩ = some (.slice (some ⟨g, 0, none⟩) (xs.length + 1) c) := (cell_of_row w2 q 1 _ 73 (0, 0) HQ2.out).trans rfl
          have z0 : w2.frozen? ⟨q, 0, none⟩ = false := frozen_of_row w2 q 0 _ 73 HQ2.out
          have z1 : w2.frozen? ⟨q, 1, none⟩ = false := frozen_of_row w2 q 1 _ 73 HQ2.out
          clear a0 a1
          go_wp2
          go_roundg rest.length
          case measure => simp
          case rel =>
            obtain ⟨t1, t2, t3, t4⟩ := take_step hB HK HB HW1 HQ HALL HARR HFO HFA (by omega) (HMN.out.trans HM.out) HO HG HQ2 HR2 HG2 hBg H78 _ rfl
            exact ⟨done ++ [m], rest, rfl, Lib.hid (by rw [← HD.out]; simp), Lib.hid (run_snoc HRUN.out (HMN.out.trans HM.out)), t1, t2, t3, t4⟩
        · have hd : (m.n == next + (done.length : Int)) = false := by simpa using hm
          have HMNE := Lib.hid hm
          obtain ⟨mn, hmn⟩ : ∃ mn, m.n = mn := ⟨_, rfl⟩
          rw [hmn] at k0 hd
          clear hm hmn
          have hd0 : decide ((0 : Int) < (xs.length : Int) + 1) = true := by simp
          have hd1 : (0 : Int) < (xs.length : Int) + 1 := by omega
          go_wp2
          go_quiet (fail)
          go_wp2
          go_ret
          exact take_end (v := u3) HD HRUN HQ HF HK HB (fun m' r h => by injection h with h1; subst h1; exact HMNE.out) _
end Go.Proofs.Ytpmgobiakgffiaa
