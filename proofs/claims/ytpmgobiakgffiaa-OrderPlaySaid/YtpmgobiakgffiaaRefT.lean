import Derived.Test.YtpmgobiakgffiaaProg
import Derived.Test.YtpmgobiakgffiaaIns
import Derived.Test.YtpmgobiakgffiaaDel
import Derived.Test.YtpmgobiakgffiaaFr
import Derived.Test.YtpmgobiakgffiaaSame
import Derived.Test.YtpmgobiakgffiaaPut2
import Derived.Test.YtpmgobiakgffiaaTake
import Derived.Test.YtpmgobiakgffiaaRef
import Derived.Deep.LoopGhost
import Derived.Test.YtpmgobiakgffiaaSmall
import Derived.WalkKit
import Derived.Handy
import Derived.Deep.QuietTactic
import Derived.BigQuiet
import Derived.WalkSpells
import Derived.WalkLawsBesides
import Derived.Outline
import Derived.Lib.Hide
import Derived.Deep.DeepFit
import Derived.StillTailTactics
import Derived.Deep.RegionHeld3
import Derived.Deep.RegionWith
namespace Go.Proofs.Ytpmgobiakgffiaa
open Go.RowKit
/-- The reference's table holds what waits. -/
def Tab (w : World) (next : Int) (h : Nat → Bool) (g : Nat → Nine) (ms : List M) : Prop :=
  (∀ i : Nat, i < 9 → (h i = true ↔ ∃ m, m ∈ ms ∧ m.n = next + i)) ∧ ∀ i : Nat, i < 9 → ∀ m, m ∈ ms → m.n = next + i → Fr w 0 (g i).arr m.a m.b m.c
theorem Tab.nums {w w' : World} {next : Int} {h : Nat → Bool} {g : Nat → Nine} {ms : List M} (t : Tab w next h g ms) (hn : Nums w w') : Tab w' next h g ms :=
  ⟨t.1, fun i hi m hm e => (t.2 i hi m hm e).nums hn⟩
/-- The reference's queue. -/
def RS (w : World) (x : Nat) (next : Int) (ms : List M) : Prop := ∃ h g, RB w x next h g ∧ Tab w next h g ms
theorem RS.keep {w w' : World} {x : Nat} {next : Int} {ms : List M} (r : RS w x next ms) (hk : Keep w w') : RS w' x next ms := by
  obtain ⟨h, g, r, t⟩ := r
  exact ⟨h, g, r.keep hk, t.nums hk.nums⟩
theorem RS.below {w w' : World} {x : Nat} {next : Int} {ms : List M} (r : RS w x next ms) (hk : Below w.heap.size w w') : RS w' x next ms := r.keep (Keep.below hk)
def shl {α : Type} (f : Nat → α) (i j : Nat) : α := if j < i then f (j + 1) else f j
theorem shl_zero {α : Type} (f : Nat → α) : shl f 0 = f := by funext j; simp [shl]
theorem shl_at {α : Type} (f : Nat → α) (i : Nat) : shl f i (i + 1) = f (i + 1) := if_neg (by omega)
theorem shl_upd {α : Type} (f : Nat → α) (i : Nat) : upd (shl f i) i (f (i + 1)) = shl f (i + 1) := by
  funext j
  unfold upd shl
  by_cases h : j = i
  · subst h; rw [if_pos rfl, if_pos (by omega)]
  · rw [if_neg h]
    by_cases h2 : j < i
    · rw [if_pos h2, if_pos (by omega)]
    · rw [if_neg h2, if_neg (by omega)]
theorem good_ge {next : Int} {ms : List M} (h : Good next ms) : ∀ m, m ∈ ms → next ≤ m.n ∧ m.n ≤ next + 8 := by
  intro m hm
  obtain ⟨i, hi, e⟩ := List.getElem_of_mem hm
  have := h.2.2.1 i hi
  simp only [nthM, List.getD_eq_getElem?_getD, hi, List.getElem?_eq_getElem, Option.getD_some, e] at this
  omega
theorem good_tail {next : Int} {m : M} {ms : List M} (h : Good next (m :: ms)) : ∀ x, x ∈ ms → m.n < x.n := by
  intro x hx
  obtain ⟨i, hi, e⟩ := List.getElem_of_mem hx
  have := h.2.2.2 0 (i + 1) (by omega) (by simpa using hi)
  simpa [nthM, hi, e] using this
theorem Tab.first {w : World} {next : Int} {h : Nat → Bool} {g : Nat → Nine} {ms : List M} (t : Tab w next h g ms) (hg : Good next ms) : (h 0 = true → ∃ m r, ms = m :: r ∧ m.n = next ∧ Fr w 0 (g 0).arr m.a m.b m.c) ∧ (h 0 = false → ∀ m r, ms = m :: r → m.n ≠ next) := by
  refine ⟨fun e => ?_, fun e m r hms hn => ?_⟩
  · obtain ⟨m, hm, hn⟩ := (t.1 0 (by omega)).1 e
    cases ms with
    | nil => simp at hm
    | cons m0 r =>
      have h0 := (good_ge hg m0 (by simp)).1
      have : m = m0 := by
        rcases List.mem_cons.1 hm with h | h
        · exact h
        · have := good_tail hg m h; simp at hn; omega
      subst this
      exact ⟨m, r, rfl, by simpa using hn, t.2 0 (by omega) m (by simp) hn⟩
  · subst hms
    have : h 0 = true := (t.1 0 (by omega)).2 ⟨m, by simp, by simpa using hn⟩
    rw [e] at this
    exact absurd this (by decide)
theorem Tab.step {w : World} {next : Int} {h : Nat → Bool} {g : Nat → Nine} {m : M} {r : List M} (t : Tab w next h g (m :: r)) (hg : Good next (m :: r)) (hm : m.n = next) : Tab w (next + 1) (upd (shl h 8) 8 false) (shl g 8) r := by
  refine ⟨fun i hi => ?_, fun i hi m' hm' e => ?_⟩
  · by_cases h8 : i = 8
    · subst h8
      rw [upd_same]
      refine ⟨(fun e => by cases e), fun ⟨m', hm', e⟩ => ?_⟩
      have := (good_ge hg m' (by simp [hm'])).2
      omega
    · rw [upd_ne _ _ _ _ h8]
      unfold shl
      rw [if_pos (by omega)]
      rw [t.1 (i + 1) (by omega)]
      refine ⟨fun ⟨m', hm', e⟩ => ⟨m', ?_, by omega⟩, fun ⟨m', hm', e⟩ => ⟨m', by simp [hm'], by omega⟩⟩
      rcases List.mem_cons.1 hm' with h | h
      · subst h; omega
      · exact h
  · have h8 : i < 8 := by have := (good_ge hg m' (by simp [hm'])).2; omega
    unfold shl
    rw [if_pos h8]
    exact t.2 (i + 1) (by omega) m' (by simp [hm']) (by omega)
theorem Frs.keepR {w w' : World} {W : Nat} {v : Value} {ms : List M} (h : Frs w W v ms) (hk : KeepR w w') : Frs w' W v ms := by
  obtain ⟨fs, ho, ha⟩ := h
  refine ⟨fs, ⟨ho.1, ?_⟩, ha.imp (fun _ _ f => f.nums hk.nums)⟩
  rcases ho.2 with h0 | ⟨g, cap, cur, e, hb, hg, r⟩
  · exact .inl h0
  · exact .inr ⟨g, cap, cur, e, hb, hk.2 g cur 31 _ hg (by decide), r⟩
/-- What the reference's Take leaves. -/
def TakeR (B x : Nat) (next : Int) (ms : List M) (w : World) (e : Ending) (w' : World) : Prop :=
  ∃ done rest v, done ++ rest = ms ∧ Run next done ∧ (∀ m r, rest = m :: r → m.n ≠ next + done.length) ∧ e = .returned v ∧ Frs w' w.heap.size v done ∧ RS w' x (next + done.length) rest ∧ KeepR w w' ∧ (B ≤ x → B ≤ w.heap.size → Below B w w')
theorem appR {w wr W1 w1 : World} {B x : Nat} {next : Int} {h : Nat → Bool} {g : Nat → Nine} {ms done : List M} {fs : List (Array Value)} {u v4 : Value} {p0 c0 p1 c1 p2 c2 : Nat} {m : M}
    (hR : Hid (RB wr x next h g)) (hT : Hid (Tab wr next h g ms)) (hfo : Hid (wr.ownsRow w.heap.size 31 9 u fs.length (rows fs))) (hfa : Hid (All2 (fun f m => Fr wr 0 f m.a m.b m.c) fs done))
    (hf : Hid (Fr wr 0 (fr9 p0 c0 p1 c1 p2 c2) m.a m.b m.c)) (hw1 : Hid (Below wr.heap.size wr W1)) (ho : Hid (w1.ownsRow w.heap.size 31 9 v4 (fs.length + 1) (rows fs ++ (fr9 p0 c0 p1 c1 p2 c2).toList))) (hg : Hid (W1.grownBy w1 u.ownBlock))
    (hk : Hid (KeepR w wr)) (hb : Hid (B ≤ x → B ≤ w.heap.size → Below B w wr)) :
    Hid (RB w1 x next h g) ∧ Hid (Tab w1 next h g ms) ∧ Hid (Frs w1 w.heap.size v4 (done ++ [m])) ∧ Hid (KeepR w w1) ∧ Hid (B ≤ x → B ≤ w.heap.size → Below B w w1) := by
  have ho1 : Only31 wr w1 := only31_of hfo.out hw1.out hg.out
  have hown : ∀ g', u.ownBlock = some g' → w.heap.size ≤ g' := fun g' e => (World.ownsRow.lt hfo.out g' e).1
  refine ⟨?_, Lib.hid (hT.out.nums ho1.nums), Lib.hid ⟨fs ++ [fr9 p0 c0 p1 c1 p2 c2], ?_, ?_⟩, ?_, ?_⟩
  · obtain ⟨cur, hh, r⟩ := hR.out
    exact Lib.hid ⟨cur, ho1.2 x cur 46 _ hh (by decide), r⟩
  · have := ho.out
    rw [rows_snoc, List.length_append, List.length_singleton]
    exact this
  · exact (hfa.out.imp (fun _ _ k => k.nums ho1.nums)).append ⟨hf.out.nums ho1.nums, trivial⟩
  · refine Lib.hid ⟨Nat.le_trans hk.out.1 (Nat.le_trans hw1.out.size hg.out.size), fun k cur t fr hk1 ht => ?_⟩
    have hlt := (Array.getElem?_eq_some_iff.1 hk1).1
    have hlt2 := Nat.lt_of_lt_of_le hlt hk.out.1
    exact (hg.out.block k (Nat.lt_of_lt_of_le hlt2 hw1.out.size) (fun e => by have := hown k e.symm; omega)).trans ((hw1.out.block k hlt2).trans (hk.out.2 k cur t fr hk1 ht))
  · refine Lib.hid (fun h1 h2 => ?_)
    have h3 := hb.out h1 h2
    have h4 : B ≤ wr.heap.size := Nat.le_trans h2 h3.size
    exact (h3.trans (hw1.out.mono h4)).grown hg.out (Nat.le_trans h4 hw1.out.size) (fun k e => Nat.le_trans h2 (hown k e))
theorem good_rest {next : Int} {m : M} {ms : List M} (h : Good next (m :: ms)) (hm : m.n = next) (hn : next ≤ 2000000) : Good (next + 1) ms := good_next h hm hn
set_option maxHeartbeats 4000000 in
set_option maxRecDepth 100000 in
theorem f17_any (B x : Nat) (next : Int) (ms : List M) (w : World) (hq : Hid (RS w x next ms)) (hgd : Hid (Good next ms)) (hnx : next ≤ 1000000) :
    Calls Try.prog 17 #[.pointer (some ⟨x, 0, none⟩)] w (TakeR B x next ms w) := by
  obtain ⟨q0, hi0, hz0, hzs, hzb⟩ := info_parts info31
  have hxw : x < w.heap.size := by obtain ⟨_, _, r, _⟩ := hq.out; exact r.lt
  go_enter Try.func17, Try.ntmps17
  go_wp2
  go_loopg [3] (ms.length) (fun k v3 wr => ∃ (done rest : List M) (h : Nat → Bool) (g : Nat → Nine), k = rest.length ∧ Hid (done ++ rest = ms) ∧ Hid (Run next done) ∧ Hid (Good (next + done.length) rest) ∧ Hid (RB wr x (next + done.length) h g) ∧ Hid (Tab wr (next + done.length) h g rest) ∧ Hid (Frs wr w.heap.size v3 done) ∧ Hid (KeepR w wr) ∧ Hid (B ≤ x → B ≤ w.heap.size → Below B w wr))
  case atStart =>
    obtain ⟨h, g, hr, ht⟩ := hq.out
    exact ⟨[], ms, h, g, rfl, Lib.hid rfl, Lib.hid (fun i hi => by simp at hi), Lib.hid (by simpa using hgd.out), Lib.hid (by simpa using hr), Lib.hid (by simpa using ht), Lib.hid ⟨[], World.ownsRow_nil _ _ _ _, trivial⟩, Lib.hid (KeepR.refl w), Lib.hid (fun _ _ => Below.refl B w)⟩
  case round =>
    obtain ⟨done, rest, h, g, rfl, HD, HRUN, HGD, HR, HT, HF, HK, HB⟩ := hrel
    obtain ⟨hT1, hT0⟩ := HT.out.first HGD.out
    have hW : w.heap.size ≤ wr.heap.size := HK.out.1
    have hx := HR.out.lt
    have e0 : wr.cell? ⟨x, 1, none⟩ = some (.bool (h 0)) := HR.out.ch 0 (by omega)
    cases hh0 : h 0 with
    | false =>
      rw [hh0] at e0
      have hne := hT0 hh0
      have HNE := Lib.hid hne
      clear hT1 hT0 hne hh0
      go_wp2
      go_ret
      exact ⟨done, rest, u3, HD.out, HRUN.out, HNE.out, rfl, HF.out, ⟨h, g, HR.out, HT.out⟩, HK.out, HB.out⟩
    | true =>
      rw [hh0] at e0
      obtain ⟨m, r, hrr, hmn, hfr⟩ := hT1 hh0
      subst hrr
      have HMN := Lib.hid hmn
      clear hT1 hT0 hh0 hmn
      obtain ⟨p0, c0, p1, c1, p2, c2, hg9, hv0, hv1, hv2⟩ := hfr
      have HFR : Hid (Fr wr 0 (fr9 p0 c0 p1 c1 p2 c2) m.a m.b m.c) := Lib.hid ⟨p0, c0, p1, c1, p2, c2, rfl, hv0, hv1, hv2⟩
      clear hv0 hv1 hv2
      have gc : ∀ t, t < 9 → wr.cell? ⟨x, 10 + 0 * 9 + t, none⟩ = (fr9 p0 c0 p1 c1 p2 c2)[t]? := fun t ht => by rw [← hg9]; exact HR.out.cg 0 t (by omega) ht
      have k0 : wr.cell? ⟨x, 10, none⟩ = some (.int .i64 1) := gc 0 (by omega)
      have k1 : wr.cell? ⟨x, 11, none⟩ = some (.int .i64 1) := gc 1 (by omega)
      have k2 : wr.cell? ⟨x, 12, none⟩ = some (.slice (some ⟨p0, 0, none⟩) 1 c0) := gc 2 (by omega)
      have k3 : wr.cell? ⟨x, 13, none⟩ = some (.int .i64 1) := gc 3 (by omega)
      have k4 : wr.cell? ⟨x, 14, none⟩ = some (.int .i64 1) := gc 4 (by omega)
      have k5 : wr.cell? ⟨x, 15, none⟩ = some (.slice (some ⟨p1, 0, none⟩) 1 c1) := gc 5 (by omega)
      have k6 : wr.cell? ⟨x, 16, none⟩ = some (.int .i64 1) := gc 6 (by omega)
      have k7 : wr.cell? ⟨x, 17, none⟩ = some (.int .i64 1) := gc 7 (by omega)
      have k8 : wr.cell? ⟨x, 18, none⟩ = some (.slice (some ⟨p2, 0, none⟩) 1 c2) := gc 8 (by omega)
      clear gc hg9
      obtain ⟨fs, hfo, hfa⟩ := HF.out
      have HFO := Lib.hid hfo; have HFA := Lib.hid hfa
      have hfl : fs.length ≤ 9 := by
        have h9 := good_len hgd.out
        have h2 := HD.out
        have h3 := HFA.out.length
        rw [← h2, List.length_append] at h9
        omega
      have hdl : done.length ≤ 9 := by have := HFA.out.length; omega
      clear hfo hfa
      go_wp2_with (at_builtin; refine wpList_append_own _ rfl _ _ 35 rfl w.heap.size 31 q0 zero31 9 120 Try.underlying35 hi0 hz0 hzs hzb rfl (by decide) _ fs.length (rows fs) rfl ?c0 ⟨wr.heap.size, 0, none⟩ 1 1 (fr9 p0 c0 p1 c1 p2 c2).toList rfl rfl ?c1 ?c2 ?c3 ?c4 ?c5 ?_)
      case c0 => exact World.ownsRow.alloc (w := wr) HFO.out _
      case c1 => exact fun j u hj => by rw [Addr.add_lit]; refine (cell_of_row _ wr.heap.size (0 + j) (fr9 p0 c0 p1 c1 p2 c2) 31 (0, 0) (blk_at _ _ _ rfl)).trans ?_; rw [Nat.zero_add]; simpa using hj
      case c2 => exact fun u hu => by simp only [fr9, List.mem_cons, List.not_mem_nil, or_false] at hu; rcases hu with rfl | rfl | rfl | rfl | rfl | rfl | rfl | rfl | rfl <;> rfl
      case c3 => unfold maxLen; omega
      case c4 => omega
      case c5 => simp; omega
      intro v4 w1 ho hg _
      have HW1 : Hid (Below wr.heap.size wr (wr.alloc (.cells #[.int .i64 1, .int .i64 1, .slice (some ⟨p0, 0, none⟩) 1 c0, .int .i64 1, .int .i64 1, .slice (some ⟨p1, 0, none⟩) 1 c1, .int .i64 1, .int .i64 1, .slice (some ⟨p2, 0, none⟩) 1 c2] 31))) := Lib.hid ((Below.refl _ _).alloc (Nat.le_refl _) _)
      obtain ⟨R1, T1, F1, K1, B1⟩ := appR HR HT HFO HFA HFR HW1 (Lib.hid ho) (Lib.hid hg) HK HB
      clear ho hg HW1 HFO HFA HFR HR HT HF HK HB hx hW
      clear k0 k1 k2 k3 k4 k5 k6 k7 k8 e0
      obtain ⟨nx, hnxe⟩ : ∃ nx : Int, nx = next + done.length := ⟨_, rfl⟩
      have hnx0 : 0 ≤ nx ∧ nx ≤ 2000000 := by have := hgd.out.1; omega
      have HNX := Lib.hid hnxe
      rw [← hnxe] at R1 T1 HGD HMN
      clear hnxe
      go_wp2
      go_loopw [4] (fun v4' wq => ∃ i : Nat, v4' = .int .i64 i ∧ i ≤ 8 ∧ Hid (RB wq x nx (shl h i) (shl g i)) ∧ Hid (KeepR w1 wq) ∧ Hid (B ≤ x → B ≤ w.heap.size → Below B w wq)) (fun v _ => (8 - intOf v).toNat)
      case atStart => exact ⟨0, rfl, by omega, by rw [shl_zero, shl_zero]; exact R1, Lib.hid (KeepR.refl _), B1⟩
      case round =>
        obtain ⟨i, rfl, hi8, HQ, HKQ, HBQ⟩ := hrel
        by_cases hlt : i < 8
        · have RQ := HQ.out
          have hx := RQ.lt
          have q1 : wr.cell? ⟨x, 1 + (i + 1), none⟩ = some (.bool (h (i + 1))) := by have := RQ.ch (i + 1) (by omega); rw [shl_at] at this; exact this
          have q0 : wr.cell? ⟨x, 1 + i, none⟩ = some (.bool (shl h i i)) := RQ.ch i (by omega)
          have qz : wr.frozen? ⟨x, 1 + i, none⟩ = false := RQ.fz _
          clear RQ
          go_wp2
          go_region
          obtain ⟨wS, hwS⟩ : ∃ wS, wS = (wr.setCell ⟨x, 1 + i, none⟩ (.bool (h (i + 1)))).drew := ⟨_, rfl⟩
          have RQ : RB wS x nx (shl h (i + 1)) (shl g i) := by rw [hwS, ← shl_upd]; exact (HQ.out.seth i (by omega) (h (i + 1))).below ((Below.refl _ _).drew)
          have KS : Hid (KeepR w1 wS) := by rw [hwS]; exact Lib.hid (HKQ.out.trans ((KeepR.set HQ.out _ _).trans (KeepR.below ((Below.refl _ _).drew))))
          have BS : Hid (B ≤ x → B ≤ w.heap.size → Below B w wS) := by rw [hwS]; exact Lib.hid (fun h1 h2 => ((HBQ.out h1 h2).setCell (by exact h1) _).drew)
          rw [← hwS]
          clear hwS q0 q1 qz hx HQ HKQ HBQ
          have s0 : wS.cell? ⟨x, 10 + (i + 1) * 9, none⟩ = some (.int .i64 (g (i + 1)).a0) := by have := RQ.cg (i + 1) 0 (by omega) (by omega); rw [shl_at] at this; exact this
          have d0 : wS.cell? ⟨x, 10 + i * 9, none⟩ = some (.int .i64 (shl g i i).a0) := RQ.cg i 0 (by omega) (by omega)
          have y0 : wS.frozen? ⟨x, 10 + i * 9, none⟩ = false := RQ.fz _
          have s1 : wS.cell? ⟨x, 10 + (i + 1) * 9 + 1, none⟩ = some (.int .i64 (g (i + 1)).a1) := by have := RQ.cg (i + 1) 1 (by omega) (by omega); rw [shl_at] at this; exact this
          have d1 : wS.cell? ⟨x, 10 + i * 9 + 1, none⟩ = some (.int .i64 (shl g i i).a1) := RQ.cg i 1 (by omega) (by omega)
          have y1 : wS.frozen? ⟨x, 10 + i * 9 + 1, none⟩ = false := RQ.fz _
          have s2 : wS.cell? ⟨x, 10 + (i + 1) * 9 + 2, none⟩ = some (.slice (g (i + 1)).A2 (g (i + 1)).n2 (g (i + 1)).c2) := by have := RQ.cg (i + 1) 2 (by omega) (by omega); rw [shl_at] at this; exact this
          have d2 : wS.cell? ⟨x, 10 + i * 9 + 2, none⟩ = some (.slice (shl g i i).A2 (shl g i i).n2 (shl g i i).c2) := RQ.cg i 2 (by omega) (by omega)
          have y2 : wS.frozen? ⟨x, 10 + i * 9 + 2, none⟩ = false := RQ.fz _
          have s3 : wS.cell? ⟨x, 10 + (i + 1) * 9 + 3, none⟩ = some (.int .i64 (g (i + 1)).a3) := by have := RQ.cg (i + 1) 3 (by omega) (by omega); rw [shl_at] at this; exact this
          have d3 : wS.cell? ⟨x, 10 + i * 9 + 3, none⟩ = some (.int .i64 (shl g i i).a3) := RQ.cg i 3 (by omega) (by omega)
          have y3 : wS.frozen? ⟨x, 10 + i * 9 + 3, none⟩ = false := RQ.fz _
          have s4 : wS.cell? ⟨x, 10 + (i + 1) * 9 + 4, none⟩ = some (.int .i64 (g (i + 1)).a4) := by have := RQ.cg (i + 1) 4 (by omega) (by omega); rw [shl_at] at this; exact this
          have d4 : wS.cell? ⟨x, 10 + i * 9 + 4, none⟩ = some (.int .i64 (shl g i i).a4) := RQ.cg i 4 (by omega) (by omega)
          have y4 : wS.frozen? ⟨x, 10 + i * 9 + 4, none⟩ = false := RQ.fz _
          have s5 : wS.cell? ⟨x, 10 + (i + 1) * 9 + 5, none⟩ = some (.slice (g (i + 1)).A5 (g (i + 1)).n5 (g (i + 1)).c5) := by have := RQ.cg (i + 1) 5 (by omega) (by omega); rw [shl_at] at this; exact this
          have d5 : wS.cell? ⟨x, 10 + i * 9 + 5, none⟩ = some (.slice (shl g i i).A5 (shl g i i).n5 (shl g i i).c5) := RQ.cg i 5 (by omega) (by omega)
          have y5 : wS.frozen? ⟨x, 10 + i * 9 + 5, none⟩ = false := RQ.fz _
          have s6 : wS.cell? ⟨x, 10 + (i + 1) * 9 + 6, none⟩ = some (.int .i64 (g (i + 1)).a6) := by have := RQ.cg (i + 1) 6 (by omega) (by omega); rw [shl_at] at this; exact this
          have d6 : wS.cell? ⟨x, 10 + i * 9 + 6, none⟩ = some (.int .i64 (shl g i i).a6) := RQ.cg i 6 (by omega) (by omega)
          have y6 : wS.frozen? ⟨x, 10 + i * 9 + 6, none⟩ = false := RQ.fz _
          have s7 : wS.cell? ⟨x, 10 + (i + 1) * 9 + 7, none⟩ = some (.int .i64 (g (i + 1)).a7) := by have := RQ.cg (i + 1) 7 (by omega) (by omega); rw [shl_at] at this; exact this
          have d7 : wS.cell? ⟨x, 10 + i * 9 + 7, none⟩ = some (.int .i64 (shl g i i).a7) := RQ.cg i 7 (by omega) (by omega)
          have y7 : wS.frozen? ⟨x, 10 + i * 9 + 7, none⟩ = false := RQ.fz _
          have s8 : wS.cell? ⟨x, 10 + (i + 1) * 9 + 8, none⟩ = some (.slice (g (i + 1)).A8 (g (i + 1)).n8 (g (i + 1)).c8) := by have := RQ.cg (i + 1) 8 (by omega) (by omega); rw [shl_at] at this; exact this
          have d8 : wS.cell? ⟨x, 10 + i * 9 + 8, none⟩ = some (.slice (shl g i i).A8 (shl g i i).n8 (shl g i i).c8) := RQ.cg i 8 (by omega) (by omega)
          have y8 : wS.frozen? ⟨x, 10 + i * 9 + 8, none⟩ = false := RQ.fz _
          have HRQ := Lib.hid RQ
          clear RQ
          go_wp2
          go_region
          go_wp2
          go_roundw
          case rel => exact ⟨i + 1, by go_num, by omega, Lib.hid (by rw [← shl_upd g i]; exact (HRQ.out.setg i (by omega) (g (i + 1))).below ((Below.refl _ _).drew)), Lib.hid (KS.out.trans ((KeepR.setg HRQ.out _ _ _ _ _ _ _ _ _ _ _ _ _ _ _ _ _ _).trans (KeepR.below (Below.refl _ _).drew))), Lib.hid (fun h1 h2 => (((((((((((BS.out h1 h2).setCell (by exact h1) _).setCell (by exact h1) _).setCell (by exact h1) _).setCell (by exact h1) _).setCell (by exact h1) _).setCell (by exact h1) _).setCell (by exact h1) _).setCell (by exact h1) _).setCell (by exact h1) _).drew))⟩
          case measure => simp [intOf]; omega
        · obtain rfl : i = 8 := by omega
          have hx := HQ.out.lt
          have q8 : wr.cell? ⟨x, 9, none⟩ = some (.bool (shl h 8 8)) := HQ.out.ch 8 (by omega)
          have z8 : wr.frozen? ⟨x, 9, none⟩ = false := HQ.out.fz _
          have q0 : wr.cell? ⟨x, 0, none⟩ = some (.int .i64 nx) := HQ.out.c0
          have z0 : wr.frozen? ⟨x, 0, none⟩ = false := HQ.out.fz _
          go_wp2
          go_roundg r.length
          case measure => simp
          case rel =>
            have e1 : next + ((done ++ [m]).length : Nat) = nx + 1 := by have := HNX.out; simp; omega
            have R2 := (HQ.out.seth 8 (by omega) false).set0 (nx + 1)
            have K2 : KeepR w1 ((wr.setCell ⟨x, 9, none⟩ (.bool false)).setCell ⟨x, 0, none⟩ (.int .i64 (nx + 1))) := HKQ.out.trans ((KeepR.set HQ.out 9 (.bool false)).trans (KeepR.set (HQ.out.seth 8 (by omega) false) 0 (.int .i64 (nx + 1))))
            refine ⟨done ++ [m], r, upd (shl h 8) 8 false, shl g 8, rfl, Lib.hid (by rw [← HD.out]; simp), Lib.hid (run_snoc HRUN.out (by rw [← HNX.out]; exact HMN.out)), ?_, ?_, ?_, ?_, ?_, ?_⟩
            · rw [e1]; exact Lib.hid (good_next HGD.out HMN.out (by omega))
            · rw [e1]; exact Lib.hid R2
            · rw [e1]; exact Lib.hid ((T1.out.step HGD.out HMN.out).nums K2.nums)
            · exact Lib.hid (F1.out.keepR K2)
            · exact Lib.hid (K1.out.trans K2)
            · exact Lib.hid (fun h1 h2 => ((HBQ.out h1 h2).setCell (by exact h1) _).setCell (by exact h1) _)
end Go.Proofs.Ytpmgobiakgffiaa
