import Derived.Test.YtpmgobiakgffiaaProg
import Derived.Test.YtpmgobiakgffiaaIns
import Derived.Test.YtpmgobiakgffiaaDel
import Derived.Test.YtpmgobiakgffiaaFr
import Derived.Test.YtpmgobiakgffiaaSame
import Derived.Test.YtpmgobiakgffiaaPut2
import Derived.Test.YtpmgobiakgffiaaTake
import Derived.Test.YtpmgobiakgffiaaRef
import Derived.Test.YtpmgobiakgffiaaRefT
import Derived.Test.YtpmgobiakgffiaaRefW
import Derived.Test.YtpmgobiakgffiaaRefP
import Derived.Test.YtpmgobiakgffiaaFirst
import Derived.Test.YtpmgobiakgffiaaCall
import Derived.Deep.LoopGhost
import Derived.Deep.CutRange
import Derived.Test.YtpmgobiakgffiaaSmall
import Derived.WalkKit
import Derived.Handy
import Derived.Deep.QuietTactic
import Derived.BigQuiet
import Derived.WalkSpells
import Derived.WalkLawsBesides
import Derived.Outline
import Derived.Lib.Hide
import Derived.Deep.DeepFit
import Derived.StillTailTactics
import Derived.Deep.RegionHeld3
import Derived.Deep.RegionWith
namespace Go.Proofs.Ytpmgobiakgffiaa
open Go.RowKit
def z9 : Nine := ⟨0, 0, none, 0, 0, 0, 0, none, 0, 0, 0, 0, none, 0, 0⟩
theorem RS.new (w : World) : RS (w.alloc (.cells Try.zeroCells46 46)) w.heap.size 0 [] := by
  refine ⟨fun _ => false, fun _ => z9, ⟨Try.zeroCells46, heap_alloc_new w _, by kernel_rfl, by kernel_rfl, fun i hi => ?_, fun i hi t ht => ?_⟩, ?_, ?_⟩
  · have h9 : i = 0 ∨ i = 1 ∨ i = 2 ∨ i = 3 ∨ i = 4 ∨ i = 5 ∨ i = 6 ∨ i = 7 ∨ i = 8 := by omega
    rcases h9 with rfl | rfl | rfl | rfl | rfl | rfl | rfl | rfl | rfl <;> rfl
  · have h9 : i = 0 ∨ i = 1 ∨ i = 2 ∨ i = 3 ∨ i = 4 ∨ i = 5 ∨ i = 6 ∨ i = 7 ∨ i = 8 := by omega
    have t9 : t = 0 ∨ t = 1 ∨ t = 2 ∨ t = 3 ∨ t = 4 ∨ t = 5 ∨ t = 6 ∨ t = 7 ∨ t = 8 := by omega
    rcases h9 with rfl | rfl | rfl | rfl | rfl | rfl | rfl | rfl | rfl <;> rcases t9 with rfl | rfl | rfl | rfl | rfl | rfl | rfl | rfl | rfl <;> rfl
  · exact fun i _ => ⟨(fun h => by cases h), fun ⟨m, hm, _⟩ => by simp at hm⟩
  · exact fun i _ m hm => by simp at hm
theorem box_of {w w' : World} {g : Nat} (h : ∀ cs, w.heap[g]? = some (Obj.cells cs 48 (0, 0)) → w'.heap[g]? = some (Obj.cells cs 48 (0, 0))) (hg : Hid (∃ cs, w.heap[g]? = some (Obj.cells cs 48 (0, 0)))) : (∀ o, w'.cell? ⟨g, o, none⟩ = w.cell? ⟨g, o, none⟩) ∧ Hid (∃ cs, w'.heap[g]? = some (Obj.cells cs 48 (0, 0))) := by
  obtain ⟨cs, hg⟩ := hg.out
  have hg' := h cs hg
  exact ⟨fun o => (cell_of_row w' g o cs 48 (0, 0) hg').trans (cell_of_row w g o cs 48 (0, 0) hg).symm, ⟨cs, hg'⟩⟩
theorem box_keep {w w' : World} {g : Nat} (h : Hid (Keep w w')) (hg : Hid (∃ cs, w.heap[g]? = some (Obj.cells cs 48 (0, 0)))) : (∀ o, w'.cell? ⟨g, o, none⟩ = w.cell? ⟨g, o, none⟩) ∧ Hid (∃ cs, w'.heap[g]? = some (Obj.cells cs 48 (0, 0))) :=
  box_of (fun cs hc => h.out.2 g cs 48 _ hc (by decide) (by decide)) hg
theorem box_keepR {w w' : World} {g : Nat} (h : Hid (KeepR w w')) (hg : Hid (∃ cs, w.heap[g]? = some (Obj.cells cs 48 (0, 0)))) : (∀ o, w'.cell? ⟨g, o, none⟩ = w.cell? ⟨g, o, none⟩) ∧ Hid (∃ cs, w'.heap[g]? = some (Obj.cells cs 48 (0, 0))) :=
  box_of (fun cs hc => h.out.2 g cs 48 _ hc (by decide)) hg
theorem put_rc (B q lo : Nat) (next n a b c rc : Int) (ms : List M) (f : Array Value) (w : World) (hB : B ≤ w.heap.size) (hq : Hid (QS w B q next ms)) (hf : Hid (Fr w lo f a b c)) (h3 : n ≤ 9223372036854775807) (hrc : Hid (code next n ms = rc)) :
    Calls Try.prog 11 #[.pointer (some ⟨q, 0, none⟩), .int .i64 n, .agg f] w fun e w' => e = .returned (.int .i64 rc) ∧ ∃ ms', Hid (After next n a b c ms ms') ∧ Hid (QS w' B q next ms') ∧ Hid (Keep w w') ∧ Hid (Below B w w') := by
  rw [← hrc.out]; exact put_all B q lo next n a b c ms f w hB hq hf h3
theorem putR_rc (B x : Nat) (next n a b c rc : Int) (ms : List M) (lo : Nat) (f : Array Value) (w : World) (hr : Hid (RS w x next ms)) (hf : Hid (Fr w lo f a b c)) (h0 : Hid (0 ≤ next ∧ next ≤ 1000000)) (hBx : Hid (B ≤ x)) (hB : B ≤ w.heap.size) (hrc : Hid (code next n ms = rc)) :
    Calls Try.prog 16 #[.pointer (some ⟨x, 0, none⟩), .int .i64 n, .agg f] w fun e w' => e = .returned (.int .i64 rc) ∧ Hid (∀ ms', After next n a b c ms ms' → RS w' x next ms') ∧ Hid (KeepR w w') ∧ Hid (Below B w w') := by
  rw [← hrc.out]; exact putR_all B x next n a b c ms lo f w hr hf h0.out hBx.out hB
theorem nil_put (B : Nat) (lo : Nat) (n a b c : Int) (f : Array Value) (w : World) (hB : B ≤ w.heap.size) (hf : Hid (Fr w lo f a b c)) : Calls Try.prog 11 #[.pointer none, .int .i64 n, .agg f] w fun e w' => e = .returned (.int .i64 1) ∧ Hid (Keep w w') ∧ Hid (Below B w w') ∧ Hid (Below w.heap.size w w') := by
  refine (f11_nil lo n a b c f w hf).mono ?_
  rintro e w' ⟨rfl, hb⟩
  exact ⟨rfl, Keep.below hb, hb.mono hB, hb⟩
theorem After.len {next n a b c : Int} {ms ms' : List M} (h : After next n a b c ms ms') : ms'.length ≤ ms.length + 1 := by
  rcases h with ⟨_, r, _, rfl⟩ | ⟨_, rfl⟩
  · simp; omega
  · omega
theorem take_uniq {next : Int} {done done' rest rest' : List M} (h : Run next done) (h' : Run next done') (e : done ++ rest = done' ++ rest') (hn : ∀ m t, rest = m :: t → m.n ≠ next + done.length) (hn' : ∀ m t, rest' = m :: t → m.n ≠ next + done'.length) : done' = done ∧ rest' = rest := by
  have key : ∀ (n : Int) (d d' r r' : List M), Run n d → Run n d' → d ++ r = d' ++ r' → (∀ m t, r = m :: t → m.n ≠ n + d.length) → (∀ m t, r' = m :: t → m.n ≠ n + d'.length) → d' = d ∧ r' = r := by
    intro n d
    induction d generalizing n with
    | nil =>
      intro d' r r' h h' e hn hn'
      cases d' with
      | nil => exact ⟨rfl, by simpa using e.symm⟩
      | cons m d' =>
        have := h' 0 (by simp)
        exact absurd (by simpa [nthM] using this) (hn m (d' ++ r') (by simpa using e))
    | cons m d ih =>
      intro d' r r' h h' e hn hn'
      cases d' with
      | nil =>
        have := h 0 (by simp)
        exact absurd (by simpa [nthM] using this) (hn' m (d ++ r) (by simpa using e.symm))
      | cons m' d' =>
        rw [List.cons_append, List.cons_append, List.cons.injEq] at e
        obtain ⟨rfl, e⟩ := e
        have tl : ∀ l : List M, Run n (m :: l) → Run (n + 1) l := fun l hl i hi => by
          have := hl (i + 1) (by simpa using hi)
          have e1 : nthM (m :: l) (i + 1) = nthM l i := rfl
          rw [e1] at this; rw [this]; omega
        obtain ⟨e1, e2⟩ := ih (n + 1) d' r r' (tl d h) (tl d' h') e (fun x t ht => by have := hn x t ht; rw [List.length_cons] at this; intro hc; apply this; rw [hc]; omega) (fun x t ht => by have := hn' x t ht; rw [List.length_cons] at this; intro hc; apply this; rw [hc]; omega)
        exact ⟨by rw [e1], e2⟩
  exact key next done done' rest rest' h h' e hn hn'
theorem IntsAt.form {w : World} {W : Nat} {v : Value} {ns : List Int} (h : IntsAt w W v ns) : ∃ A c, v = .slice A ns.length c := by
  rcases h.2 with ⟨rfl, h0⟩ | ⟨g, cap, cur, rfl, _⟩
  · exact ⟨none, 0, by rw [h0]⟩
  · exact ⟨_, _, rfl⟩
theorem IntsAt.item {w : World} {W n c : Nat} {A : Option Addr} {ns : List Int} (h : IntsAt w W (.slice A n c) ns) (j : Nat) (hj : j < ns.length) : ∃ g, A = some ⟨g, 0, none⟩ ∧ g < w.heap.size ∧ w.cell? ⟨g, j, none⟩ = some (.int .i64 (ns.getD j 0)) := by
  rcases h.2 with ⟨_, h0⟩ | ⟨g, cap, cur, e, hb, hg, hn, hm, hs, ht⟩
  · omega
  · injection e with e1 e2 e3
    refine ⟨g, e1, (Array.getElem?_eq_some_iff.1 hg).1, (cell_of_row w g j cur 3 (0, 0) hg).trans ?_⟩
    have h1 : (cur.toList.take (ns.length * 1))[j]? = (irow ns)[j]? := by rw [ht]
    rw [List.getElem?_take, if_pos (by omega), Array.getElem?_toList] at h1
    rw [h1]
    simp [irow, hj]
theorem IntsAt.below {w w' : World} {W : Nat} {v : Value} {ns : List Int} (h : IntsAt w W v ns) (hb : Below w.heap.size w w') : IntsAt w' W v ns := by
  refine ⟨h.1, ?_⟩
  rcases h.2 with h0 | ⟨g, cap, cur, e, hb', hg, r⟩
  · exact .inl h0
  · exact .inr ⟨g, cap, cur, e, hb', (hb.block g (Array.getElem?_eq_some_iff.1 hg).1).trans hg, r⟩
theorem next_q (B q : Nat) (next : Int) (ms : List M) (w : World) (hq : Hid (QS w B q next ms)) (n : Nat) : Calls Try.prog 15 #[.pointer (some ⟨q, 0, none⟩)] (w.drewN n) fun e w' => e = .returned (.int .i64 next) ∧ w' = w.drewN n :=
  f15_any q next _ (hq.out.keep (belowN (Below.refl _ _) n)).cell0
theorem end_q (B q : Nat) (next : Int) (ms : List M) (w : World) (hq : Hid (QS w B q next ms)) (r : Int) (hr : Hid ((if ms.length = 0 then 0 else 260) = r)) (n : Nat) : Calls Try.prog 14 #[.pointer (some ⟨q, 0, none⟩)] (w.drewN n) fun e w' => e = .returned (.int .i64 r) ∧ w' = w.drewN n := by
  obtain ⟨A, c, h⟩ := (hq.out.keep (belowN (Below.refl _ _) n)).cell1
  refine (f14_any q A ms.length c _ h).mono ?_
  rintro e w' ⟨rfl, rfl⟩
  exact ⟨by rw [hr.out], rfl⟩
set_option maxHeartbeats 4000000 in
set_option maxRecDepth 100000 in
theorem f4_any (A : Option Addr) (sn sc : Nat) (w : World) (hsn : sn ≤ 9223372036854775807) (hsw : Hid (∀ i, i < sn → ∃ g o kd nn vv nr, A = some ⟨g, o, none⟩ ∧ w.cell? ⟨g, o + i * 4, none⟩ = some (.int .i64 kd) ∧ w.cell? ⟨g, o + i * 4 + 1, none⟩ = some (.int .i64 nn) ∧ w.cell? ⟨g, o + i * 4 + 2, none⟩ = some (.int .i64 vv) ∧ w.cell? ⟨g, o + i * 4 + 3, none⟩ = some (.bool nr) ∧ -9223372036854775808 ≤ kd ∧ kd ≤ 9223372036854775807 ∧ -9223372036854775808 ≤ nn ∧ nn ≤ 9223372036854775807)) : Calls Try.prog 4 #[.slice A sn sc] w fun e w' => e = .returned (.bool true) ∧ Below w.heap.size w w' := by
  obtain ⟨W, hWE⟩ : ∃ W, W = w.heap.size := ⟨_, rfl⟩
  have HWE := Lib.hid hWE
  have hW0 : W ≤ w.heap.size := by omega
  clear hWE
  go_enter Try.func4, Try.ntmps4
  go_wp2_with fail
  refine (f8_any w).mono ?_
  rintro e w1 ⟨rfl, hb1⟩
  have HB1 : Hid (Below W w w1) := Lib.hid (hb1.mono hW0)
  clear hb1
  have hW1 : W ≤ w1.heap.size := Nat.le_trans hW0 HB1.out.size
  go_wp2_with fail
  refine (new_call W w1 hW1).mono ?_
  rintro e w2 ⟨q, rfl, HQ2, HK2, HB2⟩
  have hW2 : W ≤ w2.heap.size := Nat.le_trans hW1 HB2.out.size
  go_wp2_with fail
  obtain ⟨x, hxe⟩ : ∃ x, x = w2.heap.size := ⟨_, rfl⟩
  rw [← hxe]
  have HWX : Hid (W ≤ x) := Lib.hid (by rw [hxe]; exact hW2)
  obtain ⟨w3, hw3⟩ : ∃ w3, w3 = w2.alloc (.cells Try.zeroCells46 46) := ⟨_, rfl⟩
  have HQ3 : Hid (QS w3 W q 0 []) := by rw [hw3]; exact Lib.hid (HQ2.out.keep ((Below.refl _ _).alloc (Nat.le_refl _) _))
  have HR3 : Hid (RS w3 x 0 []) := by rw [hw3, hxe]; exact Lib.hid (RS.new w2)
  have HB3 : Hid (Below W w w3) := by rw [hw3]; exact Lib.hid ((HB1.out.trans HB2.out).alloc hW2 _)
  rw [← hw3]
  clear hw3 hxe hW2 HQ2 HK2 HB2 HB1 hW1
  go_loopg [22] (sn) (fun k v22 wr => ∃ (i : Nat) (next : Int) (ms : List M), k = sn - i ∧ v22 = .int .i64 i ∧ i ≤ sn ∧ i ≤ 80 ∧ next + ms.length ≤ i ∧ Hid (QS wr W q next ms) ∧ Hid (RS wr x next ms) ∧ Hid (Below W w wr))
  case atStart => exact ⟨0, 0, [], rfl, rfl, by omega, by omega, by simp, HQ3, HR3, HB3⟩
  case round =>
    clear HQ3 HR3 HB3
    obtain ⟨i, next, ms, rfl, rfl, his, hi80, hnm, HQ, HR, HB⟩ := hrel
    have hWr : W ≤ wr.heap.size := Nat.le_trans hW0 HB.out.size
    by_cases hlt : i < sn
    · obtain ⟨g, o, kd, nn, vv, nr, hA, k0, k1, k2, k3, hk0, hk1, hk2, hk3⟩ := hsw.out i hlt
      subst hA
      have hgw : ∀ o' v, w.cell? ⟨g, o', none⟩ = some v → wr.cell? ⟨g, o', none⟩ = some v := fun o' v h => cell_later (by rw [← HWE.out]; exact HB.out) h
      replace k0 := hgw _ _ k0
      replace k1 := hgw _ _ k1
      replace k2 := hgw _ _ k2
      replace k3 := hgw _ _ k3
      clear hgw
      by_cases h80 : i < 80
      · have HN0 := Lib.hid HQ.out.good.1
        go_upto_if 33 with fail
        obtain ⟨wb, hwb⟩ : ∃ wb, wb = wr.alloc (.cells #[.int .i64 kd, .int .i64 nn, .int .i64 vv, .bool nr] 48) := ⟨_, rfl⟩
        obtain ⟨bx, hbx⟩ : ∃ bx, bx = wr.heap.size := ⟨_, rfl⟩
        have HQb : Hid (QS wb W q next ms) := by rw [hwb]; exact Lib.hid (HQ.out.keep ((Below.refl _ _).alloc (Nat.le_refl _) _))
        have HRb : Hid (RS wb x next ms) := by rw [hwb]; exact Lib.hid (HR.out.below ((Below.refl _ _).alloc (Nat.le_refl _) _))
        have HBb : Hid (Below W w wb) := by rw [hwb]; exact Lib.hid (HB.out.alloc hWr _)
        have HXb : Hid (wb.heap[bx]? = some (.cells #[.int .i64 kd, .int .i64 nn, .int .i64 vv, .bool nr] 48 (0, 0))) := by rw [hwb, hbx]; exact Lib.hid (heap_alloc_new wr _)
        rw [← hwb, ← hbx]
        clear hwb hbx HQ HR HB hWr k0 k1 k2 k3
        obtain ⟨par, hpar⟩ : ∃ b, ((IntKind.u64.wrap kd).tmod 2 == 0) = b := ⟨_, rfl⟩
        rw [hpar]
        clear hpar
        go_cut [8, 9, 10, 22] from 22 to 155 (fun v8 v9 v10 v22 wc => v22 = .int .i64 i ∧ ∃ (next' : Int) (ms' : List M), next' + ms'.length ≤ ((i + 1 : Nat) : Int) ∧ Hid (QS wc W q next' ms') ∧ Hid (RS wc x next' ms') ∧ Hid (Below W w wc))
        case first =>
          cases par with
          | true =>
            have b1 : wb.cell? ⟨bx, 1, none⟩ = some (.int .i64 nn) := (cell_of_row wb bx 1 _ 48 (0, 0) HXb.out).trans rfl
            have b3 : wb.cell? ⟨bx, 3, none⟩ = some (.bool nr) := (cell_of_row wb bx 3 _ 48 (0, 0) HXb.out).trans rfl
            have c0 : wb.cell? ⟨x, 0, none⟩ = some (.int .i64 next) := by obtain ⟨_, _, r, _⟩ := HRb.out; exact r.c0
            have hn0 : 0 ≤ next ∧ next ≤ 80 := by have := HN0.out; omega
            have hWx : W ≤ wb.heap.size := Nat.le_trans hW0 HBb.out.size
            go_upto_region 11 with fail
            go_cut [22, 45] from 22 to 155 (fun v22 v45 wc => v22 = .int .i64 i ∧ wc = wb ∧ v45 = .bool (nr && decide (-99 < nn) && decide (nn < 99)))
            case first =>
              cases nr with
              | false =>
                go_wp2_with fail
                go_meet
                case rel => exact ⟨rfl, rfl, rfl⟩
              | true =>
                by_cases h1 : -99 < nn
                · by_cases h2 : nn < 99
                  · go_wp2_with fail
                    go_meet
                    case rel => exact ⟨rfl, rfl, by simp [h1, h2]⟩
                  · go_wp2_with fail
                    go_meet
                    case rel => exact ⟨rfl, rfl, by simp [h1, h2]⟩
                · go_wp2_with fail
                  go_meet
                  case rel => exact ⟨rfl, rfl, by simp; omega⟩
            case rest =>
              obtain ⟨rfl, rfl, rfl⟩ := hcut
              obtain ⟨near, hnear⟩ : ∃ b, (nr && decide (-99 < nn) && decide (nn < 99)) = b := ⟨_, rfl⟩
              rw [hnear]
              have HNR := Lib.hid hnear
              clear hnear
              go_upto_if 45 with fail
              go_cut [8, 22] from 22 to 155 (fun v8 v22 wc' => v22 = .int .i64 i ∧ wc' = wc ∧ ∃ n' : Int, v8 = .int .i64 n' ∧ n' ≤ 9223372036854775807)
              case first =>
                cases near with
                | false =>
                  go_wp2_with fail
                  go_meet
                  case rel => exact ⟨rfl, rfl, nn, rfl, hk3⟩
                | true =>
                  have hr : -99 < nn ∧ nn < 99 := by have := HNR.out; simp at this; omega
                  go_wp2_with fail
                  go_meet
                  case rel => exact ⟨rfl, rfl, nn + next, rfl, by omega⟩
              case rest =>
                obtain ⟨rfl, rfl, n', rfl, hn'⟩ := hcut
                go_upto_region 13 with fail
                obtain ⟨rc, hrc⟩ : ∃ rc, code next n' ms = rc := ⟨_, rfl⟩
                have HRC := Lib.hid hrc
                have HN1 : Hid (0 ≤ next ∧ next ≤ 1000000) := Lib.hid (by omega)
                have b2 : wc.cell? ⟨bx, 2, none⟩ = some (.int .i64 vv) := (cell_of_row wc bx 2 _ 48 (0, 0) HXb.out).trans rfl
                have HQd : Hid (QS wc.drew W q next ms) := Lib.hid (HQb.out.keep ((Below.refl _ _).drew))
                have HRd : Hid (RS wc.drew x next ms) := Lib.hid (HRb.out.below ((Below.refl _ _).drew))
                have HBd : Hid (Below W w wc.drew) := Lib.hid (HBb.out.drew)
                have HXd : Hid (∃ cs, wc.drew.heap[bx]? = some (Obj.cells cs 48 (0, 0))) := Lib.hid ⟨_, HXb.out⟩
                have hWd : W ≤ wc.drew.heap.size := hWx
                clear hrc HQb HRb HBb HXb b1 b3 c0 HNR
                go_region_held3 (fun w' => w'.cell? ⟨bx, 2, none⟩ = some (.int .i64 vv)) (first | (simp [*]; done)) (first | (go_at_call 10; refine (one_all W _ _ ?_).mono ?_; exact hWd; rintro e wn ⟨p0, c0, p1, c1, p2, c2, rfl, HFn, HKn, HBn, HVn⟩; replace hWd : W ≤ wn.heap.size := Nat.le_trans hWd HBn.out.size; replace HBd : Hid (Below W w wn) := Lib.hid (HBd.out.trans HBn.out); replace HQd := Lib.hid (HQd.out.keep HVn.out); replace HRd := Lib.hid (HRd.out.below HVn.out); obtain ⟨hcx, HXn⟩ := box_keep HKn HXd; replace HXd := HXn; unfold fr9) | (go_at_call 11; refine (put_rc W q _ next n' _ _ _ rc ms _ _ hWd HQd HFn hn' HRC).mono ?_; rintro e wn ⟨rfl, ms', HAn, HQn, HKn, HBn⟩; replace hWd : W ≤ wn.heap.size := Nat.le_trans hWd HBn.out.size; replace HBd : Hid (Below W w wn) := Lib.hid (HBd.out.trans HBn.out); replace HQd := HQn; replace HRd := Lib.hid (HRd.out.keep HKn.out); obtain ⟨hcx, HXn⟩ := box_keep HKn HXd; replace HXd := HXn) | (go_at_call 16; refine (putR_rc W x next n' _ _ _ rc ms _ _ _ HRd HFn HN1 HWX hWd HRC).mono ?_; rintro e wn ⟨rfl, HAR, HKn, HBn⟩; replace hWd : W ≤ wn.heap.size := Nat.le_trans hWd HBn.out.size; replace HBd : Hid (Below W w wn) := Lib.hid (HBd.out.trans HBn.out); replace HQd := Lib.hid (HQd.out.keepR HKn.out); replace HRd := Lib.hid (HAR.out _ HAn.out); obtain ⟨hcx, HXn⟩ := box_keepR HKn HXd; replace HXd := HXn) | (go_at_call 11; refine (nil_put W _ n' _ _ _ _ _ hWd HFn).mono ?_; rintro e wn ⟨rfl, HKn, HBn, HVn⟩; replace hWd : W ≤ wn.heap.size := Nat.le_trans hWd HBn.out.size; replace HBd : Hid (Below W w wn) := Lib.hid (HBd.out.trans HBn.out); replace HQd := Lib.hid (HQd.out.keep HVn.out); replace HRd := Lib.hid (HRd.out.below HVn.out); obtain ⟨hcx, HXn⟩ := box_keep HKn HXd; replace HXd := HXn))
                go_wp2_with fail
                go_meet
                case rel => exact ⟨rfl, next, ms', by have := HAn.out.len; omega, HQd, HRd, HBd⟩
          | false =>
            have hWx : W ≤ wb.heap.size := Nat.le_trans hW0 HBb.out.size
            have HGD := Lib.hid HQb.out.good
            have hn0 : 0 ≤ next ∧ next ≤ 80 := by have := HN0.out; omega
            go_wp2_with fail
            refine (f12_any W q next ms wb hWx HQb (by omega)).mono ?_
            rintro e w4 ⟨done, rest, v, hd, hrun, hne, rfl, hfr, hqs, hk, hb⟩
            obtain ⟨A4, c4, rfl⟩ := hfr.form
            have HD := Lib.hid hd
            have HRUN := Lib.hid hrun
            have HNE := Lib.hid hne
            have HFR := Lib.hid hfr
            have HQ4 := Lib.hid hqs
            have HR4 := Lib.hid (HRb.out.keep hk)
            have HB4 := Lib.hid (HBb.out.trans hb)
            have hW4 : W ≤ w4.heap.size := Nat.le_trans hW0 HB4.out.size
            clear hd hrun hne hfr hqs hk hb
            obtain ⟨d, hdd⟩ : ∃ d, d = done.length := ⟨_, rfl⟩
            have HDD := Lib.hid hdd
            have hd10 : d ≤ 9 := by
              have h9 := good_len HGD.out
              have := congrArg List.length HD.out
              simp at this
              omega
            rw [← hdd]
            rw [← hdd] at HFR
            clear hdd
            go_wp2_with fail
            refine (f17_any W x next ms w4 HR4 HGD (by omega)).mono ?_
            rintro e w5 ⟨done', rest', v, hd', hrun', hne', rfl, hfr', hrs', hk', hb'⟩
            obtain ⟨A5, c5, rfl⟩ := hfr'.form
            obtain ⟨rfl, rfl⟩ := take_uniq HRUN.out hrun' (HD.out.trans hd'.symm) HNE.out hne'
            have HFR5 := Lib.hid hfr'
            have HR5 := Lib.hid hrs'
            have HFR4 : Hid (Frs w5 wb.heap.size (.slice A4 d c4) done') := Lib.hid (HFR.out.keepR hk')
            have HQ5 := Lib.hid (HQ4.out.keepR hk')
            have HB5 := Lib.hid (HB4.out.trans (hb' HWX.out hW4))
            have hW5 : W ≤ w5.heap.size := Nat.le_trans hW0 HB5.out.size
            clear hd' hrun' hne' hfr' hrs' hk' hb' HFR HQ4 HR4 HB4
            rw [← HDD.out]
            rw [← HDD.out] at HFR5
            go_wp2_with fail
            refine (f12_nil _).mono ?_
            rintro e w' ⟨rfl, hwx⟩
            obtain rfl : w5 = w' := hwx.symm
            go_wp2_with fail
            go_loopw [89] (fun v89 wt => ∃ j : Nat, v89 = .int .i64 j ∧ j ≤ d ∧ Hid (Below w5.heap.size w5 wt)) (fun v _ => (d - intOf v).toNat)
            case atStart => exact ⟨0, rfl, by omega, Lib.hid (Below.refl _ _)⟩
            case round =>
              obtain ⟨j, rfl, hjd, HBt⟩ := hrel
              by_cases hjl : j < d
              · have hjdl : j < done'.length := by rw [← HDD.out]; exact hjl
                obtain ⟨g4, cg4, hv4, _, hg4, hit4⟩ := HFR4.out.item (by omega)
                obtain ⟨g5, cg5, hv5, _, hg5, hit5⟩ := HFR5.out.item (by omega)
                have hA4 : A4 = some ⟨g4, 0, none⟩ := by injection hv4
                have hA5 : A5 = some ⟨g5, 0, none⟩ := by injection hv5
                subst hA4; subst hA5
                obtain ⟨p0, pd0, p1, pd1, p2, pd2, hf4, hcl4⟩ := hit4 j hjdl
                obtain ⟨r0, rd0, r1, rd1, r2, rd2, hf5, hcl5⟩ := hit5 j hjdl
                have hw4 : g4 < w5.heap.size := by obtain ⟨cs, hcs⟩ := hg4; exact (Array.getElem?_eq_some_iff.1 hcs).1
                have hw5 : g5 < w5.heap.size := by obtain ⟨cs, hcs⟩ := hg5; exact (Array.getElem?_eq_some_iff.1 hcs).1
                have hc4 : ∀ o, wr.cell? ⟨g4, o, none⟩ = w5.cell? ⟨g4, o, none⟩ := fun o => (bcell HBt.out).1 g4 o hw4
                have hc5 : ∀ o, wr.cell? ⟨g5, o, none⟩ = w5.cell? ⟨g5, o, none⟩ := fun o => (bcell HBt.out).1 g5 o hw5
                have s0 : wr.cell? ⟨g4, j * 9, none⟩ = some (.int .i64 1) := (hc4 _).trans (hcl4 0 (by omega))
                have t0 : wr.cell? ⟨g5, j * 9, none⟩ = some (.int .i64 1) := (hc5 _).trans (hcl5 0 (by omega))
                have s1 : wr.cell? ⟨g4, j * 9 + 1, none⟩ = some (.int .i64 1) := (hc4 _).trans (hcl4 1 (by omega))
                have t1 : wr.cell? ⟨g5, j * 9 + 1, none⟩ = some (.int .i64 1) := (hc5 _).trans (hcl5 1 (by omega))
                have s2 : wr.cell? ⟨g4, j * 9 + 2, none⟩ = some (.slice (some ⟨p0, 0, none⟩) 1 pd0) := (hc4 _).trans (hcl4 2 (by omega))
                have t2 : wr.cell? ⟨g5, j * 9 + 2, none⟩ = some (.slice (some ⟨r0, 0, none⟩) 1 rd0) := (hc5 _).trans (hcl5 2 (by omega))
                have s3 : wr.cell? ⟨g4, j * 9 + 3, none⟩ = some (.int .i64 1) := (hc4 _).trans (hcl4 3 (by omega))
                have t3 : wr.cell? ⟨g5, j * 9 + 3, none⟩ = some (.int .i64 1) := (hc5 _).trans (hcl5 3 (by omega))
                have s4 : wr.cell? ⟨g4, j * 9 + 4, none⟩ = some (.int .i64 1) := (hc4 _).trans (hcl4 4 (by omega))
                have t4 : wr.cell? ⟨g5, j * 9 + 4, none⟩ = some (.int .i64 1) := (hc5 _).trans (hcl5 4 (by omega))
                have s5 : wr.cell? ⟨g4, j * 9 + 5, none⟩ = some (.slice (some ⟨p1, 0, none⟩) 1 pd1) := (hc4 _).trans (hcl4 5 (by omega))
                have t5 : wr.cell? ⟨g5, j * 9 + 5, none⟩ = some (.slice (some ⟨r1, 0, none⟩) 1 rd1) := (hc5 _).trans (hcl5 5 (by omega))
                have s6 : wr.cell? ⟨g4, j * 9 + 6, none⟩ = some (.int .i64 1) := (hc4 _).trans (hcl4 6 (by omega))
                have t6 : wr.cell? ⟨g5, j * 9 + 6, none⟩ = some (.int .i64 1) := (hc5 _).trans (hcl5 6 (by omega))
                have s7 : wr.cell? ⟨g4, j * 9 + 7, none⟩ = some (.int .i64 1) := (hc4 _).trans (hcl4 7 (by omega))
                have t7 : wr.cell? ⟨g5, j * 9 + 7, none⟩ = some (.int .i64 1) := (hc5 _).trans (hcl5 7 (by omega))
                have s8 : wr.cell? ⟨g4, j * 9 + 8, none⟩ = some (.slice (some ⟨p2, 0, none⟩) 1 pd2) := (hc4 _).trans (hcl4 8 (by omega))
                have t8 : wr.cell? ⟨g5, j * 9 + 8, none⟩ = some (.slice (some ⟨r2, 0, none⟩) 1 rd2) := (hc5 _).trans (hcl5 8 (by omega))
                have HF4 : Hid (Fr wr.drew 0 (fr9 p0 pd0 p1 pd1 p2 pd2) (nthM done' j).a (nthM done' j).b (nthM done' j).c) := Lib.hid (hf4.nums (Nums.below HBt.out.drew))
                have HF5 : Hid (Fr wr.drew 0 (fr9 r0 rd0 r1 rd1 r2 rd2) (nthM done' j).a (nthM done' j).b (nthM done' j).c) := Lib.hid (hf5.nums (Nums.below HBt.out.drew))
                have hwr : w5.heap.size ≤ wr.drew.heap.size := HBt.out.size
                clear hv4 hv5 hg4 hg5 hit4 hit5 hf4 hf5 hcl4 hcl5 hw4 hw5 hc4 hc5
                go_wp2
                refine region_tail 8 (by kernel_rfl) (by kernel_rfl) ?_
                simp only [List.take_succ_cons, List.take_zero, List.drop_succ_cons, List.drop_zero]
                repeat still_step
                refine wpStill_nil ?_
                go_wp2_with fail
                refine (same_call w5.heap.size _ _ 0 0 _ _ _ _ _ _ _ hwr HF4 HF5 true (by simp)).mono ?_
                rintro e wn ⟨rfl, HKn, HBn, HVn⟩
                have HBn2 : Hid (Below w5.heap.size w5 wn) := Lib.hid (HBt.out.drew.trans HBn.out)
                clear s0 s1 s2 s3 s4 s5 s6 s7 s8 t0 t1 t2 t3 t4 t5 t6 t7 t8
                go_wp2
                go_roundw
                case rel => exact ⟨j + 1, by go_num, by omega, HBn2⟩
                case measure => simp [intOf]; omega
              · obtain rfl : d = j := by omega
                go_wp2_with fail
                go_meet
                case rel => exact ⟨rfl, next + d, rest', by have := HD.out; have h2 := congrArg List.length this; have h3 := HDD.out; rw [List.length_append] at h2; omega, by rw [HDD.out]; exact Lib.hid (HQ5.out.keep HBt.out), by rw [HDD.out]; exact Lib.hid (HR5.out.below HBt.out), Lib.hid (HB5.out.trans (HBt.out.mono hW5))⟩
        case rest =>
          obtain ⟨rfl, next', ms', hnm', HQc, HRc, HBc⟩ := hcut
          clear HQb HRb HBb HXb
          have HGD := Lib.hid HQc.out.good
          have hn0 : 0 ≤ next' ∧ next' ≤ 81 := by have := HGD.out.1; omega
          have hWc : W ≤ wc.heap.size := Nat.le_trans hW0 HBc.out.size
          obtain ⟨h, g', hr, ht⟩ := HRc.out
          have HRB := Lib.hid hr
          have HTN : Hid (tf next' h 0 9 = nums ms') := Lib.hid (tab_nums ht HGD.out)
          clear hr ht
          go_wp2_with fail
          refine (f18_any W q next' ms' wc HQc).mono ?_
          rintro e w6 ⟨v6, rfl, hi6, hb6⟩
          have HB6 := Lib.hid hb6
          have HI6 := Lib.hid hi6
          obtain ⟨A6, c6, rfl⟩ := hi6.form
          clear hi6 hb6
          have HRB6 : Hid (RB w6 x next' h g') := Lib.hid (HRB.out.below HB6.out)
          go_wp2_with fail
          refine (f19_any x next' h g' w6 HRB6 (by omega)).mono ?_
          rintro e w7 ⟨v7, rfl, hi7, hb7⟩
          rw [HTN.out] at hi7
          have HB7 : Hid (Below wc.heap.size wc w7) := Lib.hid (HB6.out.trans (hb7.mono HB6.out.size))
          have HI7 := Lib.hid hi7
          have HI67 : Hid (IntsAt w7 wc.heap.size (.slice A6 (nums ms').length c6) (nums ms')) := Lib.hid (HI6.out.below hb7)
          obtain ⟨A7, c7, rfl⟩ := hi7.form
          have HRB7 : Hid (RB w7 x next' h g') := Lib.hid (HRB6.out.below hb7)
          clear hi7 hb7 HI6 HRB HRB6
          obtain ⟨L, hL⟩ : ∃ L, L = (nums ms').length := ⟨_, rfl⟩
          have HLL := Lib.hid hL
          have hL9 : L ≤ 9 := by have := good_len HGD.out; rw [hL]; simp [nums]; exact this
          rw [← hL]
          rw [← hL] at HI7 HI67
          have hml : ms'.length = L := by rw [hL]; simp [nums]
          have HML := Lib.hid hml
          clear hL hml
          have c0 : w7.cell? ⟨x, 0, none⟩ = some (.int .i64 next') := HRB7.out.c0
          have HQ7 : Hid (QS w7 W q next' ms') := Lib.hid (HQc.out.keep HB7.out)
          have HQ8 : Hid (RS w7 x next' ms') := Lib.hid (HRc.out.below HB7.out)
          have HBW : Hid (Below W w w7) := Lib.hid (HBc.out.trans (HB7.out.mono hWc))
          have HQe : Hid (QS w7.drew W q next' ms') := Lib.hid (HQ7.out.keep ((Below.refl _ _).drew))
          go_upto_region 25 with fail
          go_cut [22, 139] from 22 to 155 (fun v22 v139 wd => v22 = .int .i64 i ∧ v139 = .bool false ∧ Hid (Below w7.heap.size w7 wd))
          case first =>
            by_cases h0 : L = 0
            · subst h0
              have HEND : Hid ((if ms'.length = 0 then (0 : Int) else 260) = 0) := Lib.hid (by rw [HML.out]; rfl)
              go_quiet (first | (go_at_call 15; exact Calls.quiet_of_same (next_q W q next' ms' w7 HQ7 _)) | (go_at_call 14; exact Calls.quiet_of_same (end_q W q next' ms' w7 HQ7 0 HEND _)))
              go_wp2
              go_meet
              case rel => exact ⟨rfl, rfl, Lib.hid (belowN (Below.refl _ _) _)⟩
            · have hl0 : ((L : Int) == 0) = false := by simp; exact h0
              have hl1 : decide ((0 : Int) < (L : Int)) = true := by simp; omega
              have hl2 : (0 : Int) < (L : Int) := by omega
              have hl3 : decide (0 < L) = true := by simp; omega
              have hl4 : 0 < L := by omega
              have HEND : Hid ((if ms'.length = 0 then (0 : Int) else 260) = 260) := Lib.hid (by rw [HML.out, if_neg h0])
              go_quiet (first | (go_at_call 15; exact Calls.quiet_of_same (next_q W q next' ms' w7 HQ7 _)) | (go_at_call 14; exact Calls.quiet_of_same (end_q W q next' ms' w7 HQ7 260 HEND _)))
              go_wp2
              go_meet
              case rel => exact ⟨rfl, rfl, Lib.hid (belowN (Below.refl _ _) _)⟩
          case rest =>
            obtain ⟨rfl, rfl, HBd⟩ := hcut
            clear c0
            go_wp2_with fail
            go_loopw [142] (fun v142 wt => ∃ j : Nat, v142 = .int .i64 j ∧ j ≤ L ∧ Hid (Below w7.heap.size w7 wt)) (fun v _ => (L - intOf v).toNat)
            case atStart => exact ⟨0, rfl, by omega, HBd⟩
            case round =>
              obtain ⟨j, rfl, hjL, HBt⟩ := hrel
              by_cases hjl : j < L
              · have hjn : j < (nums ms').length := by rw [← HLL.out]; exact hjl
                obtain ⟨g6, hA6, hg6, hc6⟩ := HI67.out.item j hjn
                obtain ⟨g7, hA7, hg7, hc7⟩ := HI7.out.item j hjn
                subst hA6; subst hA7
                have s6 : wr.cell? ⟨g6, j, none⟩ = some (.int .i64 ((nums ms').getD j 0)) := ((bcell HBt.out).1 g6 j hg6).trans hc6
                have s7 : wr.cell? ⟨g7, j, none⟩ = some (.int .i64 ((nums ms').getD j 0)) := ((bcell HBt.out).1 g7 j hg7).trans hc7
                obtain ⟨val, hval⟩ : ∃ val, (nums ms').getD j 0 = val := ⟨_, rfl⟩
                rw [hval] at s6 s7
                have hji : (j : Int) < (L : Int) := by omega
                clear hval hc6 hc7 hg6 hg7 hjn
                go_wp2
                go_quiet (fail)
                go_wp2
                go_roundw
                case rel => exact ⟨j + 1, by go_num, by omega, Lib.hid (belowN HBt.out _)⟩
                case measure => simp [intOf]; omega
              · obtain rfl : L = j := by omega
                go_wp2_with fail
                go_roundg (sn - (i + 1))
                case measure => omega
                case rel => exact ⟨i + 1, next', ms', rfl, by go_num, by omega, by omega, hnm', Lib.hid (HQ7.out.keep HBt.out), Lib.hid (HQ8.out.below HBt.out), Lib.hid (HBW.out.trans (HBt.out.mono (Nat.le_trans hWc HB7.out.size)))⟩
      · go_wp2_with fail
        refine (f15_nil _).mono ?_
        rintro e w' ⟨rfl, rfl⟩
        go_wp2_with fail
        refine (f18_nil _).mono ?_
        rintro e w' ⟨rfl, rfl⟩
        go_wp2_with fail
        refine (f14_nil _).mono ?_
        rintro e w' ⟨rfl, rfl⟩
        go_wp2_with fail
        go_ret
        exact ⟨rfl, by rw [← HWE.out]; exact HB.out.alloc hWr _⟩
    · obtain rfl : sn = i := by omega
      go_wp2_with fail
      refine (f15_nil _).mono ?_
      rintro e w' ⟨rfl, rfl⟩
      go_wp2_with fail
      refine (f18_nil _).mono ?_
      rintro e w' ⟨rfl, rfl⟩
      go_wp2_with fail
      refine (f14_nil _).mono ?_
      rintro e w' ⟨rfl, rfl⟩
      go_wp2_with fail
      go_ret
      exact ⟨rfl, by rw [← HWE.out]; exact HB.out⟩
end Go.Proofs.Ytpmgobiakgffiaa
