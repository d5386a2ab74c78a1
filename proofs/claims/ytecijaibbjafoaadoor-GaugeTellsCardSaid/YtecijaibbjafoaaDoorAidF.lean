import Derived.Test.YtecijaibbjafoaaDoorAid
import Derived.Test.YtecijaibbjafoaaDoorFilm
namespace Go.Proofs.YtecijaibbjafoaaDoor.aid
open Go.Proofs.YtecijaibbjafoaaDoorW.PrintWords
open Go.ChangeShapes Go.WideShapes Go.ChangeAt Go.RowKit Go.Deep
set_option linter.unusedVariables false
/-- A plane's three cells. -/
theorem plane_of {H : Type} {enc : TypeId × Value → H} {w : World} {base : Nat} {spare : Nat → Bool} {held : Bool} {fuel : Nat} {l : List Value} {y : DataW H × List MemPlace} (hf : DataW.trod enc Tryd.prog w base spare held fuel 32 l = some y) :
    ∃ q : Pn, l = [.int .i64 q.W, .int .i64 q.H, .slice q.A q.l.length q.c] ∧ q.ok w := by
  obtain ⟨ys, k, _, _, hsz, hyl, hfl⟩ := DataW.trod_struct Tryd.underlying32 hf
  have hl : l.length = 3 := hsz.trans (by kernel_rfl)
  obtain ⟨c0, c1, c2, rfl⟩ : ∃ c0 c1 c2, l = [c0, c1, c2] := by
    match l, hl with
    | [a, b, c], _ => exact ⟨a, b, c, rfl⟩
  have hy3 : ys.length = 3 := hyl
  have t0 : DataW.trod enc Tryd.prog w base spare held k 3 [c0] = some (ys[0]'(by omega)) := (hfl 0 _ rfl).trans (List.getElem?_eq_getElem (by omega))
  have t1 : DataW.trod enc Tryd.prog w base spare held k 3 [c1] = some (ys[1]'(by omega)) := (hfl 1 _ rfl).trans (List.getElem?_eq_getElem (by omega))
  have t2 : DataW.trod enc Tryd.prog w base spare held k 30 [c2] = some (ys[2]'(by omega)) := (hfl 2 _ rfl).trans (List.getElem?_eq_getElem (by omega))
  obtain ⟨n0, e0, _, _⟩ := DataW.trod_int Tryd.underlying3 t0
  obtain ⟨n1, e1, _, _⟩ := DataW.trod_int Tryd.underlying3 t1
  injection e0 with e0
  injection e1 with e1
  subst e0; subst e1
  obtain ⟨A, n, c, rfl⟩ : ∃ A n c, c2 = .slice A n c := by
    rcases open_slice Tryd.underlying30 t2 with ⟨hc, _⟩ | ⟨a, len, cap, m, n', D, Pl, hc, _⟩
    · injection hc with hc _; exact ⟨_, _, _, hc⟩
    · injection hc with hc _; exact ⟨_, _, _, hc⟩
  obtain ⟨l, rfl, hr, hi⟩ := open_row t2
  exact ⟨⟨n0, n1, A, c, l⟩, rfl, hr, hi⟩
theorem frame_of {H : Type} {enc : TypeId × Value → H} {w : World} {base : Nat} {spare : Nat → Bool} {held : Bool} {fuel : Nat} {l : List Value} {y : DataW H × List MemPlace} (hf : DataW.trod enc Tryd.prog w base spare held fuel 42 l = some y) :
    ∃ f : Fm, l = [.int .i64 f.a.W, .int .i64 f.a.H, .slice f.a.A f.a.l.length f.a.c, .int .i64 f.b.W, .int .i64 f.b.H, .slice f.b.A f.b.l.length f.b.c, .int .i64 f.c.W, .int .i64 f.c.H, .slice f.c.A f.c.l.length f.c.c] ∧ f.ok w := by
  obtain ⟨ys, k, _, _, hsz, hyl, hfl⟩ := DataW.trod_struct Tryd.underlying42 hf
  have hl : l.length = 9 := hsz.trans (by kernel_rfl)
  have hy1 : ys.length = 1 := hyl
  have t0 : DataW.trod enc Tryd.prog w base spare held k 40 ((l.drop 0).take (Tryd.prog.cellsOf 40)) = some (ys[0]'(by omega)) := (hfl 0 _ rfl).trans (List.getElem?_eq_getElem (by omega))
  rw [show Tryd.prog.cellsOf 40 = 9 by kernel_rfl, List.drop_zero, List.take_of_length_le (by omega)] at t0
  obtain ⟨xs, m1, _, _, _, hn3, hel⟩ := DataW.trod_array Tryd.underlying40 t0
  rw [show Tryd.prog.cellsOf 32 = 3 by kernel_rfl] at hel
  obtain ⟨c0, c1, c2, c3, c4, c5, c6, c7, c8, rfl⟩ : ∃ c0 c1 c2 c3 c4 c5 c6 c7 c8, l = [c0, c1, c2, c3, c4, c5, c6, c7, c8] := by
    match l, hl with
    | [a0, a1, a2, a3, a4, a5, a6, a7, a8], _ => exact ⟨a0, a1, a2, a3, a4, a5, a6, a7, a8, rfl⟩
  have u0 : DataW.trod enc Tryd.prog w base spare held m1 32 [c0, c1, c2] = some (xs[0]'(by omega)) := (hel 0 (by decide)).trans (List.getElem?_eq_getElem (by omega))
  have u1 : DataW.trod enc Tryd.prog w base spare held m1 32 [c3, c4, c5] = some (xs[1]'(by omega)) := (hel 1 (by decide)).trans (List.getElem?_eq_getElem (by omega))
  have u2 : DataW.trod enc Tryd.prog w base spare held m1 32 [c6, c7, c8] = some (xs[2]'(by omega)) := (hel 2 (by decide)).trans (List.getElem?_eq_getElem (by omega))
  obtain ⟨p, hp, op⟩ := plane_of u0
  obtain ⟨q, hq, oq⟩ := plane_of u1
  obtain ⟨r, hr, or⟩ := plane_of u2
  injection hp with p0 hp; injection hp with p1 hp; injection hp with p2 hp
  injection hq with q0 hq; injection hq with q1 hq; injection hq with q2 hq
  injection hr with r0 hr; injection hr with r1 hr; injection hr with r2 hr
  subst p0 p1 p2 q0 q1 q2 r0 r1 r2
  exact ⟨⟨p, q, r⟩, rfl, op, oq, or⟩
/-- A film. -/
theorem open_film {H : Type} {enc : TypeId × Value → H} {w : World} {base : Nat} {spare : Nat → Bool} {held : Bool} {fuel : Nat} {A : Option Addr} {n c : Nat} {x : DataW H × List MemPlace} (h : DataW.trod enc Tryd.prog w base spare held fuel 38 [.slice A n c] = some x) :
    ∃ fs : List Fm, n = fs.length ∧ FW w A fs := by
  rcases open_slice Tryd.underlying38 h with ⟨hc, _⟩ | ⟨a, len, cap, m, n', D, Pl, hc, _, hl, hm, hmm, _, hi⟩
  · injection hc with hc _
    injection hc with h1 h2 h3
    subst h2
    exact ⟨[], rfl, by simp, fun h => absurd h (Nat.lt_irrefl _), fun i hi => absurd hi (Nat.not_lt_zero _)⟩
  · injection hc with hc _
    injection hc with h1 h2 h3
    subst h1; subst h2; subst h3
    have hmx : n ≤ 9223372036854775807 := by unfold maxLen at hm; omega
    by_cases hn0 : n = 0
    · subst hn0
      exact ⟨[], rfl, by simp, fun h => absurd h (Nat.lt_irrefl _), fun i hi => absurd hi (Nat.not_lt_zero _)⟩
    have hex : ∀ i, i < n → ∃ f : Fm, (∀ j (hj : j < 9), w.cell? ((a.add (i * 9)).add j) = ([Value.int .i64 f.a.W, .int .i64 f.a.H, .slice f.a.A f.a.l.length f.a.c, .int .i64 f.b.W, .int .i64 f.b.H, .slice f.b.A f.b.l.length f.b.c, .int .i64 f.c.W, .int .i64 f.c.H, .slice f.c.A f.c.l.length f.c.c])[j]?) ∧ f.ok w := by
      intro i hin
      obtain ⟨cs, hcs, ht⟩ := hi i (by rw [hmm]; split <;> omega)
      rw [show Tryd.prog.cellsOf 42 = 9 by kernel_rfl] at hcs
      obtain ⟨_, _, hat⟩ := World.cells?_some hcs
      obtain ⟨f, e, hok⟩ := frame_of ht
      subst e
      exact ⟨f, fun j hj => hat j hj, hok⟩
    obtain ⟨b, o, sp⟩ := a
    have hsp : sp = none := by
      obtain ⟨f, hf, _⟩ := hex 0 (by omega)
      have h0 := hf 0 (by omega)
      have h1 : w.cell? ⟨b, o, sp⟩ = some (.int .i64 f.a.W) := by simpa [Addr.add] using h0
      exact World.cell?_spot h1
    subst hsp
    have hch : ∃ F : Nat → Fm, ∀ i, i < n → Nine w b (o + i * 9) (F i) ∧ (F i).ok w := by
      have h1 : ∀ i, i < n → ∃ f : Fm, Nine w b (o + i * 9) f ∧ f.ok w := by
        intro i hin
        obtain ⟨f, hf, hok⟩ := hex i hin
        refine ⟨f, ⟨?_, ?_, ?_, ?_, ?_, ?_, ?_, ?_, ?_⟩, hok⟩
        · have := hf 0 (by omega); rw [Addr.add_lit, Addr.add_lit] at this; exact this
        · have := hf 1 (by omega); rw [Addr.add_lit, Addr.add_lit] at this; exact this
        · have := hf 2 (by omega); rw [Addr.add_lit, Addr.add_lit] at this; exact this
        · have := hf 3 (by omega); rw [Addr.add_lit, Addr.add_lit] at this; exact this
        · have := hf 4 (by omega); rw [Addr.add_lit, Addr.add_lit] at this; exact this
        · have := hf 5 (by omega); rw [Addr.add_lit, Addr.add_lit] at this; exact this
        · have := hf 6 (by omega); rw [Addr.add_lit, Addr.add_lit] at this; exact this
        · have := hf 7 (by omega); rw [Addr.add_lit, Addr.add_lit] at this; exact this
        · have := hf 8 (by omega); rw [Addr.add_lit, Addr.add_lit] at this; exact this
      exact ⟨fun i => if hin : i < n then Classical.choose (h1 i hin) else .none, fun i hin => by
        simp only [dif_pos hin]
        exact Classical.choose_spec (h1 i hin)⟩
    obtain ⟨F, hF⟩ := hch
    have hg : ∀ i, i < n → ((List.range n).map F).getD i .none = F i := fun i hin => by
      rw [List.getD_eq_getElem?_getD]; simp [hin]
    have hlen : ((List.range n).map F).length = n := by simp
    refine ⟨(List.range n).map F, hlen.symm, by rw [hlen]; exact hmx, fun _ => ⟨b, o, rfl, World.block_lt_of_cell? w _ (hF 0 (by omega)).1.c0, fun i hin => ?_⟩, fun i hin => ?_⟩
    · rw [hlen] at hin
      rw [hg i hin]
      exact (hF i hin).1
    · rw [hlen] at hin
      rw [hg i hin]
      exact (hF i hin).2
end Go.Proofs.YtecijaibbjafoaaDoor.aid
