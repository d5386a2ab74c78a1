import Derived.Test.YtecijaibbjafoaaDoorFramesR
namespace Go.Proofs.YtecijaibbjafoaaDoor
open Go.RowKit Go.Proofs.YtecijaibbjafoaaDoorW.PrintWords Go.Proofs.YtecijaibbjafoaaDoorW.PrintLast Go.Proofs.YtecijaibbjafoaaDoorW.PrintMore Go.Proofs.YtecijaibbjafoaaDoor.PG
/-- A frame. -/
structure Fm where
  a : Pn
  b : Pn
  c : Pn
def Fm.ok (w : World) (f : Fm) : Prop := f.a.ok w ∧ f.b.ok w ∧ f.c.ok w
theorem Fm.ok.below {w w1 : World} {f : Fm} (h : f.ok w) (hb : Below w.heap.size w w1) : f.ok w1 := ⟨h.1.below hb, h.2.1.below hb, h.2.2.below hb⟩
def Fm.none : Fm := ⟨⟨0, 0, .none, 0, []⟩, ⟨0, 0, .none, 0, []⟩, ⟨0, 0, .none, 0, []⟩⟩
/-- The nine cells of a frame. -/
structure Nine (w : World) (b o : Nat) (f : Fm) : Prop where
  c0 : w.cell? ⟨b, o, Option.none⟩ = some (.int .i64 f.a.W)
  c1 : w.cell? ⟨b, o + 1, Option.none⟩ = some (.int .i64 f.a.H)
  c2 : w.cell? ⟨b, o + 2, Option.none⟩ = some (.slice f.a.A f.a.l.length f.a.c)
  c3 : w.cell? ⟨b, o + 3, Option.none⟩ = some (.int .i64 f.b.W)
  c4 : w.cell? ⟨b, o + 4, Option.none⟩ = some (.int .i64 f.b.H)
  c5 : w.cell? ⟨b, o + 5, Option.none⟩ = some (.slice f.b.A f.b.l.length f.b.c)
  c6 : w.cell? ⟨b, o + 6, Option.none⟩ = some (.int .i64 f.c.W)
  c7 : w.cell? ⟨b, o + 7, Option.none⟩ = some (.int .i64 f.c.H)
  c8 : w.cell? ⟨b, o + 8, Option.none⟩ = some (.slice f.c.A f.c.l.length f.c.c)
theorem Nine.below {w w1 : World} {b o g : Nat} {f : Fm} (h : Nine w b o f) (hg : b < g) (hb : Below g w w1) : Nine w1 b o f :=
  ⟨(hb.cell (p := ⟨b, o, Option.none⟩) hg).trans h.c0, (hb.cell (p := ⟨b, o + 1, Option.none⟩) hg).trans h.c1, (hb.cell (p := ⟨b, o + 2, Option.none⟩) hg).trans h.c2, (hb.cell (p := ⟨b, o + 3, Option.none⟩) hg).trans h.c3, (hb.cell (p := ⟨b, o + 4, Option.none⟩) hg).trans h.c4, (hb.cell (p := ⟨b, o + 5, Option.none⟩) hg).trans h.c5, (hb.cell (p := ⟨b, o + 6, Option.none⟩) hg).trans h.c6, (hb.cell (p := ⟨b, o + 7, Option.none⟩) hg).trans h.c7, (hb.cell (p := ⟨b, o + 8, Option.none⟩) hg).trans h.c8⟩
/-- A film that is read. -/
def FW (w : World) (A : Option Addr) (fs : List Fm) : Prop :=
  fs.length ≤ 9223372036854775807 ∧ (0 < fs.length → ∃ b o, A = some ⟨b, o, Option.none⟩ ∧ b < w.heap.size ∧ ∀ i, i < fs.length → Nine w b (o + i * 9) (fs.getD i .none)) ∧ ∀ i, i < fs.length → (fs.getD i .none).ok w
theorem FW.below {w w1 : World} {A : Option Addr} {fs : List Fm} (h : FW w A fs) (hb : Below w.heap.size w w1) : FW w1 A fs :=
  ⟨h.1, fun h0 => by
    obtain ⟨b, o, e, hlt, hn⟩ := h.2.1 h0
    exact ⟨b, o, e, Nat.lt_of_lt_of_le hlt hb.size, fun i hi => (hn i hi).below hlt hb⟩, fun i hi => (h.2.2 i hi).below hb⟩
/-- How far two frames are. -/
def gF (f g : Fm) : G5 := ((gP f.a g.a).join (gP f.b g.b)).join (gP f.c g.c)
theorem gF_comm (f g : Fm) : gF f g = gF g f := by unfold gF; rw [gP_comm f.a, gP_comm f.b, gP_comm f.c]
def G5.fit (g : G5) : Prop := wrap64 g.c = g.c ∧ wrap64 g.d = g.d ∧ 0 ≤ g.m ∧ wrap64 g.s = g.s ∧ wrap64 g.q = g.q
theorem wrap_wrap (x : Int) : wrap64 (wrap64 x) = wrap64 x := wrap_id (wrap_in x)
theorem G5.zero_join {g : G5} (h : g.fit) : G5.zero.join g = g := by
  obtain ⟨h1, h2, h3, h4, h5⟩ := h
  unfold G5.join G5.zero mx
  simp only [Int.zero_add, h1, h2, h4, h5]
  by_cases h : 0 < g.m
  · rw [if_pos h]
  · rw [if_neg h, show (0 : Int) = g.m by omega]
theorem gp_m (l l' : List Int) : ∀ k, 0 ≤ (gp l l' k).m
  | 0 => Int.le_refl _
  | k + 1 => by
    have h := gp_m l l' k
    have h2 := apn_le (l.getD k 0) (l'.getD k 0)
    show 0 ≤ mx (gp l l' k).m (apn (l.getD k 0) (l'.getD k 0))
    unfold mx
    split <;> omega
theorem gP_fit (p q : Pn) : (gP p q).fit := by
  unfold gP gpl
  split
  · refine ⟨?_, ?_, gp_m _ _ _, ?_, ?_⟩ <;> (cases p.l.length with | zero => (unfold gp G5.zero; kernel_rfl) | succ k => exact wrap_wrap _)
  · exact ⟨by kernel_rfl, by kernel_rfl, Int.le_refl _, by kernel_rfl, by kernel_rfl⟩
/-- Two films: the frames that both have. -/
def gFs (fs gs : List Fm) : Nat → G5
  | 0 => .zero
  | k + 1 => (gFs fs gs k).join (gF (fs.getD k .none) (gs.getD k .none))
theorem gFs_comm (fs gs : List Fm) : ∀ k, gFs fs gs k = gFs gs fs k
  | 0 => rfl
  | k + 1 => by rw [gFs, gFs, gFs_comm fs gs k, gF_comm]
theorem f19_F (f g : Fm) (r : G5) (hr : Hid (gF f g = r)) (w : World) (hf : Hid (f.ok w)) (hg : Hid (g.ok w)) :
    Calls Tryd.prog 19 #[.agg #[Value.int .i64 f.a.W, .int .i64 f.a.H, .slice f.a.A f.a.l.length f.a.c, .int .i64 f.b.W, .int .i64 f.b.H, .slice f.b.A f.b.l.length f.b.c, .int .i64 f.c.W, .int .i64 f.c.H, .slice f.c.A f.c.l.length f.c.c], .agg #[Value.int .i64 g.a.W, .int .i64 g.a.H, .slice g.a.A g.a.l.length g.a.c, .int .i64 g.b.W, .int .i64 g.b.H, .slice g.b.A g.b.l.length g.b.c, .int .i64 g.c.W, .int .i64 g.c.H, .slice g.c.A g.c.l.length g.c.c]] w fun e w' => e = .returned (.agg #[.int .i64 r.c, .int .i64 r.d, .int .i64 r.m, .int .i64 r.s, .int .i64 r.q]) ∧ Below w.heap.size w w' := by
  have h := hf.out
  have h' := hg.out
  exact f19_any f.a f.b f.c g.a g.b g.c _ _ _ _ _ r w (Lib.hid h.1) (Lib.hid h.2.1) (Lib.hid h.2.2) (Lib.hid h'.1) (Lib.hid h'.2.1) (Lib.hid h'.2.2) (Lib.hid rfl) (Lib.hid rfl) (Lib.hid rfl) (Lib.hid (G5.zero_join (gP_fit _ _))) (Lib.hid rfl) hr
theorem f18_F (f g : Fm) (r : G5) (hr : Hid (gF f g = r)) (w : World) (hf : Hid (f.ok w)) (hg : Hid (g.ok w)) :
    Calls Tryd.prog 18 #[.agg #[Value.int .i64 f.a.W, .int .i64 f.a.H, .slice f.a.A f.a.l.length f.a.c, .int .i64 f.b.W, .int .i64 f.b.H, .slice f.b.A f.b.l.length f.b.c, .int .i64 f.c.W, .int .i64 f.c.H, .slice f.c.A f.c.l.length f.c.c], .agg #[Value.int .i64 g.a.W, .int .i64 g.a.H, .slice g.a.A g.a.l.length g.a.c, .int .i64 g.b.W, .int .i64 g.b.H, .slice g.b.A g.b.l.length g.b.c, .int .i64 g.c.W, .int .i64 g.c.H, .slice g.c.A g.c.l.length g.c.c]] w fun e w' => e = .returned (.agg #[.int .i64 r.c, .int .i64 r.d, .int .i64 r.m, .int .i64 r.s, .int .i64 r.q]) ∧ Below w.heap.size w w' := by
  have h := hf.out
  have h' := hg.out
  exact f18_any f.a f.b f.c g.a g.b g.c _ _ _ _ r w (Lib.hid h.1) (Lib.hid h.2.1) (Lib.hid h.2.2) (Lib.hid h'.1) (Lib.hid h'.2.1) (Lib.hid h'.2.2) (Lib.hid rfl) (Lib.hid rfl) (Lib.hid rfl) (Lib.hid rfl) hr
end Go.Proofs.YtecijaibbjafoaaDoor
