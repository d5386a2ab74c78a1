import Derived.WalkKit
import Derived.Lib.Hide
import Derived.Lib.AppendZerosOnto
import Derived.Lib.Overlaps
import Derived.Lib.JoinLaws
import Derived.Deep.RegionLaw
namespace Go.Proofs.Ytpmgobiakgffiaa
open Go.RowKit

/-- A number and a frame's nine cells. -/
structure It where
  n : Int
  a : Value × Value × Value × Value × Value × Value × Value × Value × Value
def It.cells (x : It) : List Value := [.int .i64 x.n, x.a.1, x.a.2.1, x.a.2.2.1, x.a.2.2.2.1, x.a.2.2.2.2.1, x.a.2.2.2.2.2.1, x.a.2.2.2.2.2.2.1, x.a.2.2.2.2.2.2.2.1, x.a.2.2.2.2.2.2.2.2]
theorem It.cells_length (x : It) : x.cells.length = 10 := rfl
def flat (xs : List It) : List Value := xs.flatMap It.cells
theorem flat_nil : flat [] = [] := rfl
theorem flat_cons (x : It) (xs : List It) : flat (x :: xs) = x.cells ++ flat xs := by simp [flat]
theorem flat_append (xs ys : List It) : flat (xs ++ ys) = flat xs ++ flat ys := by simp [flat]
theorem flat_length (xs : List It) : (flat xs).length = xs.length * 10 := by
  induction xs with
  | nil => rfl
  | cons x xs ih => rw [flat_cons, List.length_append, ih, It.cells_length, List.length_cons]; omega
theorem flat_take (xs : List It) (k : Nat) : (flat xs).take (k * 10) = flat (xs.take k) := by
  induction xs generalizing k with
  | nil => simp [flat]
  | cons x xs ih =>
    cases k with
    | zero => simp [flat]
    | succ k => rw [flat_cons, List.take_succ_cons, flat_cons, ← ih, show (k + 1) * 10 = x.cells.length + k * 10 by rw [It.cells_length]; omega, List.take_length_add_append]
theorem flat_drop (xs : List It) (k : Nat) : (flat xs).drop (k * 10) = flat (xs.drop k) := by
  induction xs generalizing k with
  | nil => simp [flat]
  | cons x xs ih =>
    cases k with
    | zero => simp [flat]
    | succ k => rw [flat_cons, List.drop_succ_cons, ← ih, show (k + 1) * 10 = x.cells.length + k * 10 by rw [It.cells_length]; omega, List.drop_length_add_append]
theorem flat_get (xs : List It) (i j : Nat) (hi : i < xs.length) (hj : j < 10) : (flat xs)[i * 10 + j]? = (xs[i]).cells[j]? := by
  have h : (flat xs).drop (i * 10) = (xs[i]).cells ++ flat (xs.drop (i + 1)) := by
    rw [flat_drop, List.drop_eq_getElem_cons hi, flat_cons]
  rw [← List.getElem?_drop, h, List.getElem?_append_left (by rw [It.cells_length]; exact hj)]

/-- The row of a queue's items: from block B on. -/
def Rw (w : World) (B : Nat) (v : Value) (xs : List It) : Prop := w.ownsRow B 78 10 v xs.length (flat xs)

/-- Item i of a list of items. -/
def nth (xs : List It) (i : Nat) : It := xs.getD i ⟨0, .nilFunc, .nilFunc, .nilFunc, .nilFunc, .nilFunc, .nilFunc, .nilFunc, .nilFunc, .nilFunc⟩
theorem nth_eq (xs : List It) (i : Nat) (h : i < xs.length) : nth xs i = xs[i] := by simp [nth, h]
/-- What item i of a row holds, cell by cell. -/
theorem Rw.item {w : World} {B g n c : Nat} {xs : List It} (h : Rw w B (.slice (some ⟨g, 0, none⟩) n c) xs) (i : Nat) (hi : i < xs.length) :
    ∃ c1 c2 c3 c4 c5 c6 c7 c8 c9, (nth xs i).a = (c1, c2, c3, c4, c5, c6, c7, c8, c9) ∧
    w.cell? ⟨g, i * 10, none⟩ = some (.int .i64 (nth xs i).n) ∧ w.cell? ⟨g, i * 10 + 1, none⟩ = some c1 ∧ w.cell? ⟨g, i * 10 + 2, none⟩ = some c2 ∧ w.cell? ⟨g, i * 10 + 3, none⟩ = some c3 ∧
    w.cell? ⟨g, i * 10 + 4, none⟩ = some c4 ∧ w.cell? ⟨g, i * 10 + 5, none⟩ = some c5 ∧ w.cell? ⟨g, i * 10 + 6, none⟩ = some c6 ∧
    w.cell? ⟨g, i * 10 + 7, none⟩ = some c7 ∧ w.cell? ⟨g, i * 10 + 8, none⟩ = some c8 ∧ w.cell? ⟨g, i * 10 + 9, none⟩ = some c9 := by
  have hc := h.cells (g := g) rfl
  rw [nth_eq xs i hi]
  have key : ∀ j u, j < 10 → (xs[i]).cells[j]? = some u → w.cell? ⟨g, i * 10 + j, none⟩ = some u := by
    intro j u hj hu
    have := hc (i * 10 + j) u ((flat_get xs i j hi hj).trans hu)
    rwa [show (⟨g, 0, none⟩ : Addr).add (i * 10 + j) = ⟨g, i * 10 + j, none⟩ by unfold Addr.add; split <;> simp_all] at this
  exact ⟨_, _, _, _, _, _, _, _, _, rfl, key 0 _ (by omega) rfl, key 1 _ (by omega) rfl, key 2 _ (by omega) rfl, key 3 _ (by omega) rfl, key 4 _ (by omega) rfl, key 5 _ (by omega) rfl, key 6 _ (by omega) rfl, key 7 _ (by omega) rfl, key 8 _ (by omega) rfl, key 9 _ (by omega) rfl⟩
theorem Rw.form {w : World} {B : Nat} {v : Value} {xs : List It} (h : Rw w B v xs) : (v = .slice none 0 0 ∧ xs = []) ∨ ∃ g c, v = .slice (some ⟨g, 0, none⟩) xs.length c ∧ B ≤ g ∧ g < w.heap.size ∧ xs.length ≤ c ∧ c ≤ maxLen := by
  rcases h.2 with ⟨rfl, h0⟩ | ⟨g, cap, cur, rfl, hb, hg, hn, hm, _⟩
  · exact .inl ⟨rfl, List.length_eq_zero_iff.1 h0⟩
  · exact .inr ⟨g, cap, rfl, hb, (Array.getElem?_eq_some_iff.1 hg).1, hn, hm⟩
theorem Rw.below {w w1 : World} {B : Nat} {v : Value} {xs : List It} (h : Rw w B v xs) (hb : Below w.heap.size w w1) : Rw w1 B v xs :=
  World.ownsRow.kept (row := none) h ⟨hb.os, hb.tape, hb.output, hb.size, fun k hk _ => hb.block k hk⟩ (by cases v.ownBlock <;> simp)
/-- What the search leaves. -/
def Found (xs : List It) (t : Int) (r : Nat) (b : Bool) : Prop := r ≤ xs.length ∧ (∀ i, i < r → i < xs.length → (nth xs i).n < t) ∧ (∀ i, r ≤ i → i < xs.length → t ≤ (nth xs i).n) ∧ b = decide (r < xs.length ∧ (nth xs r).n = t)
/-- The numbers rise; none is below nought. -/
def Rising (xs : List It) : Prop := (∀ i, i < xs.length → 0 ≤ (nth xs i).n ∧ (nth xs i).n ≤ 9223372036854775807) ∧ ∀ i j, i < j → j < xs.length → (nth xs i).n < (nth xs j).n
theorem Rising.le {xs : List It} (h : Rising xs) {i j : Nat} (hij : i ≤ j) (hj : j < xs.length) : (nth xs i).n ≤ (nth xs j).n := by
  rcases Nat.lt_or_eq_of_le hij with hlt | rfl
  · exact Int.le_of_lt (h.2 i j hlt hj)
  · exact Int.le_refl _
theorem found_up {xs : List It} (hx : Rising xs) {h i : Nat} {m t : Int} (hm : (nth xs h).n = m) (hlt : m < t) (_h1 : ∀ k, k < i → k < xs.length → (nth xs k).n < t) :
    h < xs.length → ∀ k, k < h + 1 → k < xs.length → (nth xs k).n < t := fun hh k hk hl => by
  have := hx.le (i := k) (j := h) (by omega) hh
  omega
theorem found_down {xs : List It} (hx : Rising xs) {h : Nat} {m t : Int} (hm : (nth xs h).n = m) (hlt : t ≤ m) :
    ∀ k, h ≤ k → k < xs.length → t ≤ (nth xs k).n := fun k hk hl => by
  have := hx.le (i := h) (j := k) hk hl
  omega
theorem found_at {xs : List It} {i : Nat} {m t : Int} (hm : (nth xs i).n = m) (hi : i < xs.length) (h1 : ∀ k, k < i → k < xs.length → (nth xs k).n < t) (h2 : ∀ k, i ≤ k → k < xs.length → t ≤ (nth xs k).n) :
    Found xs t i (m - t == 0) := ⟨by omega, h1, h2, by
  rw [Bool.eq_iff_iff]; simp [hm, hi]; omega⟩
theorem found_end {xs : List It} {n : Nat} {t : Int} (hl : xs.length = n) (h1 : ∀ k, k < n → k < xs.length → (nth xs k).n < t) :
    Found xs t n false := ⟨by omega, h1, fun k hk h => by omega, by simp [hl]⟩
/-! ### copy and clear on a row that is known whole, elements of any number of cells -/
section
variable {P : Program}
theorem run_copy_row_n (w : World) (dT sT ty elem : TypeId) (size g o dLen dCap : Nat) (a : Addr) (sLen sCap : Nat) (cur : Array Value) (t : TypeId) (cs : List Value)
    (hu : P.underlying dT = some (.slice elem)) (hs : (P.info? elem).map (·.size) = some size)
    (hg : w.heap[g]? = some (.cells cur t (0, 0))) (k : Nat) (hk : Nat.min sLen dLen = k) (hn : cs.length = k * size)
    (hsrc : ∀ j v, cs[j]? = some v → w.cell? (a.add j) = some v) (hfit : o + cs.length ≤ cur.size) (h1 : ∀ v ∈ cs, v.oneCell' = true) :
    (Builtin.copy_ #[dT, sT] ty #[.slice (some ⟨g, o, none⟩) dLen dCap, .slice (some a) sLen sCap]).run P w =
      .ok (goInt k) (w.setRow g (cur.toList.take o ++ cs ++ cur.toList.drop (o + cs.length)).toArray) := by
  have hl := run_loadCells_list (P := P) w a cs hsrc
  have hst := run_storeCells_at P g o t cs 0 cur w hg (by simpa using hfit) h1
  rw [hn] at hl
  cases hq : P.info? elem with
  | none => simp [hq] at hs
  | some i =>
    have hi : i.size = size := by simpa [hq] using hs
    simp [Builtin.copy_, run_underlying hu, Builtin.lenOf, Builtin.firstCells, sizeOf, typeInfo, hq, hi, hk, hl, hst]
theorem run_clear_row_n (w : World) (t ty elem : TypeId) (i : TypeInfo) (z : Value) (g o len cap : Nat) (cur : Array Value) (et : TypeId)
    (hu : P.underlying t = some (.slice elem)) (hi : P.info? elem = some i) (hz : i.zero = some z) (h0 : 0 < len)
    (hg : w.heap[g]? = some (.cells cur et (0, 0))) (hfit : o + len * z.cells.size ≤ cur.size) (h1 : ∀ v ∈ (Builtin.zeroCells z.cells len).toList, v.oneCell' = true) :
    (Builtin.clear_ #[t] ty #[.slice (some ⟨g, o, none⟩) len cap]).run P w =
      .ok (.tuple #[]) (w.setRow g (cur.toList.take o ++ (Builtin.zeroCells z.cells len).toList ++ cur.toList.drop (o + len * z.cells.size)).toArray) := by
  have hlen : (Builtin.zeroCells z.cells len).toList.length = len * z.cells.size := by simp [Builtin.zeroCells]
  have hst := run_storeCells_at P g o et (Builtin.zeroCells z.cells len).toList 0 cur w hg (by rw [hlen]; simpa using hfit) h1
  rw [hlen] at hst
  obtain ⟨m, rfl⟩ : ∃ m, len = m + 1 := ⟨len - 1, by omega⟩
  simp [Builtin.clear_, run_underlying hu, zeroValue, typeInfo, hi, hz, hst]
/-- A call of a builtin whose run is known. -/
theorem wp_run (w : World) {o : Oper} {a : Act} {K : Act → World → Prop} {Q : Exit → Act → World → Prop} (b : Builtin) (as : Array Operand) (ts : Array TypeId)
    (ho : o.op = .call { callee := .builtin b, args := as, argTypes := ts }) (vs : Array Value) (hv : as.map a.eval = vs) {v' : Value} {w' : World}
    (hr : ∀ cs, (builtin b ts o.type cs vs).run P w = .ok (.value v') w') (h : K (a.put o.dst v') w') : o.wp P a w K Q := by
  unfold Oper.wp execOp
  simp only [ho, resolve, invoke, Sem.run_bind, Sem.run_pure, Result.andThen_ok, hv]
  rw [hr]
  exact h
theorem wpList_run (w : World) {ops : Array Oper} {rest : List Oper} {o : Oper} {a : Act} {Q : Exit → Act → World → Prop} (hgd : o.guard = none) (b : Builtin) (as : Array Operand) (ts : Array TypeId)
    (ho : o.op = .call { callee := .builtin b, args := as, argTypes := ts }) (vs : Array Value) (hv : as.map a.eval = vs) {v' : Value} {w' : World}
    (hr : ∀ cs, (builtin b ts o.type cs vs).run P w = .ok (.value v') w') (h : wpList P ops Q rest (a.put o.dst v') w') : wpList P ops Q (o :: rest) a w :=
  wpList_plain hgd fun _ hK => wp_run w b as ts ho vs hv hr (hK _ _ h)
theorem step_run {ops : Array Oper} {o : Oper} {a : Act} {w : World} {K : Act → World → Prop} {Q : Exit → Act → World → Prop} {E : Prop}
    (hg : o.guard = none) (b : Builtin) (as : Array Operand) (ts : Array TypeId)
    (ho : o.op = .call { callee := .builtin b, args := as, argTypes := ts }) (vs : Array Value) (hv : as.map a.eval = vs) {v' : Value} {w' : World}
    (hr : ∀ cs, (builtin b ts o.type cs vs).run P w = .ok (.value v') w') (hK : K (a.put o.dst v') w') :
    if Region.wanted o (yielded ops a.tmps) = true then Oper.wp P o a w K Q else E := by
  have hw : Region.wanted o (yielded ops a.tmps) = true := by simp [Region.wanted, hg]
  rw [if_pos hw]
  exact wp_run w b as ts ho vs hv hr hK
theorem wpList_run2 (w : World) {ops : Array Oper} {rest : List Oper} {o : Oper} {a : Act} {Q : Exit → Act → World → Prop} (hgd : o.guard = none) (b : Builtin) (d s : Operand) (ts : Array TypeId)
    (ho : o.op = .call { callee := .builtin b, args := #[d, s], argTypes := ts }) (v u : Value) (hd : a.eval d = v) (hs : a.eval s = u) {v' : Value} {w' : World}
    (hr : ∀ cs, (builtin b ts o.type cs #[v, u]).run P w = .ok (.value v') w') (h : wpList P ops Q rest (a.put o.dst v') w') : wpList P ops Q (o :: rest) a w :=
  wpList_run w hgd b #[d, s] ts ho #[v, u] (by simp [hd, hs]) hr h
theorem wpList_run1 (w : World) {ops : Array Oper} {rest : List Oper} {o : Oper} {a : Act} {Q : Exit → Act → World → Prop} (hgd : o.guard = none) (b : Builtin) (d : Operand) (ts : Array TypeId)
    (ho : o.op = .call { callee := .builtin b, args := #[d], argTypes := ts }) (v : Value) (hd : a.eval d = v) {v' : Value} {w' : World}
    (hr : ∀ cs, (builtin b ts o.type cs #[v]).run P w = .ok (.value v') w') (h : wpList P ops Q rest (a.put o.dst v') w') : wpList P ops Q (o :: rest) a w :=
  wpList_run w hgd b #[d] ts ho #[v] (by simp [hd]) hr h
theorem step_run2 {ops : Array Oper} {o : Oper} {a : Act} {w : World} {K : Act → World → Prop} {Q : Exit → Act → World → Prop} {E : Prop}
    (hg : o.guard = none) (b : Builtin) (d s : Operand) (ts : Array TypeId)
    (ho : o.op = .call { callee := .builtin b, args := #[d, s], argTypes := ts }) (v u : Value) (hd : a.eval d = v) (hs : a.eval s = u) {v' : Value} {w' : World}
    (hr : ∀ cs, (builtin b ts o.type cs #[v, u]).run P w = .ok (.value v') w') (hK : K (a.put o.dst v') w') :
    if Region.wanted o (yielded ops a.tmps) = true then Oper.wp P o a w K Q else E :=
  step_run hg b #[d, s] ts ho #[v, u] (by simp [hd, hs]) hr hK
theorem builtin_copy (w : World) (ts : Array TypeId) (ty : TypeId) (cs : Array Bool) (vs : Array Value) {v' : Value} {w' : World} (h : (Builtin.copy_ ts ty vs).run P w = .ok v' w') : (builtin .copy ts ty cs vs).run P w = .ok (.value v') w' := by
  simp [builtin, h]
theorem builtin_clear (w : World) (ts : Array TypeId) (ty : TypeId) (cs : Array Bool) (vs : Array Value) {v' : Value} {w' : World} (h : (Builtin.clear_ ts ty vs).run P w = .ok v' w') : (builtin .clear ts ty cs vs).run P w = .ok (.value v') w' := by
  simp [builtin, h]
theorem builtin_append (w : World) (ts : Array TypeId) (ty : TypeId) (cs : Array Bool) (vs : Array Value) {v' : Value} {w' : World} (h : (Builtin.append_ ts ty vs).run P w = .ok v' w') : (builtin .append ts ty cs vs).run P w = .ok (.value v') w' := by
  simp [builtin, h]
end
end Go.Proofs.Ytpmgobiakgffiaa
