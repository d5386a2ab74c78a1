import Derived.Test.YtecijaibbjafoaaDoorPlRef
import Derived.Test.YtecijaibbjafoaaDoorNum
namespace Go.Proofs.YtecijaibbjafoaaDoor
open Go.RowKit Go.Proofs.YtecijaibbjafoaaDoorW.PrintWords Go.Proofs.YtecijaibbjafoaaDoorW.PrintLast Go.Proofs.YtecijaibbjafoaaDoorW.PrintMore Go.Proofs.YtecijaibbjafoaaDoor.PG
abbrev inR (x : Int) : Prop := -9223372036854775808 ≤ x ∧ x ≤ 9223372036854775807
def G5.inR (g : G5) : Prop := YtecijaibbjafoaaDoor.inR g.c ∧ YtecijaibbjafoaaDoor.inR g.d ∧ YtecijaibbjafoaaDoor.inR g.m ∧ YtecijaibbjafoaaDoor.inR g.s ∧ YtecijaibbjafoaaDoor.inR g.q
theorem itoa_len (n : Int) (h : inR n) : (Lib.itoa n).length ≤ 20 := by
  unfold Lib.itoa
  obtain ⟨h1, h2⟩ := h
  split
  · rw [List.length_cons, Lib.decDigits_length]
    have := nDigits_le 18 n.natAbs (by omega)
    omega
  · rw [Lib.decDigits_length]
    have := nDigits_le 18 n.toNat (by omega)
    omega
def numB (n : Int) : ByteArray := ⟨(Lib.itoa n).toArray⟩
theorem numB_size (n : Int) (h : inR n) : (numB n).size ≤ 20 := by simpa [numB, ByteArray.size] using itoa_len n h
theorem f29_b (n : Int) (h : inR n) (w : World) : Calls Tryd.prog 29 #[.int .i64 n] w fun e w' => e = .returned (.string (numB n)) ∧ w' = w := f29_any n h w
/-- The text of a gauge, as the reference joins it. -/
def txt (c d m s q : ByteArray) : ByteArray := (((((((((⟨#[99, 111, 117, 110, 116, 32]⟩ : ByteArray) ++ c) ++ ⟨#[32, 100, 105, 102, 102, 101, 114, 32]⟩) ++ d) ++ ⟨#[32, 119, 111, 114, 115, 116, 32]⟩) ++ m) ++ ⟨#[32, 115, 117, 109, 32]⟩) ++ s) ++ ⟨#[32, 115, 113, 117, 97, 114, 101, 115, 32]⟩) ++ q
set_option maxHeartbeats 4000000 in
set_option maxRecDepth 100000 in
theorem f13_any (g : G5) (hg : Hid g.inR) (w : World) : Calls Tryd.prog 13 #[.agg #[.int .i64 g.c, .int .i64 g.d, .int .i64 g.m, .int .i64 g.s, .int .i64 g.q]] w fun e w' => e = .returned (.string (txt (numB g.c) (numB g.d) (numB g.m) (numB g.s) (numB g.q))) ∧ Below w.heap.size w w' := by
  obtain ⟨h0, h1, h2, h3, h4⟩ := hg.out
  have F0 := Lib.hid (fun w => f29_b g.c h0 w)
  have F1 := Lib.hid (fun w => f29_b g.d h1 w)
  have F2 := Lib.hid (fun w => f29_b g.m h2 w)
  have F3 := Lib.hid (fun w => f29_b g.s h3 w)
  have F4 := Lib.hid (fun w => f29_b g.q h4 w)
  have s0 := numB_size g.c h0
  have s1 := numB_size g.d h1
  have s2 := numB_size g.m h2
  have s3 := numB_size g.s h3
  have s4 := numB_size g.q h4
  clear h0 h1 h2 h3 h4 hg
  obtain ⟨b0, e0⟩ : ∃ b, numB g.c = b := ⟨_, rfl⟩
  obtain ⟨b1, e1⟩ : ∃ b, numB g.d = b := ⟨_, rfl⟩
  obtain ⟨b2, e2⟩ : ∃ b, numB g.m = b := ⟨_, rfl⟩
  obtain ⟨b3, e3⟩ : ∃ b, numB g.s = b := ⟨_, rfl⟩
  obtain ⟨b4, e4⟩ : ∃ b, numB g.q = b := ⟨_, rfl⟩
  rw [e0] at F0 s0
  rw [e1] at F1 s1
  rw [e2] at F2 s2
  rw [e3] at F3 s3
  rw [e4] at F4 s4
  rw [e0, e1, e2, e3, e4]
  clear e0 e1 e2 e3 e4
  unfold txt
  obtain ⟨wb, hwb⟩ : ∃ wb, wb = w.alloc (.cells #[.int .i64 g.c, .int .i64 g.d, .int .i64 g.m, .int .i64 g.s, .int .i64 g.q] 23) := ⟨_, rfl⟩
  obtain ⟨B, hB⟩ : ∃ B, B = w.heap.size := ⟨_, rfl⟩
  have HG : Hid (GB wb B g) := by rw [hwb, hB]; exact Lib.hid (blk_new _ _)
  have HB : Hid (Below w.heap.size w wb) := by rw [hwb]; exact Lib.hid (by go_grown)
  have HWB := Lib.hid hwb
  have HBB := Lib.hid hB
  clear hwb hB
  obtain ⟨g0, g1, g2, g3, g4, y0, y1, y2, y3, y4⟩ := five HG.out
  clear y0 y1 y2 y3 y4
  go_enter Tryd.func13, Tryd.ntmps13
  go_wp2_with fail
  rw [← HWB.out, ← HBB.out]
  clear HWB HBB
  go_quiet (first | (go_at_call 29; with_reducible exact Calls.quiet_of_same (F0.out _)) | (go_at_call 29; with_reducible exact Calls.quiet_of_same (F1.out _)) | (go_at_call 29; with_reducible exact Calls.quiet_of_same (F2.out _)) | (go_at_call 29; with_reducible exact Calls.quiet_of_same (F3.out _)) | (go_at_call 29; with_reducible exact Calls.quiet_of_same (F4.out _)))
  go_wp2
  go_ret
  exact ⟨rfl, belowN' HB.out _⟩
end Go.Proofs.YtecijaibbjafoaaDoor
