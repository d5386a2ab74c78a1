/-
  No cell of these rows narrows 'for every input' (looked for: loops, veiled, ifaces, maps, wideKeys, modest, calm, conditions, laid).
  DERIVED. THE GIVEN ROWS OF THIS SEAT. 5 by the template 'for every input the law returns true; each argument reads behind the call as it read before'; 0 by the template 'total and deterministic' (their statements: YtpmgobiakgffiaaTotals.lean).
  GIVEN WITH THE SEED: the statements are not yours to turn. If you find one false, say at which input.
  Laid BY PROGRAM, IN A SANDBOX (cutbox-rows.mjs): the forced cells as the released guide's own fill.sh prints them over the translation 2ec5c3f8a6961bbc… (all of the seat's roots in one cut). By AI agents, Wed Nov 11 2026. No macro, syntax, notation, axiom, sorry.
-/
import Derived.Test.YtpmgobiakgffiaaChecked
import GoSem.Claim
import GoSem.ClaimJoined
import GoSem.ClaimMapViews
import Derived.JoinedTies
import Derived.KernelRfl
namespace Go.Proofs.Ytpmgobiakgffiaa
/- THE CELL 'sum', in the pinned program and in every row, IS THE sha256 OF THE DUMP (.gsa) THAT YtpmgobiakgffiaaProg.lean LOADS. Nothing in Lean hashes anything: it is a label: what it is worth is what the hold of that sum in a sandbox is worth. -/
noncomputable def Try.pinned : Pinned := { name := "ytpmgobiakgffiaa", sum := "2ec5c3f8a6961bbccf4954147b8b389711026e64084f37f8102131d9fca9df3b", checked := Try.checked }
namespace Rows
def none {H : Type} : Left H := { results := [], args := [] }

/-- 'shinglelaw26.OrderRuns': WHATEVER THE INPUT: true; the input reads as it did. -/
def orderRunsSpec : ChangeSpec := { name := "orderRuns", fn := fun _ => fun
  | [d1, d2] => { results := [.lit (.bool true)], args := [d1, d2] }
  | _ => none }
def orderRunsRow : OpenClaim := { program := "ytpmgobiakgffiaa", sum := "2ec5c3f8a6961bbccf4954147b8b389711026e64084f37f8102131d9fca9df3b", func := "shingle/shinglelaw26.OrderRuns", spec := "orderRuns", inPlace := ["slices.overlaps[shingle/order.item]"], unfollowed := true, recurses := true, apart := false }
def OrderRunsSaid : Prop := orderRunsRow.holds Try.pinned (OpenSpec.ofChange orderRunsSpec)

/-- ITS FALSE NEIGHBOUR: 'it returns false'. Refute it at one input. -/
def orderRunsWrong : ChangeSpec := { name := "orderRuns", fn := fun _ => fun
  | [d1, d2] => { results := [.lit (.bool false)], args := [d1, d2] }
  | _ => none }
def OrderRunsWrongFalsely : Prop := orderRunsRow.holds Try.pinned (OpenSpec.ofChange orderRunsWrong)

/-- 'shinglelaw26.OrderPlay': WHATEVER THE INPUT: true; the input reads as it did. -/
def orderPlaySpec : ChangeSpec := { name := "orderPlay", fn := fun _ => fun
  | [d] => { results := [.lit (.bool true)], args := [d] }
  | _ => none }
def orderPlayRow : OpenClaim := { program := "ytpmgobiakgffiaa", sum := "2ec5c3f8a6961bbccf4954147b8b389711026e64084f37f8102131d9fca9df3b", func := "shingle/shinglelaw26.OrderPlay", spec := "orderPlay", inPlace := ["slices.overlaps[shingle/order.item]"], unfollowed := true, recurses := true, apart := false }
def OrderPlaySaid : Prop := orderPlayRow.holds Try.pinned (OpenSpec.ofChange orderPlaySpec)

/-- ITS FALSE NEIGHBOUR: 'it returns false'. Refute it at one input. -/
def orderPlayWrong : ChangeSpec := { name := "orderPlay", fn := fun _ => fun
  | [d] => { results := [.lit (.bool false)], args := [d] }
  | _ => none }
def OrderPlayWrongFalsely : Prop := orderPlayRow.holds Try.pinned (OpenSpec.ofChange orderPlayWrong)

/-- 'shinglelaw25.RefsPlay': WHATEVER THE INPUT: true; the input reads as it did. -/
def refsPlaySpec : ChangeSpec := { name := "refsPlay", fn := fun _ => fun
  | [d] => { results := [.lit (.bool true)], args := [d] }
  | _ => none }
def refsPlayRow : OpenClaim := { program := "ytpmgobiakgffiaa", sum := "2ec5c3f8a6961bbccf4954147b8b389711026e64084f37f8102131d9fca9df3b", func := "shingle/shinglelaw25.RefsPlay", spec := "refsPlay", unfollowed := true, recurses := true, apart := false }
def RefsPlaySaid : Prop := refsPlayRow.holds Try.pinned (OpenSpec.ofChange refsPlaySpec)

/-- ITS FALSE NEIGHBOUR: 'it returns false'. Refute it at one input. -/
def refsPlayWrong : ChangeSpec := { name := "refsPlay", fn := fun _ => fun
  | [d] => { results := [.lit (.bool false)], args := [d] }
  | _ => none }
def RefsPlayWrongFalsely : Prop := refsPlayRow.holds Try.pinned (OpenSpec.ofChange refsPlayWrong)

/-- 'shinglelaw25.RefsKeep': WHATEVER THE INPUT: true; the input reads as it did. -/
def refsKeepSpec : ChangeSpec := { name := "refsKeep", fn := fun _ => fun
  | [d1, d2] => { results := [.lit (.bool true)], args := [d1, d2] }
  | _ => none }
def refsKeepRow : OpenClaim := { program := "ytpmgobiakgffiaa", sum := "2ec5c3f8a6961bbccf4954147b8b389711026e64084f37f8102131d9fca9df3b", func := "shingle/shinglelaw25.RefsKeep", spec := "refsKeep", unfollowed := true, recurses := true, apart := false }
def RefsKeepSaid : Prop := refsKeepRow.holds Try.pinned (OpenSpec.ofChange refsKeepSpec)

/-- ITS FALSE NEIGHBOUR: 'it returns false'. Refute it at one input. -/
def refsKeepWrong : ChangeSpec := { name := "refsKeep", fn := fun _ => fun
  | [d1, d2] => { results := [.lit (.bool false)], args := [d1, d2] }
  | _ => none }
def RefsKeepWrongFalsely : Prop := refsKeepRow.holds Try.pinned (OpenSpec.ofChange refsKeepWrong)

/-- 'shinglelaw25.RefsLast': WHATEVER THE INPUT: true; the input reads as it did. -/
def refsLastSpec : ChangeSpec := { name := "refsLast", fn := fun _ => fun
  | [d1, d2] => { results := [.lit (.bool true)], args := [d1, d2] }
  | _ => none }
def refsLastRow : OpenClaim := { program := "ytpmgobiakgffiaa", sum := "2ec5c3f8a6961bbccf4954147b8b389711026e64084f37f8102131d9fca9df3b", func := "shingle/shinglelaw25.RefsLast", spec := "refsLast", unfollowed := true, recurses := true, apart := false }
def RefsLastSaid : Prop := refsLastRow.holds Try.pinned (OpenSpec.ofChange refsLastSpec)

/-- ITS FALSE NEIGHBOUR: 'it returns false'. Refute it at one input. -/
def refsLastWrong : ChangeSpec := { name := "refsLast", fn := fun _ => fun
  | [d1, d2] => { results := [.lit (.bool false)], args := [d1, d2] }
  | _ => none }
def RefsLastWrongFalsely : Prop := refsLastRow.holds Try.pinned (OpenSpec.ofChange refsLastWrong)

/- THE SECOND FORM. 'bulk': how many values and letters a reading holds, each counted each time it is reached (what is shared counts as often as it is met; a slice's spare places count too). A statement '..UptoSaid' is the law's where the arguments, and the package variables that the reading takes, are together of bulk at most 1048576: NARROWER than '..Said'. Prove '..Said' where nothing that the law and all that it calls make is longer than what came in: it says more and counts as full. Else prove '..UptoSaid'. A law counts once. -/
mutual
def uptoBulk {H : Type} : DataW H → Nat
  | .lit (.string bytes) => bytes.length + 1
  | .lit _ => 1
  | .nil => 1
  | .ptr d => uptoBulk d + 1
  | .slice elems spare => uptoBulkAll elems + uptoBulkAll spare + 1
  | .agg parts => uptoBulkAll parts + 1
  | .iface _ d => uptoBulk d + 1
  | .map entries => uptoBulkEntries entries + 1
  | .held _ => 1
def uptoBulkAll {H : Type} : List (DataW H) → Nat
  | [] => 0
  | d :: r => uptoBulk d + uptoBulkAll r
def uptoBulkEntries {H : Type} : List (Lit × DataW H) → Nat
  | [] => 0
  | x :: r => uptoBulkEntry x + uptoBulkEntries r
def uptoBulkEntry {H : Type} : Lit × DataW H → Nat
  | (.string bytes, d) => bytes.length + uptoBulk d + 1
  | (_, d) => uptoBulk d + 1
 end
def uptoSmall : (H : Type) → List (DataW H) → Bool := fun _ ds => decide (uptoBulkAll ds ≤ 1048576)
def OpenSpec.upto (s : _root_.Go.ChangeSpec) : _root_.Go.OpenSpec := { _root_.Go.OpenSpec.ofChange s with cond := some uptoSmall }

/-- 'shinglelaw26.OrderRuns', WHERE WHAT IT READS IS OF BULK AT MOST 1048576: true; the input reads as it did. -/
def orderRunsUptoRow : OpenClaim := { program := "ytpmgobiakgffiaa", sum := "2ec5c3f8a6961bbccf4954147b8b389711026e64084f37f8102131d9fca9df3b", func := "shingle/shinglelaw26.OrderRuns", spec := "orderRuns", inPlace := ["slices.overlaps[shingle/order.item]"], unfollowed := true, recurses := true, apart := false, narrowed := true }
def OrderRunsUptoSaid : Prop := orderRunsUptoRow.holds Try.pinned (OpenSpec.upto orderRunsSpec)

/-- 'shinglelaw26.OrderPlay', WHERE WHAT IT READS IS OF BULK AT MOST 1048576: true; the input reads as it did. -/
def orderPlayUptoRow : OpenClaim := { program := "ytpmgobiakgffiaa", sum := "2ec5c3f8a6961bbccf4954147b8b389711026e64084f37f8102131d9fca9df3b", func := "shingle/shinglelaw26.OrderPlay", spec := "orderPlay", inPlace := ["slices.overlaps[shingle/order.item]"], unfollowed := true, recurses := true, apart := false, narrowed := true }
def OrderPlayUptoSaid : Prop := orderPlayUptoRow.holds Try.pinned (OpenSpec.upto orderPlaySpec)

/-- 'shinglelaw25.RefsPlay', WHERE WHAT IT READS IS OF BULK AT MOST 1048576: true; the input reads as it did. -/
def refsPlayUptoRow : OpenClaim := { program := "ytpmgobiakgffiaa", sum := "2ec5c3f8a6961bbccf4954147b8b389711026e64084f37f8102131d9fca9df3b", func := "shingle/shinglelaw25.RefsPlay", spec := "refsPlay", unfollowed := true, recurses := true, apart := false, narrowed := true }
def RefsPlayUptoSaid : Prop := refsPlayUptoRow.holds Try.pinned (OpenSpec.upto refsPlaySpec)

/-- 'shinglelaw25.RefsKeep', WHERE WHAT IT READS IS OF BULK AT MOST 1048576: true; the input reads as it did. -/
def refsKeepUptoRow : OpenClaim := { program := "ytpmgobiakgffiaa", sum := "2ec5c3f8a6961bbccf4954147b8b389711026e64084f37f8102131d9fca9df3b", func := "shingle/shinglelaw25.RefsKeep", spec := "refsKeep", unfollowed := true, recurses := true, apart := false, narrowed := true }
def RefsKeepUptoSaid : Prop := refsKeepUptoRow.holds Try.pinned (OpenSpec.upto refsKeepSpec)

/-- 'shinglelaw25.RefsLast', WHERE WHAT IT READS IS OF BULK AT MOST 1048576: true; the input reads as it did. -/
def refsLastUptoRow : OpenClaim := { program := "ytpmgobiakgffiaa", sum := "2ec5c3f8a6961bbccf4954147b8b389711026e64084f37f8102131d9fca9df3b", func := "shingle/shinglelaw25.RefsLast", spec := "refsLast", unfollowed := true, recurses := true, apart := false, narrowed := true }
def RefsLastUptoSaid : Prop := refsLastUptoRow.holds Try.pinned (OpenSpec.upto refsLastSpec)

end Rows
end Go.Proofs.Ytpmgobiakgffiaa
