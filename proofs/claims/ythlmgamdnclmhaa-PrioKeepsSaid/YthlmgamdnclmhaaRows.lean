/-
  No cell of these rows narrows 'for every input' (looked for: loops, veiled, ifaces, maps, wideKeys, modest, calm, conditions, laid).
  DERIVED. THE GIVEN ROWS OF THIS SEAT. 7 by the template 'for every input the law returns true; each argument reads behind the call as it read before'; 0 by the template 'total and deterministic' (their statements: YthlmgamdnclmhaaTotals.lean).
  GIVEN WITH THE SEED: the statements are not yours to turn. If you find one false, say at which input.
  Laid BY PROGRAM, IN A SANDBOX (cutbox-rows.mjs): the forced cells as the released guide's own fill.sh prints them over the translation f2614ea83f318a0e… (all of the seat's roots in one cut). By AI agents, Wed Nov 11 2026. No macro, syntax, notation, axiom, sorry.
-/
import Derived.Test.YthlmgamdnclmhaaChecked
import GoSem.Claim
import GoSem.ClaimJoined
import GoSem.ClaimMapViews
import Derived.JoinedTies
import Derived.KernelRfl
namespace Go.Proofs.Ythlmgamdnclmhaa
/- THE CELL 'sum', in the pinned program and in every row, IS THE sha256 OF THE DUMP (.gsa) THAT YthlmgamdnclmhaaProg.lean LOADS. Nothing in Lean hashes anything: it is a label: what it is worth is what the hold of that sum in a sandbox is worth. -/
noncomputable def Try.pinned : Pinned := { name := "ythlmgamdnclmhaa", sum := "f2614ea83f318a0e4c22088dd84f93ea8a32220bbff678e23c0565e1778b12e4", checked := Try.checked }
namespace Rows
def none {H : Type} : Left H := { results := [], args := [] }

/-- 'telemeterlaw11.PrioHeavy': WHATEVER THE INPUT: true; the input reads as it did. -/
def prioHeavySpec : ChangeSpec := { name := "prioHeavy", fn := fun _ => fun
  | [d1, d2, d3, d4] => { results := [.lit (.bool true)], args := [d1, d2, d3, d4] }
  | _ => none }
def prioHeavyRow : OpenClaim := { program := "ythlmgamdnclmhaa", sum := "f2614ea83f318a0e4c22088dd84f93ea8a32220bbff678e23c0565e1778b12e4", func := "telemeter/telemeterlaw11.PrioHeavy", spec := "prioHeavy", inPlace := ["math/bits.Add64"], unfollowed := true, recurses := true, named := ["math/bits.divideError", "math/bits.overflowError"], apart := false }
def PrioHeavySaid : Prop := prioHeavyRow.holds Try.pinned (OpenSpec.ofChange prioHeavySpec)

/-- ITS FALSE NEIGHBOUR: 'it returns false'. Refute it at one input. -/
def prioHeavyWrong : ChangeSpec := { name := "prioHeavy", fn := fun _ => fun
  | [d1, d2, d3, d4] => { results := [.lit (.bool false)], args := [d1, d2, d3, d4] }
  | _ => none }
def PrioHeavyWrongFalsely : Prop := prioHeavyRow.holds Try.pinned (OpenSpec.ofChange prioHeavyWrong)

/-- 'telemeterlaw11.PrioAgain': WHATEVER THE INPUT: true; the input reads as it did. -/
def prioAgainSpec : ChangeSpec := { name := "prioAgain", fn := fun _ => fun
  | [d1, d2, d3] => { results := [.lit (.bool true)], args := [d1, d2, d3] }
  | _ => none }
def prioAgainRow : OpenClaim := { program := "ythlmgamdnclmhaa", sum := "f2614ea83f318a0e4c22088dd84f93ea8a32220bbff678e23c0565e1778b12e4", func := "telemeter/telemeterlaw11.PrioAgain", spec := "prioAgain", inPlace := ["math/bits.Add64"], unfollowed := true, recurses := true, named := ["math/bits.divideError", "math/bits.overflowError"], apart := false }
def PrioAgainSaid : Prop := prioAgainRow.holds Try.pinned (OpenSpec.ofChange prioAgainSpec)

/-- ITS FALSE NEIGHBOUR: 'it returns false'. Refute it at one input. -/
def prioAgainWrong : ChangeSpec := { name := "prioAgain", fn := fun _ => fun
  | [d1, d2, d3] => { results := [.lit (.bool false)], args := [d1, d2, d3] }
  | _ => none }
def PrioAgainWrongFalsely : Prop := prioAgainRow.holds Try.pinned (OpenSpec.ofChange prioAgainWrong)

/-- 'telemeterlaw11.PrioKeeps': WHATEVER THE INPUT: true; the input reads as it did. -/
def prioKeepsSpec : ChangeSpec := { name := "prioKeeps", fn := fun _ => fun
  | [d1, d2, d3, d4, d5, d6] => { results := [.lit (.bool true)], args := [d1, d2, d3, d4, d5, d6] }
  | _ => none }
def prioKeepsRow : OpenClaim := { program := "ythlmgamdnclmhaa", sum := "f2614ea83f318a0e4c22088dd84f93ea8a32220bbff678e23c0565e1778b12e4", func := "telemeter/telemeterlaw11.PrioKeeps", spec := "prioKeeps", inPlace := ["math/bits.Add64"], unfollowed := true, recurses := true, named := ["math/bits.divideError", "math/bits.overflowError"], apart := false }
def PrioKeepsSaid : Prop := prioKeepsRow.holds Try.pinned (OpenSpec.ofChange prioKeepsSpec)

/-- ITS FALSE NEIGHBOUR: 'it returns false'. Refute it at one input. -/
def prioKeepsWrong : ChangeSpec := { name := "prioKeeps", fn := fun _ => fun
  | [d1, d2, d3, d4, d5, d6] => { results := [.lit (.bool false)], args := [d1, d2, d3, d4, d5, d6] }
  | _ => none }
def PrioKeepsWrongFalsely : Prop := prioKeepsRow.holds Try.pinned (OpenSpec.ofChange prioKeepsWrong)

/-- 'telemeterlaw11.PrioAbove': WHATEVER THE INPUT: true; the input reads as it did. -/
def prioAboveSpec : ChangeSpec := { name := "prioAbove", fn := fun _ => fun
  | [d1, d2, d3, d4, d5, d6, d7, d8] => { results := [.lit (.bool true)], args := [d1, d2, d3, d4, d5, d6, d7, d8] }
  | _ => none }
def prioAboveRow : OpenClaim := { program := "ythlmgamdnclmhaa", sum := "f2614ea83f318a0e4c22088dd84f93ea8a32220bbff678e23c0565e1778b12e4", func := "telemeter/telemeterlaw11.PrioAbove", spec := "prioAbove", inPlace := ["math/bits.Add64"], unfollowed := true, recurses := true, named := ["math/bits.divideError", "math/bits.overflowError"], apart := false }
def PrioAboveSaid : Prop := prioAboveRow.holds Try.pinned (OpenSpec.ofChange prioAboveSpec)

/-- ITS FALSE NEIGHBOUR: 'it returns false'. Refute it at one input. -/
def prioAboveWrong : ChangeSpec := { name := "prioAbove", fn := fun _ => fun
  | [d1, d2, d3, d4, d5, d6, d7, d8] => { results := [.lit (.bool false)], args := [d1, d2, d3, d4, d5, d6, d7, d8] }
  | _ => none }
def PrioAboveWrongFalsely : Prop := prioAboveRow.holds Try.pinned (OpenSpec.ofChange prioAboveWrong)

/-- 'telemeterlaw11.PrioAll': WHATEVER THE INPUT: true; the input reads as it did. -/
def prioAllSpec : ChangeSpec := { name := "prioAll", fn := fun _ => fun
  | [d1, d2, d3] => { results := [.lit (.bool true)], args := [d1, d2, d3] }
  | _ => none }
def prioAllRow : OpenClaim := { program := "ythlmgamdnclmhaa", sum := "f2614ea83f318a0e4c22088dd84f93ea8a32220bbff678e23c0565e1778b12e4", func := "telemeter/telemeterlaw11.PrioAll", spec := "prioAll", inPlace := ["math/bits.Add64"], unfollowed := true, recurses := true, named := ["math/bits.divideError", "math/bits.overflowError"], apart := false }
def PrioAllSaid : Prop := prioAllRow.holds Try.pinned (OpenSpec.ofChange prioAllSpec)

/-- ITS FALSE NEIGHBOUR: 'it returns false'. Refute it at one input. -/
def prioAllWrong : ChangeSpec := { name := "prioAll", fn := fun _ => fun
  | [d1, d2, d3] => { results := [.lit (.bool false)], args := [d1, d2, d3] }
  | _ => none }
def PrioAllWrongFalsely : Prop := prioAllRow.holds Try.pinned (OpenSpec.ofChange prioAllWrong)

/-- 'telemeterlaw11.PrioMean': WHATEVER THE INPUT: true; the input reads as it did. -/
def prioMeanSpec : ChangeSpec := { name := "prioMean", fn := fun _ => fun
  | [d1, d2, d3] => { results := [.lit (.bool true)], args := [d1, d2, d3] }
  | _ => none }
def prioMeanRow : OpenClaim := { program := "ythlmgamdnclmhaa", sum := "f2614ea83f318a0e4c22088dd84f93ea8a32220bbff678e23c0565e1778b12e4", func := "telemeter/telemeterlaw11.PrioMean", spec := "prioMean", inPlace := ["math/bits.Add64"], unfollowed := true, recurses := true, named := ["math/bits.divideError", "math/bits.overflowError"], apart := false }
def PrioMeanSaid : Prop := prioMeanRow.holds Try.pinned (OpenSpec.ofChange prioMeanSpec)

/-- ITS FALSE NEIGHBOUR: 'it returns false'. Refute it at one input. -/
def prioMeanWrong : ChangeSpec := { name := "prioMean", fn := fun _ => fun
  | [d1, d2, d3] => { results := [.lit (.bool false)], args := [d1, d2, d3] }
  | _ => none }
def PrioMeanWrongFalsely : Prop := prioMeanRow.holds Try.pinned (OpenSpec.ofChange prioMeanWrong)

/-- 'telemeterlaw11.PrioGreatest': WHATEVER THE INPUT: true; the input reads as it did. -/
def prioGreatestSpec : ChangeSpec := { name := "prioGreatest", fn := fun _ => fun
  | [d1, d2, d3] => { results := [.lit (.bool true)], args := [d1, d2, d3] }
  | _ => none }
def prioGreatestRow : OpenClaim := { program := "ythlmgamdnclmhaa", sum := "f2614ea83f318a0e4c22088dd84f93ea8a32220bbff678e23c0565e1778b12e4", func := "telemeter/telemeterlaw11.PrioGreatest", spec := "prioGreatest", inPlace := ["math/bits.Add64"], unfollowed := true, recurses := true, named := ["math/bits.divideError", "math/bits.overflowError"], apart := false }
def PrioGreatestSaid : Prop := prioGreatestRow.holds Try.pinned (OpenSpec.ofChange prioGreatestSpec)

/-- ITS FALSE NEIGHBOUR: 'it returns false'. Refute it at one input. -/
def prioGreatestWrong : ChangeSpec := { name := "prioGreatest", fn := fun _ => fun
  | [d1, d2, d3] => { results := [.lit (.bool false)], args := [d1, d2, d3] }
  | _ => none }
def PrioGreatestWrongFalsely : Prop := prioGreatestRow.holds Try.pinned (OpenSpec.ofChange prioGreatestWrong)

/- THE SECOND FORM. 'bulk': how many values and letters a reading holds, each counted each time it is reached (what is shared counts as often as it is met; a slice's spare places count too). A statement '..UptoSaid' is the law's where the arguments, and the package variables that the reading takes, are together of bulk at most 1048576: NARROWER than '..Said'. Prove '..Said' where nothing that the law and all that it calls make is longer than what came in: it says more and counts as full. Else prove '..UptoSaid'. A law counts once. -/
mutual
def uptoBulk {H : Type} : DataW H → Nat
  | .lit (.string bytes) => bytes.length + 1
  | .lit _ => 1
  | .nil => 1
  | .ptr d => uptoBulk d + 1
  | .slice elems spare => uptoBulkAll elems + uptoBulkAll spare + 1
  | .agg parts => uptoBulkAll parts + 1
  | .iface _ d => uptoBulk d + 1
  | .map entries => uptoBulkEntries entries + 1
  | .held _ => 1
def uptoBulkAll {H : Type} : List (DataW H) → Nat
  | [] => 0
  | d :: r => uptoBulk d + uptoBulkAll r
def uptoBulkEntries {H : Type} : List (Lit × DataW H) → Nat
  | [] => 0
  | x :: r => uptoBulkEntry x + uptoBulkEntries r
def uptoBulkEntry {H : Type} : Lit × DataW H → Nat
  | (.string bytes, d) => bytes.length + uptoBulk d + 1
  | (_, d) => uptoBulk d + 1
 end
def uptoSmall : (H : Type) → List (DataW H) → Bool := fun _ ds => decide (uptoBulkAll ds ≤ 1048576)
def OpenSpec.upto (s : _root_.Go.ChangeSpec) : _root_.Go.OpenSpec := { _root_.Go.OpenSpec.ofChange s with cond := some uptoSmall }

/-- 'telemeterlaw11.PrioHeavy', WHERE WHAT IT READS IS OF BULK AT MOST 1048576: true; the input reads as it did. -/
def prioHeavyUptoRow : OpenClaim := { program := "ythlmgamdnclmhaa", sum := "f2614ea83f318a0e4c22088dd84f93ea8a32220bbff678e23c0565e1778b12e4", func := "telemeter/telemeterlaw11.PrioHeavy", spec := "prioHeavy", inPlace := ["math/bits.Add64"], unfollowed := true, recurses := true, named := ["math/bits.divideError", "math/bits.overflowError"], apart := false, narrowed := true }
def PrioHeavyUptoSaid : Prop := prioHeavyUptoRow.holds Try.pinned (OpenSpec.upto prioHeavySpec)

/-- 'telemeterlaw11.PrioAgain', WHERE WHAT IT READS IS OF BULK AT MOST 1048576: true; the input reads as it did. -/
def prioAgainUptoRow : OpenClaim := { program := "ythlmgamdnclmhaa", sum := "f2614ea83f318a0e4c22088dd84f93ea8a32220bbff678e23c0565e1778b12e4", func := "telemeter/telemeterlaw11.PrioAgain", spec := "prioAgain", inPlace := ["math/bits.Add64"], unfollowed := true, recurses := true, named := ["math/bits.divideError", "math/bits.overflowError"], apart := false, narrowed := true }
def PrioAgainUptoSaid : Prop := prioAgainUptoRow.holds Try.pinned (OpenSpec.upto prioAgainSpec)

/-- 'telemeterlaw11.PrioKeeps', WHERE WHAT IT READS IS OF BULK AT MOST 1048576: true; the input reads as it did. -/
def prioKeepsUptoRow : OpenClaim := { program := "ythlmgamdnclmhaa", sum := "f2614ea83f318a0e4c22088dd84f93ea8a32220bbff678e23c0565e1778b12e4", func := "telemeter/telemeterlaw11.PrioKeeps", spec := "prioKeeps", inPlace := ["math/bits.Add64"], unfollowed := true, recurses := true, named := ["math/bits.divideError", "math/bits.overflowError"], apart := false, narrowed := true }
def PrioKeepsUptoSaid : Prop := prioKeepsUptoRow.holds Try.pinned (OpenSpec.upto prioKeepsSpec)

/-- 'telemeterlaw11.PrioAbove', WHERE WHAT IT READS IS OF BULK AT MOST 1048576: true; the input reads as it did. -/
def prioAboveUptoRow : OpenClaim := { program := "ythlmgamdnclmhaa", sum := "f2614ea83f318a0e4c22088dd84f93ea8a32220bbff678e23c0565e1778b12e4", func := "telemeter/telemeterlaw11.PrioAbove", spec := "prioAbove", inPlace := ["math/bits.Add64"], unfollowed := true, recurses := true, named := ["math/bits.divideError", "math/bits.overflowError"], apart := false, narrowed := true }
def PrioAboveUptoSaid : Prop := prioAboveUptoRow.holds Try.pinned (OpenSpec.upto prioAboveSpec)

/-- 'telemeterlaw11.PrioAll', WHERE WHAT IT READS IS OF BULK AT MOST 1048576: true; the input reads as it did. -/
def prioAllUptoRow : OpenClaim := { program := "ythlmgamdnclmhaa", sum := "f2614ea83f318a0e4c22088dd84f93ea8a32220bbff678e23c0565e1778b12e4", func := "telemeter/telemeterlaw11.PrioAll", spec := "prioAll", inPlace := ["math/bits.Add64"], unfollowed := true, recurses := true, named := ["math/bits.divideError", "math/bits.overflowError"], apart := false, narrowed := true }
def PrioAllUptoSaid : Prop := prioAllUptoRow.holds Try.pinned (OpenSpec.upto prioAllSpec)

/-- 'telemeterlaw11.PrioMean', WHERE WHAT IT READS IS OF BULK AT MOST 1048576: true; the input reads as it did. -/
def prioMeanUptoRow : OpenClaim := { program := "ythlmgamdnclmhaa", sum := "f2614ea83f318a0e4c22088dd84f93ea8a32220bbff678e23c0565e1778b12e4", func := "telemeter/telemeterlaw11.PrioMean", spec := "prioMean", inPlace := ["math/bits.Add64"], unfollowed := true, recurses := true, named := ["math/bits.divideError", "math/bits.overflowError"], apart := false, narrowed := true }
def PrioMeanUptoSaid : Prop := prioMeanUptoRow.holds Try.pinned (OpenSpec.upto prioMeanSpec)

/-- 'telemeterlaw11.PrioGreatest', WHERE WHAT IT READS IS OF BULK AT MOST 1048576: true; the input reads as it did. -/
def prioGreatestUptoRow : OpenClaim := { program := "ythlmgamdnclmhaa", sum := "f2614ea83f318a0e4c22088dd84f93ea8a32220bbff678e23c0565e1778b12e4", func := "telemeter/telemeterlaw11.PrioGreatest", spec := "prioGreatest", inPlace := ["math/bits.Add64"], unfollowed := true, recurses := true, named := ["math/bits.divideError", "math/bits.overflowError"], apart := false, narrowed := true }
def PrioGreatestUptoSaid : Prop := prioGreatestUptoRow.holds Try.pinned (OpenSpec.upto prioGreatestSpec)

end Rows
end Go.Proofs.Ythlmgamdnclmhaa
