/-
  No cell of these rows narrows 'for every input' (looked for: loops, veiled, ifaces, maps, wideKeys, modest, calm, conditions, laid).
  DERIVED. THE GIVEN ROWS OF THIS SEAT. 5 by the template 'for every input the law returns true; each argument reads behind the call as it read before'; 0 by the template 'total and deterministic' (their statements: YtaiboicipbhmhaaTotals.lean).
  GIVEN WITH THE SEED: the statements are not yours to turn. If you find one false, say at which input.
  Laid BY PROGRAM, IN A SANDBOX (cutbox-rows.mjs): the forced cells as the released guide's own fill.sh prints them over the translation 04f2dcd048b57786… (all of the seat's roots in one cut). By AI agents, Wed Nov 11 2026. No macro, syntax, notation, axiom, sorry.
-/
import Derived.Test.YtaiboicipbhmhaaChecked
import GoSem.Claim
import GoSem.ClaimJoined
import GoSem.ClaimMapViews
import Derived.JoinedTies
import Derived.KernelRfl
namespace Go.Proofs.Ytaiboicipbhmhaa
/- THE CELL 'sum', in the pinned program and in every row, IS THE sha256 OF THE DUMP (.gsa) THAT YtaiboicipbhmhaaProg.lean LOADS. Nothing in Lean hashes anything: it is a label: what it is worth is what the hold of that sum in a sandbox is worth. -/
noncomputable def Try.pinned : Pinned := { name := "ytaiboicipbhmhaa", sum := "04f2dcd048b57786b78f9236b4da524834a848cd2b193def62e887630bf708d4", checked := Try.checked }
namespace Rows
def none {H : Type} : Left H := { results := [], args := [] }

/-- 'alidadelaw18.ArbiterFences': WHATEVER THE INPUT: true; the input reads as it did. -/
def arbiterFencesSpec : ChangeSpec := { name := "arbiterFences", fn := fun _ => fun
  | [d1, d2] => { results := [.lit (.bool true)], args := [d1, d2] }
  | _ => none }
def arbiterFencesRow : OpenClaim := { program := "ytaiboicipbhmhaa", sum := "04f2dcd048b57786b78f9236b4da524834a848cd2b193def62e887630bf708d4", func := "alidade/alidadelaw18.ArbiterFences", spec := "arbiterFences", unfollowed := true, recurses := true, apart := false }
def ArbiterFencesSaid : Prop := arbiterFencesRow.holds Try.pinned (OpenSpec.ofChange arbiterFencesSpec)

/-- ITS FALSE NEIGHBOUR: 'it returns false'. Refute it at one input. -/
def arbiterFencesWrong : ChangeSpec := { name := "arbiterFences", fn := fun _ => fun
  | [d1, d2] => { results := [.lit (.bool false)], args := [d1, d2] }
  | _ => none }
def ArbiterFencesWrongFalsely : Prop := arbiterFencesRow.holds Try.pinned (OpenSpec.ofChange arbiterFencesWrong)

/-- 'alidadelaw18.ArbiterLends': WHATEVER THE INPUT: true; the input reads as it did. -/
def arbiterLendsSpec : ChangeSpec := { name := "arbiterLends", fn := fun _ => fun
  | [d] => { results := [.lit (.bool true)], args := [d] }
  | _ => none }
def arbiterLendsRow : OpenClaim := { program := "ytaiboicipbhmhaa", sum := "04f2dcd048b57786b78f9236b4da524834a848cd2b193def62e887630bf708d4", func := "alidade/alidadelaw18.ArbiterLends", spec := "arbiterLends", unfollowed := true, recurses := true, apart := false }
def ArbiterLendsSaid : Prop := arbiterLendsRow.holds Try.pinned (OpenSpec.ofChange arbiterLendsSpec)

/-- ITS FALSE NEIGHBOUR: 'it returns false'. Refute it at one input. -/
def arbiterLendsWrong : ChangeSpec := { name := "arbiterLends", fn := fun _ => fun
  | [d] => { results := [.lit (.bool false)], args := [d] }
  | _ => none }
def ArbiterLendsWrongFalsely : Prop := arbiterLendsRow.holds Try.pinned (OpenSpec.ofChange arbiterLendsWrong)

/-- 'alidadelaw18.ArbiterSteps': WHATEVER THE INPUT: true; the input reads as it did. -/
def arbiterStepsSpec : ChangeSpec := { name := "arbiterSteps", fn := fun _ => fun
  | [d1, d2] => { results := [.lit (.bool true)], args := [d1, d2] }
  | _ => none }
def arbiterStepsRow : OpenClaim := { program := "ytaiboicipbhmhaa", sum := "04f2dcd048b57786b78f9236b4da524834a848cd2b193def62e887630bf708d4", func := "alidade/alidadelaw18.ArbiterSteps", spec := "arbiterSteps", unfollowed := true, recurses := true, apart := false }
def ArbiterStepsSaid : Prop := arbiterStepsRow.holds Try.pinned (OpenSpec.ofChange arbiterStepsSpec)

/-- ITS FALSE NEIGHBOUR: 'it returns false'. Refute it at one input. -/
def arbiterStepsWrong : ChangeSpec := { name := "arbiterSteps", fn := fun _ => fun
  | [d1, d2] => { results := [.lit (.bool false)], args := [d1, d2] }
  | _ => none }
def ArbiterStepsWrongFalsely : Prop := arbiterStepsRow.holds Try.pinned (OpenSpec.ofChange arbiterStepsWrong)

/-- 'alidadelaw18.ArbiterHears': WHATEVER THE INPUT: true; the input reads as it did. -/
def arbiterHearsSpec : ChangeSpec := { name := "arbiterHears", fn := fun _ => fun
  | [d1, d2, d3] => { results := [.lit (.bool true)], args := [d1, d2, d3] }
  | _ => none }
def arbiterHearsRow : OpenClaim := { program := "ytaiboicipbhmhaa", sum := "04f2dcd048b57786b78f9236b4da524834a848cd2b193def62e887630bf708d4", func := "alidade/alidadelaw18.ArbiterHears", spec := "arbiterHears", unfollowed := true, recurses := true, apart := false }
def ArbiterHearsSaid : Prop := arbiterHearsRow.holds Try.pinned (OpenSpec.ofChange arbiterHearsSpec)

/-- ITS FALSE NEIGHBOUR: 'it returns false'. Refute it at one input. -/
def arbiterHearsWrong : ChangeSpec := { name := "arbiterHears", fn := fun _ => fun
  | [d1, d2, d3] => { results := [.lit (.bool false)], args := [d1, d2, d3] }
  | _ => none }
def ArbiterHearsWrongFalsely : Prop := arbiterHearsRow.holds Try.pinned (OpenSpec.ofChange arbiterHearsWrong)

/-- 'alidadelaw18.ArbiterKeeps': WHATEVER THE INPUT: true; the input reads as it did. -/
def arbiterKeepsSpec : ChangeSpec := { name := "arbiterKeeps", fn := fun _ => fun
  | [d1, d2] => { results := [.lit (.bool true)], args := [d1, d2] }
  | _ => none }
def arbiterKeepsRow : OpenClaim := { program := "ytaiboicipbhmhaa", sum := "04f2dcd048b57786b78f9236b4da524834a848cd2b193def62e887630bf708d4", func := "alidade/alidadelaw18.ArbiterKeeps", spec := "arbiterKeeps", unfollowed := true, recurses := true, apart := false }
def ArbiterKeepsSaid : Prop := arbiterKeepsRow.holds Try.pinned (OpenSpec.ofChange arbiterKeepsSpec)

/-- ITS FALSE NEIGHBOUR: 'it returns false'. Refute it at one input. -/
def arbiterKeepsWrong : ChangeSpec := { name := "arbiterKeeps", fn := fun _ => fun
  | [d1, d2] => { results := [.lit (.bool false)], args := [d1, d2] }
  | _ => none }
def ArbiterKeepsWrongFalsely : Prop := arbiterKeepsRow.holds Try.pinned (OpenSpec.ofChange arbiterKeepsWrong)

/- THE SECOND FORM. 'bulk': how many values and letters a reading holds, each counted each time it is reached (what is shared counts as often as it is met; a slice's spare places count too). A statement '..UptoSaid' is the law's where the arguments, and the package variables that the reading takes, are together of bulk at most 1048576: NARROWER than '..Said'. Prove '..Said' where nothing that the law and all that it calls make is longer than what came in: it says more and counts as full. Else prove '..UptoSaid'. A law counts once. -/
mutual
def uptoBulk {H : Type} : DataW H → Nat
  | .lit (.string bytes) => bytes.length + 1
  | .lit _ => 1
  | .nil => 1
  | .ptr d => uptoBulk d + 1
  | .slice elems spare => uptoBulkAll elems + uptoBulkAll spare + 1
  | .agg parts => uptoBulkAll parts + 1
  | .iface _ d => uptoBulk d + 1
  | .map entries => uptoBulkEntries entries + 1
  | .held _ => 1
def uptoBulkAll {H : Type} : List (DataW H) → Nat
  | [] => 0
  | d :: r => uptoBulk d + uptoBulkAll r
def uptoBulkEntries {H : Type} : List (Lit × DataW H) → Nat
  | [] => 0
  | x :: r => uptoBulkEntry x + uptoBulkEntries r
def uptoBulkEntry {H : Type} : Lit × DataW H → Nat
  | (.string bytes, d) => bytes.length + uptoBulk d + 1
  | (_, d) => uptoBulk d + 1
 end
def uptoSmall : (H : Type) → List (DataW H) → Bool := fun _ ds => decide (uptoBulkAll ds ≤ 1048576)
def OpenSpec.upto (s : _root_.Go.ChangeSpec) : _root_.Go.OpenSpec := { _root_.Go.OpenSpec.ofChange s with cond := some uptoSmall }

/-- 'alidadelaw18.ArbiterFences', WHERE WHAT IT READS IS OF BULK AT MOST 1048576: true; the input reads as it did. -/
def arbiterFencesUptoRow : OpenClaim := { program := "ytaiboicipbhmhaa", sum := "04f2dcd048b57786b78f9236b4da524834a848cd2b193def62e887630bf708d4", func := "alidade/alidadelaw18.ArbiterFences", spec := "arbiterFences", unfollowed := true, recurses := true, apart := false, narrowed := true }
def ArbiterFencesUptoSaid : Prop := arbiterFencesUptoRow.holds Try.pinned (OpenSpec.upto arbiterFencesSpec)

/-- 'alidadelaw18.ArbiterLends', WHERE WHAT IT READS IS OF BULK AT MOST 1048576: true; the input reads as it did. -/
def arbiterLendsUptoRow : OpenClaim := { program := "ytaiboicipbhmhaa", sum := "04f2dcd048b57786b78f9236b4da524834a848cd2b193def62e887630bf708d4", func := "alidade/alidadelaw18.ArbiterLends", spec := "arbiterLends", unfollowed := true, recurses := true, apart := false, narrowed := true }
def ArbiterLendsUptoSaid : Prop := arbiterLendsUptoRow.holds Try.pinned (OpenSpec.upto arbiterLendsSpec)

/-- 'alidadelaw18.ArbiterSteps', WHERE WHAT IT READS IS OF BULK AT MOST 1048576: true; the input reads as it did. -/
def arbiterStepsUptoRow : OpenClaim := { program := "ytaiboicipbhmhaa", sum := "04f2dcd048b57786b78f9236b4da524834a848cd2b193def62e887630bf708d4", func := "alidade/alidadelaw18.ArbiterSteps", spec := "arbiterSteps", unfollowed := true, recurses := true, apart := false, narrowed := true }
def ArbiterStepsUptoSaid : Prop := arbiterStepsUptoRow.holds Try.pinned (OpenSpec.upto arbiterStepsSpec)

/-- 'alidadelaw18.ArbiterHears', WHERE WHAT IT READS IS OF BULK AT MOST 1048576: true; the input reads as it did. -/
def arbiterHearsUptoRow : OpenClaim := { program := "ytaiboicipbhmhaa", sum := "04f2dcd048b57786b78f9236b4da524834a848cd2b193def62e887630bf708d4", func := "alidade/alidadelaw18.ArbiterHears", spec := "arbiterHears", unfollowed := true, recurses := true, apart := false, narrowed := true }
def ArbiterHearsUptoSaid : Prop := arbiterHearsUptoRow.holds Try.pinned (OpenSpec.upto arbiterHearsSpec)

/-- 'alidadelaw18.ArbiterKeeps', WHERE WHAT IT READS IS OF BULK AT MOST 1048576: true; the input reads as it did. -/
def arbiterKeepsUptoRow : OpenClaim := { program := "ytaiboicipbhmhaa", sum := "04f2dcd048b57786b78f9236b4da524834a848cd2b193def62e887630bf708d4", func := "alidade/alidadelaw18.ArbiterKeeps", spec := "arbiterKeeps", unfollowed := true, recurses := true, apart := false, narrowed := true }
def ArbiterKeepsUptoSaid : Prop := arbiterKeepsUptoRow.holds Try.pinned (OpenSpec.upto arbiterKeepsSpec)

end Rows
end Go.Proofs.Ytaiboicipbhmhaa
