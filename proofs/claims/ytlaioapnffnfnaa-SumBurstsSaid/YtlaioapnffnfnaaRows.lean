/-
  No cell of these rows narrows 'for every input' (looked for: loops, veiled, ifaces, maps, wideKeys, modest, calm, conditions, laid).
  DERIVED. THE GIVEN ROWS OF THIS SEAT. 5 by the template 'for every input the law returns true; each argument reads behind the call as it read before'; 0 by the template 'total and deterministic' (their statements: YtlaioapnffnfnaaTotals.lean).
  GIVEN WITH THE SEED: the statements are not yours to turn. If you find one false, say at which input.
  Laid BY PROGRAM, IN A SANDBOX (cutbox-rows.mjs): the forced cells as the released guide's own fill.sh prints them over the translation df531bba9d293fe3… (all of the seat's roots in one cut). By AI agents, Wed Nov 11 2026. No macro, syntax, notation, axiom, sorry.
-/
import Derived.Test.YtlaioapnffnfnaaChecked
import GoSem.Claim
import GoSem.ClaimJoined
import GoSem.ClaimMapViews
import Derived.JoinedTies
import Derived.KernelRfl
namespace Go.Proofs.Ytlaioapnffnfnaa
/- THE CELL 'sum', in the pinned program and in every row, IS THE sha256 OF THE DUMP (.gsa) THAT YtlaioapnffnfnaaProg.lean LOADS. Nothing in Lean hashes anything: it is a label: what it is worth is what the hold of that sum in a sandbox is worth. -/
noncomputable def Try.pinned : Pinned := { name := "ytlaioapnffnfnaa", sum := "df531bba9d293fe3d8e71679c41c712d00a9e9c5ce7a7f15912798b291997941", checked := Try.checked }
namespace Rows
def none {H : Type} : Left H := { results := [], args := [] }

/-- 'alidadelaw07.SumTells': WHATEVER THE INPUT: true; the input reads as it did. -/
def sumTellsSpec : ChangeSpec := { name := "sumTells", fn := fun _ => fun
  | [d1, d2] => { results := [.lit (.bool true)], args := [d1, d2] }
  | _ => none }
def sumTellsRow : OpenClaim := { program := "ytlaioapnffnfnaa", sum := "df531bba9d293fe3d8e71679c41c712d00a9e9c5ce7a7f15912798b291997941", func := "alidade/alidadelaw07.SumTells", spec := "sumTells", apart := false }
def SumTellsSaid : Prop := sumTellsRow.holds Try.pinned (OpenSpec.ofChange sumTellsSpec)

/-- ITS FALSE NEIGHBOUR: 'it returns false'. Refute it at one input. -/
def sumTellsWrong : ChangeSpec := { name := "sumTells", fn := fun _ => fun
  | [d1, d2] => { results := [.lit (.bool false)], args := [d1, d2] }
  | _ => none }
def SumTellsWrongFalsely : Prop := sumTellsRow.holds Try.pinned (OpenSpec.ofChange sumTellsWrong)

/-- 'alidadelaw07.SumBack': WHATEVER THE INPUT: true; the input reads as it did. -/
def sumBackSpec : ChangeSpec := { name := "sumBack", fn := fun _ => fun
  | [d1, d2, d3] => { results := [.lit (.bool true)], args := [d1, d2, d3] }
  | _ => none }
def sumBackRow : OpenClaim := { program := "ytlaioapnffnfnaa", sum := "df531bba9d293fe3d8e71679c41c712d00a9e9c5ce7a7f15912798b291997941", func := "alidade/alidadelaw07.SumBack", spec := "sumBack", apart := false }
def SumBackSaid : Prop := sumBackRow.holds Try.pinned (OpenSpec.ofChange sumBackSpec)

/-- ITS FALSE NEIGHBOUR: 'it returns false'. Refute it at one input. -/
def sumBackWrong : ChangeSpec := { name := "sumBack", fn := fun _ => fun
  | [d1, d2, d3] => { results := [.lit (.bool false)], args := [d1, d2, d3] }
  | _ => none }
def SumBackWrongFalsely : Prop := sumBackRow.holds Try.pinned (OpenSpec.ofChange sumBackWrong)

/-- 'alidadelaw07.SumBursts': WHATEVER THE INPUT: true; the input reads as it did. -/
def sumBurstsSpec : ChangeSpec := { name := "sumBursts", fn := fun _ => fun
  | [d1, d2, d3] => { results := [.lit (.bool true)], args := [d1, d2, d3] }
  | _ => none }
def sumBurstsRow : OpenClaim := { program := "ytlaioapnffnfnaa", sum := "df531bba9d293fe3d8e71679c41c712d00a9e9c5ce7a7f15912798b291997941", func := "alidade/alidadelaw07.SumBursts", spec := "sumBursts", apart := false }
def SumBurstsSaid : Prop := sumBurstsRow.holds Try.pinned (OpenSpec.ofChange sumBurstsSpec)

/-- ITS FALSE NEIGHBOUR: 'it returns false'. Refute it at one input. -/
def sumBurstsWrong : ChangeSpec := { name := "sumBursts", fn := fun _ => fun
  | [d1, d2, d3] => { results := [.lit (.bool false)], args := [d1, d2, d3] }
  | _ => none }
def SumBurstsWrongFalsely : Prop := sumBurstsRow.holds Try.pinned (OpenSpec.ofChange sumBurstsWrong)

/-- 'alidadelaw07.SumLines': WHATEVER THE INPUT: true; the input reads as it did. -/
def sumLinesSpec : ChangeSpec := { name := "sumLines", fn := fun _ => fun
  | [d1, d2, d3] => { results := [.lit (.bool true)], args := [d1, d2, d3] }
  | _ => none }
def sumLinesRow : OpenClaim := { program := "ytlaioapnffnfnaa", sum := "df531bba9d293fe3d8e71679c41c712d00a9e9c5ce7a7f15912798b291997941", func := "alidade/alidadelaw07.SumLines", spec := "sumLines", apart := false }
def SumLinesSaid : Prop := sumLinesRow.holds Try.pinned (OpenSpec.ofChange sumLinesSpec)

/-- ITS FALSE NEIGHBOUR: 'it returns false'. Refute it at one input. -/
def sumLinesWrong : ChangeSpec := { name := "sumLines", fn := fun _ => fun
  | [d1, d2, d3] => { results := [.lit (.bool false)], args := [d1, d2, d3] }
  | _ => none }
def SumLinesWrongFalsely : Prop := sumLinesRow.holds Try.pinned (OpenSpec.ofChange sumLinesWrong)

/-- 'alidadelaw07.SumShort': WHATEVER THE INPUT: true; the input reads as it did. -/
def sumShortSpec : ChangeSpec := { name := "sumShort", fn := fun _ => fun
  | [d] => { results := [.lit (.bool true)], args := [d] }
  | _ => none }
def sumShortRow : OpenClaim := { program := "ytlaioapnffnfnaa", sum := "df531bba9d293fe3d8e71679c41c712d00a9e9c5ce7a7f15912798b291997941", func := "alidade/alidadelaw07.SumShort", spec := "sumShort", apart := false }
def SumShortSaid : Prop := sumShortRow.holds Try.pinned (OpenSpec.ofChange sumShortSpec)

/-- ITS FALSE NEIGHBOUR: 'it returns false'. Refute it at one input. -/
def sumShortWrong : ChangeSpec := { name := "sumShort", fn := fun _ => fun
  | [d] => { results := [.lit (.bool false)], args := [d] }
  | _ => none }
def SumShortWrongFalsely : Prop := sumShortRow.holds Try.pinned (OpenSpec.ofChange sumShortWrong)

/- THE SECOND FORM. 'bulk': how many values and letters a reading holds, each counted each time it is reached (what is shared counts as often as it is met; a slice's spare places count too). A statement '..UptoSaid' is the law's where the arguments, and the package variables that the reading takes, are together of bulk at most 1048576: NARROWER than '..Said'. Prove '..Said' where nothing that the law and all that it calls make is longer than what came in: it says more and counts as full. Else prove '..UptoSaid'. A law counts once. -/
mutual
def uptoBulk {H : Type} : DataW H → Nat
  | .lit (.string bytes) => bytes.length + 1
  | .lit _ => 1
  | .nil => 1
  | .ptr d => uptoBulk d + 1
  | .slice elems spare => uptoBulkAll elems + uptoBulkAll spare + 1
  | .agg parts => uptoBulkAll parts + 1
  | .iface _ d => uptoBulk d + 1
  | .map entries => uptoBulkEntries entries + 1
  | .held _ => 1
def uptoBulkAll {H : Type} : List (DataW H) → Nat
  | [] => 0
  | d :: r => uptoBulk d + uptoBulkAll r
def uptoBulkEntries {H : Type} : List (Lit × DataW H) → Nat
  | [] => 0
  | x :: r => uptoBulkEntry x + uptoBulkEntries r
def uptoBulkEntry {H : Type} : Lit × DataW H → Nat
  | (.string bytes, d) => bytes.length + uptoBulk d + 1
  | (_, d) => uptoBulk d + 1
 end
def uptoSmall : (H : Type) → List (DataW H) → Bool := fun _ ds => decide (uptoBulkAll ds ≤ 1048576)
def OpenSpec.upto (s : _root_.Go.ChangeSpec) : _root_.Go.OpenSpec := { _root_.Go.OpenSpec.ofChange s with cond := some uptoSmall }

/-- 'alidadelaw07.SumTells', WHERE WHAT IT READS IS OF BULK AT MOST 1048576: true; the input reads as it did. -/
def sumTellsUptoRow : OpenClaim := { program := "ytlaioapnffnfnaa", sum := "df531bba9d293fe3d8e71679c41c712d00a9e9c5ce7a7f15912798b291997941", func := "alidade/alidadelaw07.SumTells", spec := "sumTells", apart := false, narrowed := true }
def SumTellsUptoSaid : Prop := sumTellsUptoRow.holds Try.pinned (OpenSpec.upto sumTellsSpec)

/-- 'alidadelaw07.SumBack', WHERE WHAT IT READS IS OF BULK AT MOST 1048576: true; the input reads as it did. -/
def sumBackUptoRow : OpenClaim := { program := "ytlaioapnffnfnaa", sum := "df531bba9d293fe3d8e71679c41c712d00a9e9c5ce7a7f15912798b291997941", func := "alidade/alidadelaw07.SumBack", spec := "sumBack", apart := false, narrowed := true }
def SumBackUptoSaid : Prop := sumBackUptoRow.holds Try.pinned (OpenSpec.upto sumBackSpec)

/-- 'alidadelaw07.SumBursts', WHERE WHAT IT READS IS OF BULK AT MOST 1048576: true; the input reads as it did. -/
def sumBurstsUptoRow : OpenClaim := { program := "ytlaioapnffnfnaa", sum := "df531bba9d293fe3d8e71679c41c712d00a9e9c5ce7a7f15912798b291997941", func := "alidade/alidadelaw07.SumBursts", spec := "sumBursts", apart := false, narrowed := true }
def SumBurstsUptoSaid : Prop := sumBurstsUptoRow.holds Try.pinned (OpenSpec.upto sumBurstsSpec)

/-- 'alidadelaw07.SumLines', WHERE WHAT IT READS IS OF BULK AT MOST 1048576: true; the input reads as it did. -/
def sumLinesUptoRow : OpenClaim := { program := "ytlaioapnffnfnaa", sum := "df531bba9d293fe3d8e71679c41c712d00a9e9c5ce7a7f15912798b291997941", func := "alidade/alidadelaw07.SumLines", spec := "sumLines", apart := false, narrowed := true }
def SumLinesUptoSaid : Prop := sumLinesUptoRow.holds Try.pinned (OpenSpec.upto sumLinesSpec)

/-- 'alidadelaw07.SumShort', WHERE WHAT IT READS IS OF BULK AT MOST 1048576: true; the input reads as it did. -/
def sumShortUptoRow : OpenClaim := { program := "ytlaioapnffnfnaa", sum := "df531bba9d293fe3d8e71679c41c712d00a9e9c5ce7a7f15912798b291997941", func := "alidade/alidadelaw07.SumShort", spec := "sumShort", apart := false, narrowed := true }
def SumShortUptoSaid : Prop := sumShortUptoRow.holds Try.pinned (OpenSpec.upto sumShortSpec)

end Rows
end Go.Proofs.Ytlaioapnffnfnaa
