/-
  No cell of these rows narrows 'for every input' (looked for: loops, veiled, ifaces, maps, wideKeys, modest, calm, conditions, laid).
  DERIVED. THE GIVEN ROWS OF THIS SEAT. 6 by the template 'for every input the law returns true; each argument reads behind the call as it read before'; 0 by the template 'total and deterministic' (their statements: YtlohehkagaabfaaTotals.lean).
  GIVEN WITH THE SEED: the statements are not yours to turn. If you find one false, say at which input.
  Laid BY PROGRAM, IN A SANDBOX (cutbox-rows.mjs): the forced cells as the released guide's own fill.sh prints them over the translation 8e0659bfe0e19811… (all of the seat's roots in one cut). By AI agents, Wed Nov 11 2026. No macro, syntax, notation, axiom, sorry.
-/
import Derived.Test.YtlohehkagaabfaaChecked
import GoSem.Claim
import GoSem.ClaimJoined
import GoSem.ClaimMapViews
import Derived.JoinedTies
import Derived.KernelRfl
namespace Go.Proofs.Ytlohehkagaabfaa
/- THE CELL 'sum', in the pinned program and in every row, IS THE sha256 OF THE DUMP (.gsa) THAT YtlohehkagaabfaaProg.lean LOADS. Nothing in Lean hashes anything: it is a label: what it is worth is what the hold of that sum in a sandbox is worth. -/
noncomputable def Try.pinned : Pinned := { name := "ytlohehkagaabfaa", sum := "8e0659bfe0e1981133bb6ad5e77d7f347600e87c844fd2568a31c1fe0455e0bd", checked := Try.checked }
namespace Rows
def none {H : Type} : Left H := { results := [], args := [] }

/-- 'alidadelaw09.DeltaLong': WHATEVER THE INPUT: true; the input reads as it did. -/
def deltaLongSpec : ChangeSpec := { name := "deltaLong", fn := fun _ => fun
  | [d1, d2] => { results := [.lit (.bool true)], args := [d1, d2] }
  | _ => none }
def deltaLongRow : OpenClaim := { program := "ytlohehkagaabfaa", sum := "8e0659bfe0e1981133bb6ad5e77d7f347600e87c844fd2568a31c1fe0455e0bd", func := "alidade/alidadelaw09.DeltaLong", spec := "deltaLong", apart := false }
def DeltaLongSaid : Prop := deltaLongRow.holds Try.pinned (OpenSpec.ofChange deltaLongSpec)

/-- ITS FALSE NEIGHBOUR: 'it returns false'. Refute it at one input. -/
def deltaLongWrong : ChangeSpec := { name := "deltaLong", fn := fun _ => fun
  | [d1, d2] => { results := [.lit (.bool false)], args := [d1, d2] }
  | _ => none }
def DeltaLongWrongFalsely : Prop := deltaLongRow.holds Try.pinned (OpenSpec.ofChange deltaLongWrong)

/-- 'alidadelaw09.DeltaCuts': WHATEVER THE INPUT: true; the input reads as it did. -/
def deltaCutsSpec : ChangeSpec := { name := "deltaCuts", fn := fun _ => fun
  | [d] => { results := [.lit (.bool true)], args := [d] }
  | _ => none }
def deltaCutsRow : OpenClaim := { program := "ytlohehkagaabfaa", sum := "8e0659bfe0e1981133bb6ad5e77d7f347600e87c844fd2568a31c1fe0455e0bd", func := "alidade/alidadelaw09.DeltaCuts", spec := "deltaCuts", unfollowed := true, recurses := true, apart := false }
def DeltaCutsSaid : Prop := deltaCutsRow.holds Try.pinned (OpenSpec.ofChange deltaCutsSpec)

/-- ITS FALSE NEIGHBOUR: 'it returns false'. Refute it at one input. -/
def deltaCutsWrong : ChangeSpec := { name := "deltaCuts", fn := fun _ => fun
  | [d] => { results := [.lit (.bool false)], args := [d] }
  | _ => none }
def DeltaCutsWrongFalsely : Prop := deltaCutsRow.holds Try.pinned (OpenSpec.ofChange deltaCutsWrong)

/-- 'alidadelaw09.DeltaTells': WHATEVER THE INPUT: true; the input reads as it did. -/
def deltaTellsSpec : ChangeSpec := { name := "deltaTells", fn := fun _ => fun
  | [d1, d2, d3] => { results := [.lit (.bool true)], args := [d1, d2, d3] }
  | _ => none }
def deltaTellsRow : OpenClaim := { program := "ytlohehkagaabfaa", sum := "8e0659bfe0e1981133bb6ad5e77d7f347600e87c844fd2568a31c1fe0455e0bd", func := "alidade/alidadelaw09.DeltaTells", spec := "deltaTells", apart := false }
def DeltaTellsSaid : Prop := deltaTellsRow.holds Try.pinned (OpenSpec.ofChange deltaTellsSpec)

/-- ITS FALSE NEIGHBOUR: 'it returns false'. Refute it at one input. -/
def deltaTellsWrong : ChangeSpec := { name := "deltaTells", fn := fun _ => fun
  | [d1, d2, d3] => { results := [.lit (.bool false)], args := [d1, d2, d3] }
  | _ => none }
def DeltaTellsWrongFalsely : Prop := deltaTellsRow.holds Try.pinned (OpenSpec.ofChange deltaTellsWrong)

/-- 'alidadelaw09.DeltaOne': WHATEVER THE INPUT: true; the input reads as it did. -/
def deltaOneSpec : ChangeSpec := { name := "deltaOne", fn := fun _ => fun
  | [d1, d2] => { results := [.lit (.bool true)], args := [d1, d2] }
  | _ => none }
def deltaOneRow : OpenClaim := { program := "ytlohehkagaabfaa", sum := "8e0659bfe0e1981133bb6ad5e77d7f347600e87c844fd2568a31c1fe0455e0bd", func := "alidade/alidadelaw09.DeltaOne", spec := "deltaOne", apart := false }
def DeltaOneSaid : Prop := deltaOneRow.holds Try.pinned (OpenSpec.ofChange deltaOneSpec)

/-- ITS FALSE NEIGHBOUR: 'it returns false'. Refute it at one input. -/
def deltaOneWrong : ChangeSpec := { name := "deltaOne", fn := fun _ => fun
  | [d1, d2] => { results := [.lit (.bool false)], args := [d1, d2] }
  | _ => none }
def DeltaOneWrongFalsely : Prop := deltaOneRow.holds Try.pinned (OpenSpec.ofChange deltaOneWrong)

/-- 'alidadelaw09.DeltaThere': WHATEVER THE INPUT: true; the input reads as it did. -/
def deltaThereSpec : ChangeSpec := { name := "deltaThere", fn := fun _ => fun
  | [d1, d2] => { results := [.lit (.bool true)], args := [d1, d2] }
  | _ => none }
def deltaThereRow : OpenClaim := { program := "ytlohehkagaabfaa", sum := "8e0659bfe0e1981133bb6ad5e77d7f347600e87c844fd2568a31c1fe0455e0bd", func := "alidade/alidadelaw09.DeltaThere", spec := "deltaThere", apart := false }
def DeltaThereSaid : Prop := deltaThereRow.holds Try.pinned (OpenSpec.ofChange deltaThereSpec)

/-- ITS FALSE NEIGHBOUR: 'it returns false'. Refute it at one input. -/
def deltaThereWrong : ChangeSpec := { name := "deltaThere", fn := fun _ => fun
  | [d1, d2] => { results := [.lit (.bool false)], args := [d1, d2] }
  | _ => none }
def DeltaThereWrongFalsely : Prop := deltaThereRow.holds Try.pinned (OpenSpec.ofChange deltaThereWrong)

/-- 'alidadelaw09.DeltaBack': WHATEVER THE INPUT: true; the input reads as it did. -/
def deltaBackSpec : ChangeSpec := { name := "deltaBack", fn := fun _ => fun
  | [d1, d2] => { results := [.lit (.bool true)], args := [d1, d2] }
  | _ => none }
def deltaBackRow : OpenClaim := { program := "ytlohehkagaabfaa", sum := "8e0659bfe0e1981133bb6ad5e77d7f347600e87c844fd2568a31c1fe0455e0bd", func := "alidade/alidadelaw09.DeltaBack", spec := "deltaBack", unfollowed := true, recurses := true, apart := false }
def DeltaBackSaid : Prop := deltaBackRow.holds Try.pinned (OpenSpec.ofChange deltaBackSpec)

/-- ITS FALSE NEIGHBOUR: 'it returns false'. Refute it at one input. -/
def deltaBackWrong : ChangeSpec := { name := "deltaBack", fn := fun _ => fun
  | [d1, d2] => { results := [.lit (.bool false)], args := [d1, d2] }
  | _ => none }
def DeltaBackWrongFalsely : Prop := deltaBackRow.holds Try.pinned (OpenSpec.ofChange deltaBackWrong)

/- THE SECOND FORM. 'bulk': how many values and letters a reading holds, each counted each time it is reached (what is shared counts as often as it is met; a slice's spare places count too). A statement '..UptoSaid' is the law's where the arguments, and the package variables that the reading takes, are together of bulk at most 1048576: NARROWER than '..Said'. Prove '..Said' where nothing that the law and all that it calls make is longer than what came in: it says more and counts as full. Else prove '..UptoSaid'. A law counts once. -/
mutual
def uptoBulk {H : Type} : DataW H → Nat
  | .lit (.string bytes) => bytes.length + 1
  | .lit _ => 1
  | .nil => 1
  | .ptr d => uptoBulk d + 1
  | .slice elems spare => uptoBulkAll elems + uptoBulkAll spare + 1
  | .agg parts => uptoBulkAll parts + 1
  | .iface _ d => uptoBulk d + 1
  | .map entries => uptoBulkEntries entries + 1
  | .held _ => 1
def uptoBulkAll {H : Type} : List (DataW H) → Nat
  | [] => 0
  | d :: r => uptoBulk d + uptoBulkAll r
def uptoBulkEntries {H : Type} : List (Lit × DataW H) → Nat
  | [] => 0
  | x :: r => uptoBulkEntry x + uptoBulkEntries r
def uptoBulkEntry {H : Type} : Lit × DataW H → Nat
  | (.string bytes, d) => bytes.length + uptoBulk d + 1
  | (_, d) => uptoBulk d + 1
 end
def uptoSmall : (H : Type) → List (DataW H) → Bool := fun _ ds => decide (uptoBulkAll ds ≤ 1048576)
def OpenSpec.upto (s : _root_.Go.ChangeSpec) : _root_.Go.OpenSpec := { _root_.Go.OpenSpec.ofChange s with cond := some uptoSmall }

/-- 'alidadelaw09.DeltaLong', WHERE WHAT IT READS IS OF BULK AT MOST 1048576: true; the input reads as it did. -/
def deltaLongUptoRow : OpenClaim := { program := "ytlohehkagaabfaa", sum := "8e0659bfe0e1981133bb6ad5e77d7f347600e87c844fd2568a31c1fe0455e0bd", func := "alidade/alidadelaw09.DeltaLong", spec := "deltaLong", apart := false, narrowed := true }
def DeltaLongUptoSaid : Prop := deltaLongUptoRow.holds Try.pinned (OpenSpec.upto deltaLongSpec)

/-- 'alidadelaw09.DeltaCuts', WHERE WHAT IT READS IS OF BULK AT MOST 1048576: true; the input reads as it did. -/
def deltaCutsUptoRow : OpenClaim := { program := "ytlohehkagaabfaa", sum := "8e0659bfe0e1981133bb6ad5e77d7f347600e87c844fd2568a31c1fe0455e0bd", func := "alidade/alidadelaw09.DeltaCuts", spec := "deltaCuts", unfollowed := true, recurses := true, apart := false, narrowed := true }
def DeltaCutsUptoSaid : Prop := deltaCutsUptoRow.holds Try.pinned (OpenSpec.upto deltaCutsSpec)

/-- 'alidadelaw09.DeltaTells', WHERE WHAT IT READS IS OF BULK AT MOST 1048576: true; the input reads as it did. -/
def deltaTellsUptoRow : OpenClaim := { program := "ytlohehkagaabfaa", sum := "8e0659bfe0e1981133bb6ad5e77d7f347600e87c844fd2568a31c1fe0455e0bd", func := "alidade/alidadelaw09.DeltaTells", spec := "deltaTells", apart := false, narrowed := true }
def DeltaTellsUptoSaid : Prop := deltaTellsUptoRow.holds Try.pinned (OpenSpec.upto deltaTellsSpec)

/-- 'alidadelaw09.DeltaOne', WHERE WHAT IT READS IS OF BULK AT MOST 1048576: true; the input reads as it did. -/
def deltaOneUptoRow : OpenClaim := { program := "ytlohehkagaabfaa", sum := "8e0659bfe0e1981133bb6ad5e77d7f347600e87c844fd2568a31c1fe0455e0bd", func := "alidade/alidadelaw09.DeltaOne", spec := "deltaOne", apart := false, narrowed := true }
def DeltaOneUptoSaid : Prop := deltaOneUptoRow.holds Try.pinned (OpenSpec.upto deltaOneSpec)

/-- 'alidadelaw09.DeltaThere', WHERE WHAT IT READS IS OF BULK AT MOST 1048576: true; the input reads as it did. -/
def deltaThereUptoRow : OpenClaim := { program := "ytlohehkagaabfaa", sum := "8e0659bfe0e1981133bb6ad5e77d7f347600e87c844fd2568a31c1fe0455e0bd", func := "alidade/alidadelaw09.DeltaThere", spec := "deltaThere", apart := false, narrowed := true }
def DeltaThereUptoSaid : Prop := deltaThereUptoRow.holds Try.pinned (OpenSpec.upto deltaThereSpec)

/-- 'alidadelaw09.DeltaBack', WHERE WHAT IT READS IS OF BULK AT MOST 1048576: true; the input reads as it did. -/
def deltaBackUptoRow : OpenClaim := { program := "ytlohehkagaabfaa", sum := "8e0659bfe0e1981133bb6ad5e77d7f347600e87c844fd2568a31c1fe0455e0bd", func := "alidade/alidadelaw09.DeltaBack", spec := "deltaBack", unfollowed := true, recurses := true, apart := false, narrowed := true }
def DeltaBackUptoSaid : Prop := deltaBackUptoRow.holds Try.pinned (OpenSpec.upto deltaBackSpec)

end Rows
end Go.Proofs.Ytlohehkagaabfaa
