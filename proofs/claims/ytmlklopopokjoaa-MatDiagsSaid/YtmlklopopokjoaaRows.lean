/-
  No cell of these rows narrows 'for every input' (looked for: loops, veiled, ifaces, maps, wideKeys, modest, calm, conditions, laid).
  DERIVED. THE GIVEN ROWS OF THIS SEAT. 6 by the template 'for every input the law returns true; each argument reads behind the call as it read before'; 0 by the template 'total and deterministic' (their statements: YtmlklopopokjoaaTotals.lean).
  GIVEN WITH THE SEED: the statements are not yours to turn. If you find one false, say at which input.
  Laid BY PROGRAM, IN A SANDBOX (cutbox-rows.mjs): the forced cells as the released guide's own fill.sh prints them over the translation 8e01f2a609fd8aa6… (all of the seat's roots in one cut). By AI agents, Wed Nov 11 2026. No macro, syntax, notation, axiom, sorry.
-/
import Derived.Test.YtmlklopopokjoaaChecked
import GoSem.Claim
import GoSem.ClaimJoined
import GoSem.ClaimMapViews
import Derived.JoinedTies
import Derived.KernelRfl
namespace Go.Proofs.Ytmlklopopokjoaa
/- THE CELL 'sum', in the pinned program and in every row, IS THE sha256 OF THE DUMP (.gsa) THAT YtmlklopopokjoaaProg.lean LOADS. Nothing in Lean hashes anything: it is a label: what it is worth is what the hold of that sum in a sandbox is worth. -/
noncomputable def Try.pinned : Pinned := { name := "ytmlklopopokjoaa", sum := "8e01f2a609fd8aa637db934d641c87bdd1a55f70d667e341aebfc1180d9b5055", checked := Try.checked }
namespace Rows
def none {H : Type} : Left H := { results := [], args := [] }

/-- 'alidadelaw03.MatScales': WHATEVER THE INPUT: true; the input reads as it did. -/
def matScalesSpec : ChangeSpec := { name := "matScales", fn := fun _ => fun
  | [d1, d2] => { results := [.lit (.bool true)], args := [d1, d2] }
  | _ => none }
def matScalesRow : OpenClaim := { program := "ytmlklopopokjoaa", sum := "8e01f2a609fd8aa637db934d641c87bdd1a55f70d667e341aebfc1180d9b5055", func := "alidade/alidadelaw03.MatScales", spec := "matScales", unfollowed := true, recurses := true, apart := false }
def MatScalesSaid : Prop := matScalesRow.holds Try.pinned (OpenSpec.ofChange matScalesSpec)

/-- ITS FALSE NEIGHBOUR: 'it returns false'. Refute it at one input. -/
def matScalesWrong : ChangeSpec := { name := "matScales", fn := fun _ => fun
  | [d1, d2] => { results := [.lit (.bool false)], args := [d1, d2] }
  | _ => none }
def MatScalesWrongFalsely : Prop := matScalesRow.holds Try.pinned (OpenSpec.ofChange matScalesWrong)

/-- 'alidadelaw03.MatSums': WHATEVER THE INPUT: true; the input reads as it did. -/
def matSumsSpec : ChangeSpec := { name := "matSums", fn := fun _ => fun
  | [d1, d2] => { results := [.lit (.bool true)], args := [d1, d2] }
  | _ => none }
def matSumsRow : OpenClaim := { program := "ytmlklopopokjoaa", sum := "8e01f2a609fd8aa637db934d641c87bdd1a55f70d667e341aebfc1180d9b5055", func := "alidade/alidadelaw03.MatSums", spec := "matSums", unfollowed := true, recurses := true, apart := false }
def MatSumsSaid : Prop := matSumsRow.holds Try.pinned (OpenSpec.ofChange matSumsSpec)

/-- ITS FALSE NEIGHBOUR: 'it returns false'. Refute it at one input. -/
def matSumsWrong : ChangeSpec := { name := "matSums", fn := fun _ => fun
  | [d1, d2] => { results := [.lit (.bool false)], args := [d1, d2] }
  | _ => none }
def MatSumsWrongFalsely : Prop := matSumsRow.holds Try.pinned (OpenSpec.ofChange matSumsWrong)

/-- 'alidadelaw03.MatEvens': WHATEVER THE INPUT: true; the input reads as it did. -/
def matEvensSpec : ChangeSpec := { name := "matEvens", fn := fun _ => fun
  | [d] => { results := [.lit (.bool true)], args := [d] }
  | _ => none }
def matEvensRow : OpenClaim := { program := "ytmlklopopokjoaa", sum := "8e01f2a609fd8aa637db934d641c87bdd1a55f70d667e341aebfc1180d9b5055", func := "alidade/alidadelaw03.MatEvens", spec := "matEvens", unfollowed := true, recurses := true, apart := false }
def MatEvensSaid : Prop := matEvensRow.holds Try.pinned (OpenSpec.ofChange matEvensSpec)

/-- ITS FALSE NEIGHBOUR: 'it returns false'. Refute it at one input. -/
def matEvensWrong : ChangeSpec := { name := "matEvens", fn := fun _ => fun
  | [d] => { results := [.lit (.bool false)], args := [d] }
  | _ => none }
def MatEvensWrongFalsely : Prop := matEvensRow.holds Try.pinned (OpenSpec.ofChange matEvensWrong)

/-- 'alidadelaw03.MatTwo': WHATEVER THE INPUT: true; the input reads as it did. -/
def matTwoSpec : ChangeSpec := { name := "matTwo", fn := fun _ => fun
  | [d1, d2] => { results := [.lit (.bool true)], args := [d1, d2] }
  | _ => none }
def matTwoRow : OpenClaim := { program := "ytmlklopopokjoaa", sum := "8e01f2a609fd8aa637db934d641c87bdd1a55f70d667e341aebfc1180d9b5055", func := "alidade/alidadelaw03.MatTwo", spec := "matTwo", unfollowed := true, recurses := true, apart := false }
def MatTwoSaid : Prop := matTwoRow.holds Try.pinned (OpenSpec.ofChange matTwoSpec)

/-- ITS FALSE NEIGHBOUR: 'it returns false'. Refute it at one input. -/
def matTwoWrong : ChangeSpec := { name := "matTwo", fn := fun _ => fun
  | [d1, d2] => { results := [.lit (.bool false)], args := [d1, d2] }
  | _ => none }
def MatTwoWrongFalsely : Prop := matTwoRow.holds Try.pinned (OpenSpec.ofChange matTwoWrong)

/-- 'alidadelaw03.MatTurns': WHATEVER THE INPUT: true; the input reads as it did. -/
def matTurnsSpec : ChangeSpec := { name := "matTurns", fn := fun _ => fun
  | [d1, d2] => { results := [.lit (.bool true)], args := [d1, d2] }
  | _ => none }
def matTurnsRow : OpenClaim := { program := "ytmlklopopokjoaa", sum := "8e01f2a609fd8aa637db934d641c87bdd1a55f70d667e341aebfc1180d9b5055", func := "alidade/alidadelaw03.MatTurns", spec := "matTurns", unfollowed := true, recurses := true, apart := false }
def MatTurnsSaid : Prop := matTurnsRow.holds Try.pinned (OpenSpec.ofChange matTurnsSpec)

/-- ITS FALSE NEIGHBOUR: 'it returns false'. Refute it at one input. -/
def matTurnsWrong : ChangeSpec := { name := "matTurns", fn := fun _ => fun
  | [d1, d2] => { results := [.lit (.bool false)], args := [d1, d2] }
  | _ => none }
def MatTurnsWrongFalsely : Prop := matTurnsRow.holds Try.pinned (OpenSpec.ofChange matTurnsWrong)

/-- 'alidadelaw03.MatDiags': WHATEVER THE INPUT: true; the input reads as it did. -/
def matDiagsSpec : ChangeSpec := { name := "matDiags", fn := fun _ => fun
  | [d1, d2] => { results := [.lit (.bool true)], args := [d1, d2] }
  | _ => none }
def matDiagsRow : OpenClaim := { program := "ytmlklopopokjoaa", sum := "8e01f2a609fd8aa637db934d641c87bdd1a55f70d667e341aebfc1180d9b5055", func := "alidade/alidadelaw03.MatDiags", spec := "matDiags", unfollowed := true, recurses := true, apart := false }
def MatDiagsSaid : Prop := matDiagsRow.holds Try.pinned (OpenSpec.ofChange matDiagsSpec)

/-- ITS FALSE NEIGHBOUR: 'it returns false'. Refute it at one input. -/
def matDiagsWrong : ChangeSpec := { name := "matDiags", fn := fun _ => fun
  | [d1, d2] => { results := [.lit (.bool false)], args := [d1, d2] }
  | _ => none }
def MatDiagsWrongFalsely : Prop := matDiagsRow.holds Try.pinned (OpenSpec.ofChange matDiagsWrong)

/- THE SECOND FORM. 'bulk': how many values and letters a reading holds, each counted each time it is reached (what is shared counts as often as it is met; a slice's spare places count too). A statement '..UptoSaid' is the law's where the arguments, and the package variables that the reading takes, are together of bulk at most 1048576: NARROWER than '..Said'. Prove '..Said' where nothing that the law and all that it calls make is longer than what came in: it says more and counts as full. Else prove '..UptoSaid'. A law counts once. -/
mutual
def uptoBulk {H : Type} : DataW H → Nat
  | .lit (.string bytes) => bytes.length + 1
  | .lit _ => 1
  | .nil => 1
  | .ptr d => uptoBulk d + 1
  | .slice elems spare => uptoBulkAll elems + uptoBulkAll spare + 1
  | .agg parts => uptoBulkAll parts + 1
  | .iface _ d => uptoBulk d + 1
  | .map entries => uptoBulkEntries entries + 1
  | .held _ => 1
def uptoBulkAll {H : Type} : List (DataW H) → Nat
  | [] => 0
  | d :: r => uptoBulk d + uptoBulkAll r
def uptoBulkEntries {H : Type} : List (Lit × DataW H) → Nat
  | [] => 0
  | x :: r => uptoBulkEntry x + uptoBulkEntries r
def uptoBulkEntry {H : Type} : Lit × DataW H → Nat
  | (.string bytes, d) => bytes.length + uptoBulk d + 1
  | (_, d) => uptoBulk d + 1
 end
def uptoSmall : (H : Type) → List (DataW H) → Bool := fun _ ds => decide (uptoBulkAll ds ≤ 1048576)
def OpenSpec.upto (s : _root_.Go.ChangeSpec) : _root_.Go.OpenSpec := { _root_.Go.OpenSpec.ofChange s with cond := some uptoSmall }

/-- 'alidadelaw03.MatScales', WHERE WHAT IT READS IS OF BULK AT MOST 1048576: true; the input reads as it did. -/
def matScalesUptoRow : OpenClaim := { program := "ytmlklopopokjoaa", sum := "8e01f2a609fd8aa637db934d641c87bdd1a55f70d667e341aebfc1180d9b5055", func := "alidade/alidadelaw03.MatScales", spec := "matScales", unfollowed := true, recurses := true, apart := false, narrowed := true }
def MatScalesUptoSaid : Prop := matScalesUptoRow.holds Try.pinned (OpenSpec.upto matScalesSpec)

/-- 'alidadelaw03.MatSums', WHERE WHAT IT READS IS OF BULK AT MOST 1048576: true; the input reads as it did. -/
def matSumsUptoRow : OpenClaim := { program := "ytmlklopopokjoaa", sum := "8e01f2a609fd8aa637db934d641c87bdd1a55f70d667e341aebfc1180d9b5055", func := "alidade/alidadelaw03.MatSums", spec := "matSums", unfollowed := true, recurses := true, apart := false, narrowed := true }
def MatSumsUptoSaid : Prop := matSumsUptoRow.holds Try.pinned (OpenSpec.upto matSumsSpec)

/-- 'alidadelaw03.MatEvens', WHERE WHAT IT READS IS OF BULK AT MOST 1048576: true; the input reads as it did. -/
def matEvensUptoRow : OpenClaim := { program := "ytmlklopopokjoaa", sum := "8e01f2a609fd8aa637db934d641c87bdd1a55f70d667e341aebfc1180d9b5055", func := "alidade/alidadelaw03.MatEvens", spec := "matEvens", unfollowed := true, recurses := true, apart := false, narrowed := true }
def MatEvensUptoSaid : Prop := matEvensUptoRow.holds Try.pinned (OpenSpec.upto matEvensSpec)

/-- 'alidadelaw03.MatTwo', WHERE WHAT IT READS IS OF BULK AT MOST 1048576: true; the input reads as it did. -/
def matTwoUptoRow : OpenClaim := { program := "ytmlklopopokjoaa", sum := "8e01f2a609fd8aa637db934d641c87bdd1a55f70d667e341aebfc1180d9b5055", func := "alidade/alidadelaw03.MatTwo", spec := "matTwo", unfollowed := true, recurses := true, apart := false, narrowed := true }
def MatTwoUptoSaid : Prop := matTwoUptoRow.holds Try.pinned (OpenSpec.upto matTwoSpec)

/-- 'alidadelaw03.MatTurns', WHERE WHAT IT READS IS OF BULK AT MOST 1048576: true; the input reads as it did. -/
def matTurnsUptoRow : OpenClaim := { program := "ytmlklopopokjoaa", sum := "8e01f2a609fd8aa637db934d641c87bdd1a55f70d667e341aebfc1180d9b5055", func := "alidade/alidadelaw03.MatTurns", spec := "matTurns", unfollowed := true, recurses := true, apart := false, narrowed := true }
def MatTurnsUptoSaid : Prop := matTurnsUptoRow.holds Try.pinned (OpenSpec.upto matTurnsSpec)

/-- 'alidadelaw03.MatDiags', WHERE WHAT IT READS IS OF BULK AT MOST 1048576: true; the input reads as it did. -/
def matDiagsUptoRow : OpenClaim := { program := "ytmlklopopokjoaa", sum := "8e01f2a609fd8aa637db934d641c87bdd1a55f70d667e341aebfc1180d9b5055", func := "alidade/alidadelaw03.MatDiags", spec := "matDiags", unfollowed := true, recurses := true, apart := false, narrowed := true }
def MatDiagsUptoSaid : Prop := matDiagsUptoRow.holds Try.pinned (OpenSpec.upto matDiagsSpec)

end Rows
end Go.Proofs.Ytmlklopopokjoaa
