/-
  No cell of these rows narrows 'for every input' (looked for: loops, veiled, ifaces, maps, wideKeys, modest, calm, conditions, laid).
  DERIVED. THE GIVEN ROWS OF THIS SEAT. 5 by the template 'for every input the law returns true; each argument reads behind the call as it read before'; 0 by the template 'total and deterministic' (their statements: YtkmiifmbnnhmiaaTotals.lean).
  GIVEN WITH THE SEED: the statements are not yours to turn. If you find one false, say at which input.
  Laid BY PROGRAM, IN A SANDBOX (cutbox-rows.mjs): the forced cells as the released guide's own fill.sh prints them over the translation 7f9fe23184b987ac… (all of the seat's roots in one cut). By AI agents, Wed Nov 11 2026. No macro, syntax, notation, axiom, sorry.
-/
import Derived.Test.YtkmiifmbnnhmiaaChecked
import GoSem.Claim
import GoSem.ClaimJoined
import GoSem.ClaimMapViews
import Derived.JoinedTies
import Derived.KernelRfl
namespace Go.Proofs.Ytkmiifmbnnhmiaa
/- THE CELL 'sum', in the pinned program and in every row, IS THE sha256 OF THE DUMP (.gsa) THAT YtkmiifmbnnhmiaaProg.lean LOADS. Nothing in Lean hashes anything: it is a label: what it is worth is what the hold of that sum in a sandbox is worth. -/
noncomputable def Try.pinned : Pinned := { name := "ytkmiifmbnnhmiaa", sum := "7f9fe23184b987ac1df8259ac98ebdef112654cb36aad9e495816cd3f3e4aebe", checked := Try.checked }
namespace Rows
def none {H : Type} : Left H := { results := [], args := [] }

/-- 'alidadelaw17.SlewSteps': WHATEVER THE INPUT: true; the input reads as it did. -/
def slewStepsSpec : ChangeSpec := { name := "slewSteps", fn := fun _ => fun
  | [d1, d2, d3] => { results := [.lit (.bool true)], args := [d1, d2, d3] }
  | _ => none }
def slewStepsRow : OpenClaim := { program := "ytkmiifmbnnhmiaa", sum := "7f9fe23184b987ac1df8259ac98ebdef112654cb36aad9e495816cd3f3e4aebe", func := "alidade/alidadelaw17.SlewSteps", spec := "slewSteps", unfollowed := true, recurses := true, apart := false }
def SlewStepsSaid : Prop := slewStepsRow.holds Try.pinned (OpenSpec.ofChange slewStepsSpec)

/-- ITS FALSE NEIGHBOUR: 'it returns false'. Refute it at one input. -/
def slewStepsWrong : ChangeSpec := { name := "slewSteps", fn := fun _ => fun
  | [d1, d2, d3] => { results := [.lit (.bool false)], args := [d1, d2, d3] }
  | _ => none }
def SlewStepsWrongFalsely : Prop := slewStepsRow.holds Try.pinned (OpenSpec.ofChange slewStepsWrong)

/-- 'alidadelaw17.SlewComes': WHATEVER THE INPUT: true; the input reads as it did. -/
def slewComesSpec : ChangeSpec := { name := "slewComes", fn := fun _ => fun
  | [d1, d2, d3] => { results := [.lit (.bool true)], args := [d1, d2, d3] }
  | _ => none }
def slewComesRow : OpenClaim := { program := "ytkmiifmbnnhmiaa", sum := "7f9fe23184b987ac1df8259ac98ebdef112654cb36aad9e495816cd3f3e4aebe", func := "alidade/alidadelaw17.SlewComes", spec := "slewComes", unfollowed := true, recurses := true, apart := false }
def SlewComesSaid : Prop := slewComesRow.holds Try.pinned (OpenSpec.ofChange slewComesSpec)

/-- ITS FALSE NEIGHBOUR: 'it returns false'. Refute it at one input. -/
def slewComesWrong : ChangeSpec := { name := "slewComes", fn := fun _ => fun
  | [d1, d2, d3] => { results := [.lit (.bool false)], args := [d1, d2, d3] }
  | _ => none }
def SlewComesWrongFalsely : Prop := slewComesRow.holds Try.pinned (OpenSpec.ofChange slewComesWrong)

/-- 'alidadelaw17.SlewBack': WHATEVER THE INPUT: true; the input reads as it did. -/
def slewBackSpec : ChangeSpec := { name := "slewBack", fn := fun _ => fun
  | [d1, d2, d3] => { results := [.lit (.bool true)], args := [d1, d2, d3] }
  | _ => none }
def slewBackRow : OpenClaim := { program := "ytkmiifmbnnhmiaa", sum := "7f9fe23184b987ac1df8259ac98ebdef112654cb36aad9e495816cd3f3e4aebe", func := "alidade/alidadelaw17.SlewBack", spec := "slewBack", unfollowed := true, recurses := true, apart := false }
def SlewBackSaid : Prop := slewBackRow.holds Try.pinned (OpenSpec.ofChange slewBackSpec)

/-- ITS FALSE NEIGHBOUR: 'it returns false'. Refute it at one input. -/
def slewBackWrong : ChangeSpec := { name := "slewBack", fn := fun _ => fun
  | [d1, d2, d3] => { results := [.lit (.bool false)], args := [d1, d2, d3] }
  | _ => none }
def SlewBackWrongFalsely : Prop := slewBackRow.holds Try.pinned (OpenSpec.ofChange slewBackWrong)

/-- 'alidadelaw17.SlewAxes': WHATEVER THE INPUT: true; the input reads as it did. -/
def slewAxesSpec : ChangeSpec := { name := "slewAxes", fn := fun _ => fun
  | [d1, d2, d3] => { results := [.lit (.bool true)], args := [d1, d2, d3] }
  | _ => none }
def slewAxesRow : OpenClaim := { program := "ytkmiifmbnnhmiaa", sum := "7f9fe23184b987ac1df8259ac98ebdef112654cb36aad9e495816cd3f3e4aebe", func := "alidade/alidadelaw17.SlewAxes", spec := "slewAxes", unfollowed := true, recurses := true, apart := false }
def SlewAxesSaid : Prop := slewAxesRow.holds Try.pinned (OpenSpec.ofChange slewAxesSpec)

/-- ITS FALSE NEIGHBOUR: 'it returns false'. Refute it at one input. -/
def slewAxesWrong : ChangeSpec := { name := "slewAxes", fn := fun _ => fun
  | [d1, d2, d3] => { results := [.lit (.bool false)], args := [d1, d2, d3] }
  | _ => none }
def SlewAxesWrongFalsely : Prop := slewAxesRow.holds Try.pinned (OpenSpec.ofChange slewAxesWrong)

/-- 'alidadelaw17.SlewTells': WHATEVER THE INPUT: true; the input reads as it did. -/
def slewTellsSpec : ChangeSpec := { name := "slewTells", fn := fun _ => fun
  | [d] => { results := [.lit (.bool true)], args := [d] }
  | _ => none }
def slewTellsRow : OpenClaim := { program := "ytkmiifmbnnhmiaa", sum := "7f9fe23184b987ac1df8259ac98ebdef112654cb36aad9e495816cd3f3e4aebe", func := "alidade/alidadelaw17.SlewTells", spec := "slewTells", unfollowed := true, recurses := true, apart := false }
def SlewTellsSaid : Prop := slewTellsRow.holds Try.pinned (OpenSpec.ofChange slewTellsSpec)

/-- ITS FALSE NEIGHBOUR: 'it returns false'. Refute it at one input. -/
def slewTellsWrong : ChangeSpec := { name := "slewTells", fn := fun _ => fun
  | [d] => { results := [.lit (.bool false)], args := [d] }
  | _ => none }
def SlewTellsWrongFalsely : Prop := slewTellsRow.holds Try.pinned (OpenSpec.ofChange slewTellsWrong)

/- THE SECOND FORM. 'bulk': how many values and letters a reading holds, each counted each time it is reached (what is shared counts as often as it is met; a slice's spare places count too). A statement '..UptoSaid' is the law's where the arguments, and the package variables that the reading takes, are together of bulk at most 1048576: NARROWER than '..Said'. Prove '..Said' where nothing that the law and all that it calls make is longer than what came in: it says more and counts as full. Else prove '..UptoSaid'. A law counts once. -/
mutual
def uptoBulk {H : Type} : DataW H → Nat
  | .lit (.string bytes) => bytes.length + 1
  | .lit _ => 1
  | .nil => 1
  | .ptr d => uptoBulk d + 1
  | .slice elems spare => uptoBulkAll elems + uptoBulkAll spare + 1
  | .agg parts => uptoBulkAll parts + 1
  | .iface _ d => uptoBulk d + 1
  | .map entries => uptoBulkEntries entries + 1
  | .held _ => 1
def uptoBulkAll {H : Type} : List (DataW H) → Nat
  | [] => 0
  | d :: r => uptoBulk d + uptoBulkAll r
def uptoBulkEntries {H : Type} : List (Lit × DataW H) → Nat
  | [] => 0
  | x :: r => uptoBulkEntry x + uptoBulkEntries r
def uptoBulkEntry {H : Type} : Lit × DataW H → Nat
  | (.string bytes, d) => bytes.length + uptoBulk d + 1
  | (_, d) => uptoBulk d + 1
 end
def uptoSmall : (H : Type) → List (DataW H) → Bool := fun _ ds => decide (uptoBulkAll ds ≤ 1048576)
def OpenSpec.upto (s : _root_.Go.ChangeSpec) : _root_.Go.OpenSpec := { _root_.Go.OpenSpec.ofChange s with cond := some uptoSmall }

/-- 'alidadelaw17.SlewSteps', WHERE WHAT IT READS IS OF BULK AT MOST 1048576: true; the input reads as it did. -/
def slewStepsUptoRow : OpenClaim := { program := "ytkmiifmbnnhmiaa", sum := "7f9fe23184b987ac1df8259ac98ebdef112654cb36aad9e495816cd3f3e4aebe", func := "alidade/alidadelaw17.SlewSteps", spec := "slewSteps", unfollowed := true, recurses := true, apart := false, narrowed := true }
def SlewStepsUptoSaid : Prop := slewStepsUptoRow.holds Try.pinned (OpenSpec.upto slewStepsSpec)

/-- 'alidadelaw17.SlewComes', WHERE WHAT IT READS IS OF BULK AT MOST 1048576: true; the input reads as it did. -/
def slewComesUptoRow : OpenClaim := { program := "ytkmiifmbnnhmiaa", sum := "7f9fe23184b987ac1df8259ac98ebdef112654cb36aad9e495816cd3f3e4aebe", func := "alidade/alidadelaw17.SlewComes", spec := "slewComes", unfollowed := true, recurses := true, apart := false, narrowed := true }
def SlewComesUptoSaid : Prop := slewComesUptoRow.holds Try.pinned (OpenSpec.upto slewComesSpec)

/-- 'alidadelaw17.SlewBack', WHERE WHAT IT READS IS OF BULK AT MOST 1048576: true; the input reads as it did. -/
def slewBackUptoRow : OpenClaim := { program := "ytkmiifmbnnhmiaa", sum := "7f9fe23184b987ac1df8259ac98ebdef112654cb36aad9e495816cd3f3e4aebe", func := "alidade/alidadelaw17.SlewBack", spec := "slewBack", unfollowed := true, recurses := true, apart := false, narrowed := true }
def SlewBackUptoSaid : Prop := slewBackUptoRow.holds Try.pinned (OpenSpec.upto slewBackSpec)

/-- 'alidadelaw17.SlewAxes', WHERE WHAT IT READS IS OF BULK AT MOST 1048576: true; the input reads as it did. -/
def slewAxesUptoRow : OpenClaim := { program := "ytkmiifmbnnhmiaa", sum := "7f9fe23184b987ac1df8259ac98ebdef112654cb36aad9e495816cd3f3e4aebe", func := "alidade/alidadelaw17.SlewAxes", spec := "slewAxes", unfollowed := true, recurses := true, apart := false, narrowed := true }
def SlewAxesUptoSaid : Prop := slewAxesUptoRow.holds Try.pinned (OpenSpec.upto slewAxesSpec)

/-- 'alidadelaw17.SlewTells', WHERE WHAT IT READS IS OF BULK AT MOST 1048576: true; the input reads as it did. -/
def slewTellsUptoRow : OpenClaim := { program := "ytkmiifmbnnhmiaa", sum := "7f9fe23184b987ac1df8259ac98ebdef112654cb36aad9e495816cd3f3e4aebe", func := "alidade/alidadelaw17.SlewTells", spec := "slewTells", unfollowed := true, recurses := true, apart := false, narrowed := true }
def SlewTellsUptoSaid : Prop := slewTellsUptoRow.holds Try.pinned (OpenSpec.upto slewTellsSpec)

end Rows
end Go.Proofs.Ytkmiifmbnnhmiaa
