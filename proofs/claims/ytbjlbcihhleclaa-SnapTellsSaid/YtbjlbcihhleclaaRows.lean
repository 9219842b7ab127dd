/-
  No cell of these rows narrows 'for every input' (looked for: loops, veiled, ifaces, maps, wideKeys, modest, calm, conditions, laid).
  DERIVED. THE GIVEN ROWS OF THIS SEAT. 7 by the template 'for every input the law returns true; each argument reads behind the call as it read before'; 0 by the template 'total and deterministic' (their statements: YtbjlbcihhleclaaTotals.lean).
  GIVEN WITH THE SEED: the statements are not yours to turn. If you find one false, say at which input.
  Laid BY PROGRAM, IN A SANDBOX (cutbox-rows.mjs): the forced cells as the released guide's own fill.sh prints them over the translation 4d758bccef904766… (all of the seat's roots in one cut). By AI agents, Wed Nov 11 2026. No macro, syntax, notation, axiom, sorry.
-/
import Derived.Test.YtbjlbcihhleclaaChecked
import GoSem.Claim
import GoSem.ClaimJoined
import GoSem.ClaimMapViews
import Derived.JoinedTies
import Derived.KernelRfl
namespace Go.Proofs.Ytbjlbcihhleclaa
/- THE CELL 'sum', in the pinned program and in every row, IS THE sha256 OF THE DUMP (.gsa) THAT YtbjlbcihhleclaaProg.lean LOADS. Nothing in Lean hashes anything: it is a label: what it is worth is what the hold of that sum in a sandbox is worth. -/
noncomputable def Try.pinned : Pinned := { name := "ytbjlbcihhleclaa", sum := "4d758bccef9047669e41b3da7b32f8d8b356e530bcd94dfa84d2cedb4ccb825b", checked := Try.checked }
namespace Rows
def none {H : Type} : Left H := { results := [], args := [] }

/-- 'alidadelaw15.SnapKeeps': WHATEVER THE INPUT: true; the input reads as it did. -/
def snapKeepsSpec : ChangeSpec := { name := "snapKeeps", fn := fun _ => fun
  | [d] => { results := [.lit (.bool true)], args := [d] }
  | _ => none }
def snapKeepsRow : OpenClaim := { program := "ytbjlbcihhleclaa", sum := "4d758bccef9047669e41b3da7b32f8d8b356e530bcd94dfa84d2cedb4ccb825b", func := "alidade/alidadelaw15.SnapKeeps", spec := "snapKeeps", inPlace := ["maps.clone"], unfollowed := true, recurses := true, plainKeys := false, apart := false }
def SnapKeepsSaid : Prop := snapKeepsRow.holds Try.pinned (OpenSpec.ofChange snapKeepsSpec)

/-- ITS FALSE NEIGHBOUR: 'it returns false'. Refute it at one input. -/
def snapKeepsWrong : ChangeSpec := { name := "snapKeeps", fn := fun _ => fun
  | [d] => { results := [.lit (.bool false)], args := [d] }
  | _ => none }
def SnapKeepsWrongFalsely : Prop := snapKeepsRow.holds Try.pinned (OpenSpec.ofChange snapKeepsWrong)

/-- 'alidadelaw15.SnapBeginning': WHATEVER THE INPUT: true; the input reads as it did. -/
def snapBeginningSpec : ChangeSpec := { name := "snapBeginning", fn := fun _ => fun
  | [d1, d2] => { results := [.lit (.bool true)], args := [d1, d2] }
  | _ => none }
def snapBeginningRow : OpenClaim := { program := "ytbjlbcihhleclaa", sum := "4d758bccef9047669e41b3da7b32f8d8b356e530bcd94dfa84d2cedb4ccb825b", func := "alidade/alidadelaw15.SnapBeginning", spec := "snapBeginning", inPlace := ["maps.clone"], unfollowed := true, recurses := true, plainKeys := false, apart := false }
def SnapBeginningSaid : Prop := snapBeginningRow.holds Try.pinned (OpenSpec.ofChange snapBeginningSpec)

/-- ITS FALSE NEIGHBOUR: 'it returns false'. Refute it at one input. -/
def snapBeginningWrong : ChangeSpec := { name := "snapBeginning", fn := fun _ => fun
  | [d1, d2] => { results := [.lit (.bool false)], args := [d1, d2] }
  | _ => none }
def SnapBeginningWrongFalsely : Prop := snapBeginningRow.holds Try.pinned (OpenSpec.ofChange snapBeginningWrong)

/-- 'alidadelaw15.SnapMarks': WHATEVER THE INPUT: true; the input reads as it did. -/
def snapMarksSpec : ChangeSpec := { name := "snapMarks", fn := fun _ => fun
  | [d] => { results := [.lit (.bool true)], args := [d] }
  | _ => none }
def snapMarksRow : OpenClaim := { program := "ytbjlbcihhleclaa", sum := "4d758bccef9047669e41b3da7b32f8d8b356e530bcd94dfa84d2cedb4ccb825b", func := "alidade/alidadelaw15.SnapMarks", spec := "snapMarks", inPlace := ["maps.clone"], unfollowed := true, recurses := true, plainKeys := false, apart := false }
def SnapMarksSaid : Prop := snapMarksRow.holds Try.pinned (OpenSpec.ofChange snapMarksSpec)

/-- ITS FALSE NEIGHBOUR: 'it returns false'. Refute it at one input. -/
def snapMarksWrong : ChangeSpec := { name := "snapMarks", fn := fun _ => fun
  | [d] => { results := [.lit (.bool false)], args := [d] }
  | _ => none }
def SnapMarksWrongFalsely : Prop := snapMarksRow.holds Try.pinned (OpenSpec.ofChange snapMarksWrong)

/-- 'alidadelaw15.SnapParts': WHATEVER THE INPUT: true; the input reads as it did. -/
def snapPartsSpec : ChangeSpec := { name := "snapParts", fn := fun _ => fun
  | [d] => { results := [.lit (.bool true)], args := [d] }
  | _ => none }
def snapPartsRow : OpenClaim := { program := "ytbjlbcihhleclaa", sum := "4d758bccef9047669e41b3da7b32f8d8b356e530bcd94dfa84d2cedb4ccb825b", func := "alidade/alidadelaw15.SnapParts", spec := "snapParts", inPlace := ["maps.clone"], unfollowed := true, recurses := true, plainKeys := false, apart := false }
def SnapPartsSaid : Prop := snapPartsRow.holds Try.pinned (OpenSpec.ofChange snapPartsSpec)

/-- ITS FALSE NEIGHBOUR: 'it returns false'. Refute it at one input. -/
def snapPartsWrong : ChangeSpec := { name := "snapParts", fn := fun _ => fun
  | [d] => { results := [.lit (.bool false)], args := [d] }
  | _ => none }
def SnapPartsWrongFalsely : Prop := snapPartsRow.holds Try.pinned (OpenSpec.ofChange snapPartsWrong)

/-- 'alidadelaw15.SnapTells': WHATEVER THE INPUT: true; the input reads as it did. -/
def snapTellsSpec : ChangeSpec := { name := "snapTells", fn := fun _ => fun
  | [d] => { results := [.lit (.bool true)], args := [d] }
  | _ => none }
def snapTellsRow : OpenClaim := { program := "ytbjlbcihhleclaa", sum := "4d758bccef9047669e41b3da7b32f8d8b356e530bcd94dfa84d2cedb4ccb825b", func := "alidade/alidadelaw15.SnapTells", spec := "snapTells", inPlace := ["maps.clone"], unfollowed := true, recurses := true, plainKeys := false, apart := false }
def SnapTellsSaid : Prop := snapTellsRow.holds Try.pinned (OpenSpec.ofChange snapTellsSpec)

/-- ITS FALSE NEIGHBOUR: 'it returns false'. Refute it at one input. -/
def snapTellsWrong : ChangeSpec := { name := "snapTells", fn := fun _ => fun
  | [d] => { results := [.lit (.bool false)], args := [d] }
  | _ => none }
def SnapTellsWrongFalsely : Prop := snapTellsRow.holds Try.pinned (OpenSpec.ofChange snapTellsWrong)

/-- 'alidadelaw15.SnapComes': WHATEVER THE INPUT: true; the input reads as it did. -/
def snapComesSpec : ChangeSpec := { name := "snapComes", fn := fun _ => fun
  | [d] => { results := [.lit (.bool true)], args := [d] }
  | _ => none }
def snapComesRow : OpenClaim := { program := "ytbjlbcihhleclaa", sum := "4d758bccef9047669e41b3da7b32f8d8b356e530bcd94dfa84d2cedb4ccb825b", func := "alidade/alidadelaw15.SnapComes", spec := "snapComes", inPlace := ["maps.clone"], unfollowed := true, recurses := true, plainKeys := false, apart := false }
def SnapComesSaid : Prop := snapComesRow.holds Try.pinned (OpenSpec.ofChange snapComesSpec)

/-- ITS FALSE NEIGHBOUR: 'it returns false'. Refute it at one input. -/
def snapComesWrong : ChangeSpec := { name := "snapComes", fn := fun _ => fun
  | [d] => { results := [.lit (.bool false)], args := [d] }
  | _ => none }
def SnapComesWrongFalsely : Prop := snapComesRow.holds Try.pinned (OpenSpec.ofChange snapComesWrong)

/-- 'alidadelaw15.SnapMissing': WHATEVER THE INPUT: true; the input reads as it did. -/
def snapMissingSpec : ChangeSpec := { name := "snapMissing", fn := fun _ => fun
  | [d] => { results := [.lit (.bool true)], args := [d] }
  | _ => none }
def snapMissingRow : OpenClaim := { program := "ytbjlbcihhleclaa", sum := "4d758bccef9047669e41b3da7b32f8d8b356e530bcd94dfa84d2cedb4ccb825b", func := "alidade/alidadelaw15.SnapMissing", spec := "snapMissing", inPlace := ["maps.clone"], unfollowed := true, recurses := true, plainKeys := false, apart := false }
def SnapMissingSaid : Prop := snapMissingRow.holds Try.pinned (OpenSpec.ofChange snapMissingSpec)

/-- ITS FALSE NEIGHBOUR: 'it returns false'. Refute it at one input. -/
def snapMissingWrong : ChangeSpec := { name := "snapMissing", fn := fun _ => fun
  | [d] => { results := [.lit (.bool false)], args := [d] }
  | _ => none }
def SnapMissingWrongFalsely : Prop := snapMissingRow.holds Try.pinned (OpenSpec.ofChange snapMissingWrong)

/- THE SECOND FORM. 'bulk': how many values and letters a reading holds, each counted each time it is reached (what is shared counts as often as it is met; a slice's spare places count too). A statement '..UptoSaid' is the law's where the arguments, and the package variables that the reading takes, are together of bulk at most 1048576: NARROWER than '..Said'. Prove '..Said' where nothing that the law and all that it calls make is longer than what came in: it says more and counts as full. Else prove '..UptoSaid'. A law counts once. -/
mutual
def uptoBulk {H : Type} : DataW H → Nat
  | .lit (.string bytes) => bytes.length + 1
  | .lit _ => 1
  | .nil => 1
  | .ptr d => uptoBulk d + 1
  | .slice elems spare => uptoBulkAll elems + uptoBulkAll spare + 1
  | .agg parts => uptoBulkAll parts + 1
  | .iface _ d => uptoBulk d + 1
  | .map entries => uptoBulkEntries entries + 1
  | .held _ => 1
def uptoBulkAll {H : Type} : List (DataW H) → Nat
  | [] => 0
  | d :: r => uptoBulk d + uptoBulkAll r
def uptoBulkEntries {H : Type} : List (Lit × DataW H) → Nat
  | [] => 0
  | x :: r => uptoBulkEntry x + uptoBulkEntries r
def uptoBulkEntry {H : Type} : Lit × DataW H → Nat
  | (.string bytes, d) => bytes.length + uptoBulk d + 1
  | (_, d) => uptoBulk d + 1
 end
def uptoSmall : (H : Type) → List (DataW H) → Bool := fun _ ds => decide (uptoBulkAll ds ≤ 1048576)
def OpenSpec.upto (s : _root_.Go.ChangeSpec) : _root_.Go.OpenSpec := { _root_.Go.OpenSpec.ofChange s with cond := some uptoSmall }

/-- 'alidadelaw15.SnapKeeps', WHERE WHAT IT READS IS OF BULK AT MOST 1048576: true; the input reads as it did. -/
def snapKeepsUptoRow : OpenClaim := { program := "ytbjlbcihhleclaa", sum := "4d758bccef9047669e41b3da7b32f8d8b356e530bcd94dfa84d2cedb4ccb825b", func := "alidade/alidadelaw15.SnapKeeps", spec := "snapKeeps", inPlace := ["maps.clone"], unfollowed := true, recurses := true, plainKeys := false, apart := false, narrowed := true }
def SnapKeepsUptoSaid : Prop := snapKeepsUptoRow.holds Try.pinned (OpenSpec.upto snapKeepsSpec)

/-- 'alidadelaw15.SnapBeginning', WHERE WHAT IT READS IS OF BULK AT MOST 1048576: true; the input reads as it did. -/
def snapBeginningUptoRow : OpenClaim := { program := "ytbjlbcihhleclaa", sum := "4d758bccef9047669e41b3da7b32f8d8b356e530bcd94dfa84d2cedb4ccb825b", func := "alidade/alidadelaw15.SnapBeginning", spec := "snapBeginning", inPlace := ["maps.clone"], unfollowed := true, recurses := true, plainKeys := false, apart := false, narrowed := true }
def SnapBeginningUptoSaid : Prop := snapBeginningUptoRow.holds Try.pinned (OpenSpec.upto snapBeginningSpec)

/-- 'alidadelaw15.SnapMarks', WHERE WHAT IT READS IS OF BULK AT MOST 1048576: true; the input reads as it did. -/
def snapMarksUptoRow : OpenClaim := { program := "ytbjlbcihhleclaa", sum := "4d758bccef9047669e41b3da7b32f8d8b356e530bcd94dfa84d2cedb4ccb825b", func := "alidade/alidadelaw15.SnapMarks", spec := "snapMarks", inPlace := ["maps.clone"], unfollowed := true, recurses := true, plainKeys := false, apart := false, narrowed := true }
def SnapMarksUptoSaid : Prop := snapMarksUptoRow.holds Try.pinned (OpenSpec.upto snapMarksSpec)

/-- 'alidadelaw15.SnapParts', WHERE WHAT IT READS IS OF BULK AT MOST 1048576: true; the input reads as it did. -/
def snapPartsUptoRow : OpenClaim := { program := "ytbjlbcihhleclaa", sum := "4d758bccef9047669e41b3da7b32f8d8b356e530bcd94dfa84d2cedb4ccb825b", func := "alidade/alidadelaw15.SnapParts", spec := "snapParts", inPlace := ["maps.clone"], unfollowed := true, recurses := true, plainKeys := false, apart := false, narrowed := true }
def SnapPartsUptoSaid : Prop := snapPartsUptoRow.holds Try.pinned (OpenSpec.upto snapPartsSpec)

/-- 'alidadelaw15.SnapTells', WHERE WHAT IT READS IS OF BULK AT MOST 1048576: true; the input reads as it did. -/
def snapTellsUptoRow : OpenClaim := { program := "ytbjlbcihhleclaa", sum := "4d758bccef9047669e41b3da7b32f8d8b356e530bcd94dfa84d2cedb4ccb825b", func := "alidade/alidadelaw15.SnapTells", spec := "snapTells", inPlace := ["maps.clone"], unfollowed := true, recurses := true, plainKeys := false, apart := false, narrowed := true }
def SnapTellsUptoSaid : Prop := snapTellsUptoRow.holds Try.pinned (OpenSpec.upto snapTellsSpec)

/-- 'alidadelaw15.SnapComes', WHERE WHAT IT READS IS OF BULK AT MOST 1048576: true; the input reads as it did. -/
def snapComesUptoRow : OpenClaim := { program := "ytbjlbcihhleclaa", sum := "4d758bccef9047669e41b3da7b32f8d8b356e530bcd94dfa84d2cedb4ccb825b", func := "alidade/alidadelaw15.SnapComes", spec := "snapComes", inPlace := ["maps.clone"], unfollowed := true, recurses := true, plainKeys := false, apart := false, narrowed := true }
def SnapComesUptoSaid : Prop := snapComesUptoRow.holds Try.pinned (OpenSpec.upto snapComesSpec)

/-- 'alidadelaw15.SnapMissing', WHERE WHAT IT READS IS OF BULK AT MOST 1048576: true; the input reads as it did. -/
def snapMissingUptoRow : OpenClaim := { program := "ytbjlbcihhleclaa", sum := "4d758bccef9047669e41b3da7b32f8d8b356e530bcd94dfa84d2cedb4ccb825b", func := "alidade/alidadelaw15.SnapMissing", spec := "snapMissing", inPlace := ["maps.clone"], unfollowed := true, recurses := true, plainKeys := false, apart := false, narrowed := true }
def SnapMissingUptoSaid : Prop := snapMissingUptoRow.holds Try.pinned (OpenSpec.upto snapMissingSpec)

end Rows
end Go.Proofs.Ytbjlbcihhleclaa
