/-
  No cell of these rows narrows 'for every input' (looked for: loops, veiled, ifaces, maps, wideKeys, modest, calm, conditions, laid).
  DERIVED. THE GIVEN ROWS OF THIS SEAT. 4 by the template 'for every input the law returns true; each argument reads behind the call as it read before'; 0 by the template 'total and deterministic' (their statements: YtboaddjafilabaaTotals.lean).
  GIVEN WITH THE SEED: the statements are not yours to turn. If you find one false, say at which input.
  Laid BY PROGRAM, IN A SANDBOX (cutbox-rows.mjs): the forced cells as the released guide's own fill.sh prints them over the translation 1db0fd9dfaa52fcb… (all of the seat's roots in one cut). By AI agents, Wed Nov 11 2026. No macro, syntax, notation, axiom, sorry.
-/
import Derived.Test.YtboaddjafilabaaChecked
import GoSem.Claim
import GoSem.ClaimJoined
import GoSem.ClaimMapViews
import Derived.JoinedTies
import Derived.KernelRfl
namespace Go.Proofs.Ytboaddjafilabaa
/- THE CELL 'sum', in the pinned program and in every row, IS THE sha256 OF THE DUMP (.gsa) THAT YtboaddjafilabaaProg.lean LOADS. Nothing in Lean hashes anything: it is a label: what it is worth is what the hold of that sum in a sandbox is worth. -/
noncomputable def Try.pinned : Pinned := { name := "ytboaddjafilabaa", sum := "1db0fd9dfaa52fcb2dc364c675bb43564a62fece332b434d0133fcf4605bdfd6", checked := Try.checked }
namespace Rows
def none {H : Type} : Left H := { results := [], args := [] }

/-- 'alidadelaw16.LeaseTells': WHATEVER THE INPUT: true; the input reads as it did. -/
def leaseTellsSpec : ChangeSpec := { name := "leaseTells", fn := fun _ => fun
  | [d] => { results := [.lit (.bool true)], args := [d] }
  | _ => none }
def leaseTellsRow : OpenClaim := { program := "ytboaddjafilabaa", sum := "1db0fd9dfaa52fcb2dc364c675bb43564a62fece332b434d0133fcf4605bdfd6", func := "alidade/alidadelaw16.LeaseTells", spec := "leaseTells", unfollowed := true, recurses := true, apart := false }
def LeaseTellsSaid : Prop := leaseTellsRow.holds Try.pinned (OpenSpec.ofChange leaseTellsSpec)

/-- ITS FALSE NEIGHBOUR: 'it returns false'. Refute it at one input. -/
def leaseTellsWrong : ChangeSpec := { name := "leaseTells", fn := fun _ => fun
  | [d] => { results := [.lit (.bool false)], args := [d] }
  | _ => none }
def LeaseTellsWrongFalsely : Prop := leaseTellsRow.holds Try.pinned (OpenSpec.ofChange leaseTellsWrong)

/-- 'alidadelaw16.LeaseLends': WHATEVER THE INPUT: true; the input reads as it did. -/
def leaseLendsSpec : ChangeSpec := { name := "leaseLends", fn := fun _ => fun
  | [d1, d2] => { results := [.lit (.bool true)], args := [d1, d2] }
  | _ => none }
def leaseLendsRow : OpenClaim := { program := "ytboaddjafilabaa", sum := "1db0fd9dfaa52fcb2dc364c675bb43564a62fece332b434d0133fcf4605bdfd6", func := "alidade/alidadelaw16.LeaseLends", spec := "leaseLends", unfollowed := true, recurses := true, apart := false }
def LeaseLendsSaid : Prop := leaseLendsRow.holds Try.pinned (OpenSpec.ofChange leaseLendsSpec)

/-- ITS FALSE NEIGHBOUR: 'it returns false'. Refute it at one input. -/
def leaseLendsWrong : ChangeSpec := { name := "leaseLends", fn := fun _ => fun
  | [d1, d2] => { results := [.lit (.bool false)], args := [d1, d2] }
  | _ => none }
def LeaseLendsWrongFalsely : Prop := leaseLendsRow.holds Try.pinned (OpenSpec.ofChange leaseLendsWrong)

/-- 'alidadelaw16.LeaseRenews': WHATEVER THE INPUT: true; the input reads as it did. -/
def leaseRenewsSpec : ChangeSpec := { name := "leaseRenews", fn := fun _ => fun
  | [d1, d2, d3] => { results := [.lit (.bool true)], args := [d1, d2, d3] }
  | _ => none }
def leaseRenewsRow : OpenClaim := { program := "ytboaddjafilabaa", sum := "1db0fd9dfaa52fcb2dc364c675bb43564a62fece332b434d0133fcf4605bdfd6", func := "alidade/alidadelaw16.LeaseRenews", spec := "leaseRenews", unfollowed := true, recurses := true, apart := false }
def LeaseRenewsSaid : Prop := leaseRenewsRow.holds Try.pinned (OpenSpec.ofChange leaseRenewsSpec)

/-- ITS FALSE NEIGHBOUR: 'it returns false'. Refute it at one input. -/
def leaseRenewsWrong : ChangeSpec := { name := "leaseRenews", fn := fun _ => fun
  | [d1, d2, d3] => { results := [.lit (.bool false)], args := [d1, d2, d3] }
  | _ => none }
def LeaseRenewsWrongFalsely : Prop := leaseRenewsRow.holds Try.pinned (OpenSpec.ofChange leaseRenewsWrong)

/-- 'alidadelaw16.LeaseTimes': WHATEVER THE INPUT: true; the input reads as it did. -/
def leaseTimesSpec : ChangeSpec := { name := "leaseTimes", fn := fun _ => fun
  | [d] => { results := [.lit (.bool true)], args := [d] }
  | _ => none }
def leaseTimesRow : OpenClaim := { program := "ytboaddjafilabaa", sum := "1db0fd9dfaa52fcb2dc364c675bb43564a62fece332b434d0133fcf4605bdfd6", func := "alidade/alidadelaw16.LeaseTimes", spec := "leaseTimes", unfollowed := true, recurses := true, apart := false }
def LeaseTimesSaid : Prop := leaseTimesRow.holds Try.pinned (OpenSpec.ofChange leaseTimesSpec)

/-- ITS FALSE NEIGHBOUR: 'it returns false'. Refute it at one input. -/
def leaseTimesWrong : ChangeSpec := { name := "leaseTimes", fn := fun _ => fun
  | [d] => { results := [.lit (.bool false)], args := [d] }
  | _ => none }
def LeaseTimesWrongFalsely : Prop := leaseTimesRow.holds Try.pinned (OpenSpec.ofChange leaseTimesWrong)

/- THE SECOND FORM. 'bulk': how many values and letters a reading holds, each counted each time it is reached (what is shared counts as often as it is met; a slice's spare places count too). A statement '..UptoSaid' is the law's where the arguments, and the package variables that the reading takes, are together of bulk at most 1048576: NARROWER than '..Said'. Prove '..Said' where nothing that the law and all that it calls make is longer than what came in: it says more and counts as full. Else prove '..UptoSaid'. A law counts once. -/
mutual
def uptoBulk {H : Type} : DataW H → Nat
  | .lit (.string bytes) => bytes.length + 1
  | .lit _ => 1
  | .nil => 1
  | .ptr d => uptoBulk d + 1
  | .slice elems spare => uptoBulkAll elems + uptoBulkAll spare + 1
  | .agg parts => uptoBulkAll parts + 1
  | .iface _ d => uptoBulk d + 1
  | .map entries => uptoBulkEntries entries + 1
  | .held _ => 1
def uptoBulkAll {H : Type} : List (DataW H) → Nat
  | [] => 0
  | d :: r => uptoBulk d + uptoBulkAll r
def uptoBulkEntries {H : Type} : List (Lit × DataW H) → Nat
  | [] => 0
  | x :: r => uptoBulkEntry x + uptoBulkEntries r
def uptoBulkEntry {H : Type} : Lit × DataW H → Nat
  | (.string bytes, d) => bytes.length + uptoBulk d + 1
  | (_, d) => uptoBulk d + 1
 end
def uptoSmall : (H : Type) → List (DataW H) → Bool := fun _ ds => decide (uptoBulkAll ds ≤ 1048576)
def OpenSpec.upto (s : _root_.Go.ChangeSpec) : _root_.Go.OpenSpec := { _root_.Go.OpenSpec.ofChange s with cond := some uptoSmall }

/-- 'alidadelaw16.LeaseTells', WHERE WHAT IT READS IS OF BULK AT MOST 1048576: true; the input reads as it did. -/
def leaseTellsUptoRow : OpenClaim := { program := "ytboaddjafilabaa", sum := "1db0fd9dfaa52fcb2dc364c675bb43564a62fece332b434d0133fcf4605bdfd6", func := "alidade/alidadelaw16.LeaseTells", spec := "leaseTells", unfollowed := true, recurses := true, apart := false, narrowed := true }
def LeaseTellsUptoSaid : Prop := leaseTellsUptoRow.holds Try.pinned (OpenSpec.upto leaseTellsSpec)

/-- 'alidadelaw16.LeaseLends', WHERE WHAT IT READS IS OF BULK AT MOST 1048576: true; the input reads as it did. -/
def leaseLendsUptoRow : OpenClaim := { program := "ytboaddjafilabaa", sum := "1db0fd9dfaa52fcb2dc364c675bb43564a62fece332b434d0133fcf4605bdfd6", func := "alidade/alidadelaw16.LeaseLends", spec := "leaseLends", unfollowed := true, recurses := true, apart := false, narrowed := true }
def LeaseLendsUptoSaid : Prop := leaseLendsUptoRow.holds Try.pinned (OpenSpec.upto leaseLendsSpec)

/-- 'alidadelaw16.LeaseRenews', WHERE WHAT IT READS IS OF BULK AT MOST 1048576: true; the input reads as it did. -/
def leaseRenewsUptoRow : OpenClaim := { program := "ytboaddjafilabaa", sum := "1db0fd9dfaa52fcb2dc364c675bb43564a62fece332b434d0133fcf4605bdfd6", func := "alidade/alidadelaw16.LeaseRenews", spec := "leaseRenews", unfollowed := true, recurses := true, apart := false, narrowed := true }
def LeaseRenewsUptoSaid : Prop := leaseRenewsUptoRow.holds Try.pinned (OpenSpec.upto leaseRenewsSpec)

/-- 'alidadelaw16.LeaseTimes', WHERE WHAT IT READS IS OF BULK AT MOST 1048576: true; the input reads as it did. -/
def leaseTimesUptoRow : OpenClaim := { program := "ytboaddjafilabaa", sum := "1db0fd9dfaa52fcb2dc364c675bb43564a62fece332b434d0133fcf4605bdfd6", func := "alidade/alidadelaw16.LeaseTimes", spec := "leaseTimes", unfollowed := true, recurses := true, apart := false, narrowed := true }
def LeaseTimesUptoSaid : Prop := leaseTimesUptoRow.holds Try.pinned (OpenSpec.upto leaseTimesSpec)

end Rows
end Go.Proofs.Ytboaddjafilabaa
