/-
  No cell of these rows narrows 'for every input' (looked for: loops, veiled, ifaces, maps, wideKeys, modest, calm, conditions, laid).
  DERIVED. THE GIVEN ROWS OF THIS SEAT. 7 by the template 'for every input the law returns true; each argument reads behind the call as it read before'; 0 by the template 'total and deterministic' (their statements: YtjibphejlmiocaaTotals.lean).
  GIVEN WITH THE SEED: the statements are not yours to turn. If you find one false, say at which input.
  Laid BY PROGRAM, IN A SANDBOX (cutbox-rows.mjs): the forced cells as the released guide's own fill.sh prints them over the translation ca1b2f63dea59d96… (all of the seat's roots in one cut). By AI agents, Wed Nov 11 2026. No macro, syntax, notation, axiom, sorry.
-/
import Derived.Test.YtjibphejlmiocaaChecked
import GoSem.Claim
import GoSem.ClaimJoined
import GoSem.ClaimMapViews
import Derived.JoinedTies
import Derived.KernelRfl
namespace Go.Proofs.Ytjibphejlmiocaa
/- THE CELL 'sum', in the pinned program and in every row, IS THE sha256 OF THE DUMP (.gsa) THAT YtjibphejlmiocaaProg.lean LOADS. Nothing in Lean hashes anything: it is a label: what it is worth is what the hold of that sum in a sandbox is worth. -/
noncomputable def Try.pinned : Pinned := { name := "ytjibphejlmiocaa", sum := "ca1b2f63dea59d968c4e29d6a1e2e8b09f5ca4707be35dc2331e1017dac6072c", checked := Try.checked }
namespace Rows
def none {H : Type} : Left H := { results := [], args := [] }

/-- 'alidadelaw08.FrameApart': WHATEVER THE INPUT: true; the input reads as it did. -/
def frameApartSpec : ChangeSpec := { name := "frameApart", fn := fun _ => fun
  | [d1, d2] => { results := [.lit (.bool true)], args := [d1, d2] }
  | _ => none }
def frameApartRow : OpenClaim := { program := "ytjibphejlmiocaa", sum := "ca1b2f63dea59d968c4e29d6a1e2e8b09f5ca4707be35dc2331e1017dac6072c", func := "alidade/alidadelaw08.FrameApart", spec := "frameApart", apart := false }
def FrameApartSaid : Prop := frameApartRow.holds Try.pinned (OpenSpec.ofChange frameApartSpec)

/-- ITS FALSE NEIGHBOUR: 'it returns false'. Refute it at one input. -/
def frameApartWrong : ChangeSpec := { name := "frameApart", fn := fun _ => fun
  | [d1, d2] => { results := [.lit (.bool false)], args := [d1, d2] }
  | _ => none }
def FrameApartWrongFalsely : Prop := frameApartRow.holds Try.pinned (OpenSpec.ofChange frameApartWrong)

/-- 'alidadelaw08.FramePacks': WHATEVER THE INPUT: true; the input reads as it did. -/
def framePacksSpec : ChangeSpec := { name := "framePacks", fn := fun _ => fun
  | [d1, d2] => { results := [.lit (.bool true)], args := [d1, d2] }
  | _ => none }
def framePacksRow : OpenClaim := { program := "ytjibphejlmiocaa", sum := "ca1b2f63dea59d968c4e29d6a1e2e8b09f5ca4707be35dc2331e1017dac6072c", func := "alidade/alidadelaw08.FramePacks", spec := "framePacks", unfollowed := true, recurses := true, apart := false }
def FramePacksSaid : Prop := framePacksRow.holds Try.pinned (OpenSpec.ofChange framePacksSpec)

/-- ITS FALSE NEIGHBOUR: 'it returns false'. Refute it at one input. -/
def framePacksWrong : ChangeSpec := { name := "framePacks", fn := fun _ => fun
  | [d1, d2] => { results := [.lit (.bool false)], args := [d1, d2] }
  | _ => none }
def FramePacksWrongFalsely : Prop := framePacksRow.holds Try.pinned (OpenSpec.ofChange framePacksWrong)

/-- 'alidadelaw08.FrameWords': WHATEVER THE INPUT: true; the input reads as it did. -/
def frameWordsSpec : ChangeSpec := { name := "frameWords", fn := fun _ => fun
  | [d1, d2] => { results := [.lit (.bool true)], args := [d1, d2] }
  | _ => none }
def frameWordsRow : OpenClaim := { program := "ytjibphejlmiocaa", sum := "ca1b2f63dea59d968c4e29d6a1e2e8b09f5ca4707be35dc2331e1017dac6072c", func := "alidade/alidadelaw08.FrameWords", spec := "frameWords", unfollowed := true, recurses := true, apart := false }
def FrameWordsSaid : Prop := frameWordsRow.holds Try.pinned (OpenSpec.ofChange frameWordsSpec)

/-- ITS FALSE NEIGHBOUR: 'it returns false'. Refute it at one input. -/
def frameWordsWrong : ChangeSpec := { name := "frameWords", fn := fun _ => fun
  | [d1, d2] => { results := [.lit (.bool false)], args := [d1, d2] }
  | _ => none }
def FrameWordsWrongFalsely : Prop := frameWordsRow.holds Try.pinned (OpenSpec.ofChange frameWordsWrong)

/-- 'alidadelaw08.FrameBursts': WHATEVER THE INPUT: true; the input reads as it did. -/
def frameBurstsSpec : ChangeSpec := { name := "frameBursts", fn := fun _ => fun
  | [d1, d2, d3] => { results := [.lit (.bool true)], args := [d1, d2, d3] }
  | _ => none }
def frameBurstsRow : OpenClaim := { program := "ytjibphejlmiocaa", sum := "ca1b2f63dea59d968c4e29d6a1e2e8b09f5ca4707be35dc2331e1017dac6072c", func := "alidade/alidadelaw08.FrameBursts", spec := "frameBursts", unfollowed := true, recurses := true, apart := false }
def FrameBurstsSaid : Prop := frameBurstsRow.holds Try.pinned (OpenSpec.ofChange frameBurstsSpec)

/-- ITS FALSE NEIGHBOUR: 'it returns false'. Refute it at one input. -/
def frameBurstsWrong : ChangeSpec := { name := "frameBursts", fn := fun _ => fun
  | [d1, d2, d3] => { results := [.lit (.bool false)], args := [d1, d2, d3] }
  | _ => none }
def FrameBurstsWrongFalsely : Prop := frameBurstsRow.holds Try.pinned (OpenSpec.ofChange frameBurstsWrong)

/-- 'alidadelaw08.FrameKinds': WHATEVER THE INPUT: true; the input reads as it did. -/
def frameKindsSpec : ChangeSpec := { name := "frameKinds", fn := fun _ => fun
  | [d] => { results := [.lit (.bool true)], args := [d] }
  | _ => none }
def frameKindsRow : OpenClaim := { program := "ytjibphejlmiocaa", sum := "ca1b2f63dea59d968c4e29d6a1e2e8b09f5ca4707be35dc2331e1017dac6072c", func := "alidade/alidadelaw08.FrameKinds", spec := "frameKinds", unfollowed := true, recurses := true, apart := false }
def FrameKindsSaid : Prop := frameKindsRow.holds Try.pinned (OpenSpec.ofChange frameKindsSpec)

/-- ITS FALSE NEIGHBOUR: 'it returns false'. Refute it at one input. -/
def frameKindsWrong : ChangeSpec := { name := "frameKinds", fn := fun _ => fun
  | [d] => { results := [.lit (.bool false)], args := [d] }
  | _ => none }
def FrameKindsWrongFalsely : Prop := frameKindsRow.holds Try.pinned (OpenSpec.ofChange frameKindsWrong)

/-- 'alidadelaw08.FrameBytes': WHATEVER THE INPUT: true; the input reads as it did. -/
def frameBytesSpec : ChangeSpec := { name := "frameBytes", fn := fun _ => fun
  | [d1, d2, d3] => { results := [.lit (.bool true)], args := [d1, d2, d3] }
  | _ => none }
def frameBytesRow : OpenClaim := { program := "ytjibphejlmiocaa", sum := "ca1b2f63dea59d968c4e29d6a1e2e8b09f5ca4707be35dc2331e1017dac6072c", func := "alidade/alidadelaw08.FrameBytes", spec := "frameBytes", unfollowed := true, recurses := true, apart := false }
def FrameBytesSaid : Prop := frameBytesRow.holds Try.pinned (OpenSpec.ofChange frameBytesSpec)

/-- ITS FALSE NEIGHBOUR: 'it returns false'. Refute it at one input. -/
def frameBytesWrong : ChangeSpec := { name := "frameBytes", fn := fun _ => fun
  | [d1, d2, d3] => { results := [.lit (.bool false)], args := [d1, d2, d3] }
  | _ => none }
def FrameBytesWrongFalsely : Prop := frameBytesRow.holds Try.pinned (OpenSpec.ofChange frameBytesWrong)

/-- 'alidadelaw08.FrameBack': WHATEVER THE INPUT: true; the input reads as it did. -/
def frameBackSpec : ChangeSpec := { name := "frameBack", fn := fun _ => fun
  | [d1, d2, d3] => { results := [.lit (.bool true)], args := [d1, d2, d3] }
  | _ => none }
def frameBackRow : OpenClaim := { program := "ytjibphejlmiocaa", sum := "ca1b2f63dea59d968c4e29d6a1e2e8b09f5ca4707be35dc2331e1017dac6072c", func := "alidade/alidadelaw08.FrameBack", spec := "frameBack", unfollowed := true, recurses := true, apart := false }
def FrameBackSaid : Prop := frameBackRow.holds Try.pinned (OpenSpec.ofChange frameBackSpec)

/-- ITS FALSE NEIGHBOUR: 'it returns false'. Refute it at one input. -/
def frameBackWrong : ChangeSpec := { name := "frameBack", fn := fun _ => fun
  | [d1, d2, d3] => { results := [.lit (.bool false)], args := [d1, d2, d3] }
  | _ => none }
def FrameBackWrongFalsely : Prop := frameBackRow.holds Try.pinned (OpenSpec.ofChange frameBackWrong)

/- THE SECOND FORM. 'bulk': how many values and letters a reading holds, each counted each time it is reached (what is shared counts as often as it is met; a slice's spare places count too). A statement '..UptoSaid' is the law's where the arguments, and the package variables that the reading takes, are together of bulk at most 1048576: NARROWER than '..Said'. Prove '..Said' where nothing that the law and all that it calls make is longer than what came in: it says more and counts as full. Else prove '..UptoSaid'. A law counts once. -/
mutual
def uptoBulk {H : Type} : DataW H → Nat
  | .lit (.string bytes) => bytes.length + 1
  | .lit _ => 1
  | .nil => 1
  | .ptr d => uptoBulk d + 1
  | .slice elems spare => uptoBulkAll elems + uptoBulkAll spare + 1
  | .agg parts => uptoBulkAll parts + 1
  | .iface _ d => uptoBulk d + 1
  | .map entries => uptoBulkEntries entries + 1
  | .held _ => 1
def uptoBulkAll {H : Type} : List (DataW H) → Nat
  | [] => 0
  | d :: r => uptoBulk d + uptoBulkAll r
def uptoBulkEntries {H : Type} : List (Lit × DataW H) → Nat
  | [] => 0
  | x :: r => uptoBulkEntry x + uptoBulkEntries r
def uptoBulkEntry {H : Type} : Lit × DataW H → Nat
  | (.string bytes, d) => bytes.length + uptoBulk d + 1
  | (_, d) => uptoBulk d + 1
 end
def uptoSmall : (H : Type) → List (DataW H) → Bool := fun _ ds => decide (uptoBulkAll ds ≤ 1048576)
def OpenSpec.upto (s : _root_.Go.ChangeSpec) : _root_.Go.OpenSpec := { _root_.Go.OpenSpec.ofChange s with cond := some uptoSmall }

/-- 'alidadelaw08.FrameApart', WHERE WHAT IT READS IS OF BULK AT MOST 1048576: true; the input reads as it did. -/
def frameApartUptoRow : OpenClaim := { program := "ytjibphejlmiocaa", sum := "ca1b2f63dea59d968c4e29d6a1e2e8b09f5ca4707be35dc2331e1017dac6072c", func := "alidade/alidadelaw08.FrameApart", spec := "frameApart", apart := false, narrowed := true }
def FrameApartUptoSaid : Prop := frameApartUptoRow.holds Try.pinned (OpenSpec.upto frameApartSpec)

/-- 'alidadelaw08.FramePacks', WHERE WHAT IT READS IS OF BULK AT MOST 1048576: true; the input reads as it did. -/
def framePacksUptoRow : OpenClaim := { program := "ytjibphejlmiocaa", sum := "ca1b2f63dea59d968c4e29d6a1e2e8b09f5ca4707be35dc2331e1017dac6072c", func := "alidade/alidadelaw08.FramePacks", spec := "framePacks", unfollowed := true, recurses := true, apart := false, narrowed := true }
def FramePacksUptoSaid : Prop := framePacksUptoRow.holds Try.pinned (OpenSpec.upto framePacksSpec)

/-- 'alidadelaw08.FrameWords', WHERE WHAT IT READS IS OF BULK AT MOST 1048576: true; the input reads as it did. -/
def frameWordsUptoRow : OpenClaim := { program := "ytjibphejlmiocaa", sum := "ca1b2f63dea59d968c4e29d6a1e2e8b09f5ca4707be35dc2331e1017dac6072c", func := "alidade/alidadelaw08.FrameWords", spec := "frameWords", unfollowed := true, recurses := true, apart := false, narrowed := true }
def FrameWordsUptoSaid : Prop := frameWordsUptoRow.holds Try.pinned (OpenSpec.upto frameWordsSpec)

/-- 'alidadelaw08.FrameBursts', WHERE WHAT IT READS IS OF BULK AT MOST 1048576: true; the input reads as it did. -/
def frameBurstsUptoRow : OpenClaim := { program := "ytjibphejlmiocaa", sum := "ca1b2f63dea59d968c4e29d6a1e2e8b09f5ca4707be35dc2331e1017dac6072c", func := "alidade/alidadelaw08.FrameBursts", spec := "frameBursts", unfollowed := true, recurses := true, apart := false, narrowed := true }
def FrameBurstsUptoSaid : Prop := frameBurstsUptoRow.holds Try.pinned (OpenSpec.upto frameBurstsSpec)

/-- 'alidadelaw08.FrameKinds', WHERE WHAT IT READS IS OF BULK AT MOST 1048576: true; the input reads as it did. -/
def frameKindsUptoRow : OpenClaim := { program := "ytjibphejlmiocaa", sum := "ca1b2f63dea59d968c4e29d6a1e2e8b09f5ca4707be35dc2331e1017dac6072c", func := "alidade/alidadelaw08.FrameKinds", spec := "frameKinds", unfollowed := true, recurses := true, apart := false, narrowed := true }
def FrameKindsUptoSaid : Prop := frameKindsUptoRow.holds Try.pinned (OpenSpec.upto frameKindsSpec)

/-- 'alidadelaw08.FrameBytes', WHERE WHAT IT READS IS OF BULK AT MOST 1048576: true; the input reads as it did. -/
def frameBytesUptoRow : OpenClaim := { program := "ytjibphejlmiocaa", sum := "ca1b2f63dea59d968c4e29d6a1e2e8b09f5ca4707be35dc2331e1017dac6072c", func := "alidade/alidadelaw08.FrameBytes", spec := "frameBytes", unfollowed := true, recurses := true, apart := false, narrowed := true }
def FrameBytesUptoSaid : Prop := frameBytesUptoRow.holds Try.pinned (OpenSpec.upto frameBytesSpec)

/-- 'alidadelaw08.FrameBack', WHERE WHAT IT READS IS OF BULK AT MOST 1048576: true; the input reads as it did. -/
def frameBackUptoRow : OpenClaim := { program := "ytjibphejlmiocaa", sum := "ca1b2f63dea59d968c4e29d6a1e2e8b09f5ca4707be35dc2331e1017dac6072c", func := "alidade/alidadelaw08.FrameBack", spec := "frameBack", unfollowed := true, recurses := true, apart := false, narrowed := true }
def FrameBackUptoSaid : Prop := frameBackUptoRow.holds Try.pinned (OpenSpec.upto frameBackSpec)

end Rows
end Go.Proofs.Ytjibphejlmiocaa
