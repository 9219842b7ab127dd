/-
  No cell of these rows narrows 'for every input' (looked for: loops, veiled, ifaces, maps, wideKeys, modest, calm, conditions, laid).
  DERIVED. THE GIVEN ROWS OF THIS SEAT. 7 by the template 'for every input the law returns true; each argument reads behind the call as it read before'; 0 by the template 'total and deterministic' (their statements: YtjibcbfdfambeaaTotals.lean).
  GIVEN WITH THE SEED: the statements are not yours to turn. If you find one false, say at which input.
  Laid BY PROGRAM, IN A SANDBOX (cutbox-rows.mjs): the forced cells as the released guide's own fill.sh prints them over the translation b276d6b170d59cf1… (all of the seat's roots in one cut). By AI agents, Wed Nov 11 2026. No macro, syntax, notation, axiom, sorry.
-/
import Derived.Test.YtjibcbfdfambeaaChecked
import GoSem.Claim
import GoSem.ClaimJoined
import GoSem.ClaimMapViews
import Derived.JoinedTies
import Derived.KernelRfl
namespace Go.Proofs.Ytjibcbfdfambeaa
/- THE CELL 'sum', in the pinned program and in every row, IS THE sha256 OF THE DUMP (.gsa) THAT YtjibcbfdfambeaaProg.lean LOADS. Nothing in Lean hashes anything: it is a label: what it is worth is what the hold of that sum in a sandbox is worth. -/
noncomputable def Try.pinned : Pinned := { name := "ytjibcbfdfambeaa", sum := "b276d6b170d59cf164f59154d3849f684057bce98ad299447356da08acd4030f", checked := Try.checked }
namespace Rows
def none {H : Type} : Left H := { results := [], args := [] }

/-- 'alidadelaw10.NvramBack': WHATEVER THE INPUT: true; the input reads as it did. -/
def nvramBackSpec : ChangeSpec := { name := "nvramBack", fn := fun _ => fun
  | [d1, d2] => { results := [.lit (.bool true)], args := [d1, d2] }
  | _ => none }
def nvramBackRow : OpenClaim := { program := "ytjibcbfdfambeaa", sum := "b276d6b170d59cf164f59154d3849f684057bce98ad299447356da08acd4030f", func := "alidade/alidadelaw10.NvramBack", spec := "nvramBack", unfollowed := true, recurses := true, apart := false }
def NvramBackSaid : Prop := nvramBackRow.holds Try.pinned (OpenSpec.ofChange nvramBackSpec)

/-- ITS FALSE NEIGHBOUR: 'it returns false'. Refute it at one input. -/
def nvramBackWrong : ChangeSpec := { name := "nvramBack", fn := fun _ => fun
  | [d1, d2] => { results := [.lit (.bool false)], args := [d1, d2] }
  | _ => none }
def NvramBackWrongFalsely : Prop := nvramBackRow.holds Try.pinned (OpenSpec.ofChange nvramBackWrong)

/-- 'alidadelaw10.NvramCrashes': WHATEVER THE INPUT: true; the input reads as it did. -/
def nvramCrashesSpec : ChangeSpec := { name := "nvramCrashes", fn := fun _ => fun
  | [d1, d2, d3] => { results := [.lit (.bool true)], args := [d1, d2, d3] }
  | _ => none }
def nvramCrashesRow : OpenClaim := { program := "ytjibcbfdfambeaa", sum := "b276d6b170d59cf164f59154d3849f684057bce98ad299447356da08acd4030f", func := "alidade/alidadelaw10.NvramCrashes", spec := "nvramCrashes", unfollowed := true, recurses := true, apart := false }
def NvramCrashesSaid : Prop := nvramCrashesRow.holds Try.pinned (OpenSpec.ofChange nvramCrashesSpec)

/-- ITS FALSE NEIGHBOUR: 'it returns false'. Refute it at one input. -/
def nvramCrashesWrong : ChangeSpec := { name := "nvramCrashes", fn := fun _ => fun
  | [d1, d2, d3] => { results := [.lit (.bool false)], args := [d1, d2, d3] }
  | _ => none }
def NvramCrashesWrongFalsely : Prop := nvramCrashesRow.holds Try.pinned (OpenSpec.ofChange nvramCrashesWrong)

/-- 'alidadelaw10.NvramTwice': WHATEVER THE INPUT: true; the input reads as it did. -/
def nvramTwiceSpec : ChangeSpec := { name := "nvramTwice", fn := fun _ => fun
  | [d] => { results := [.lit (.bool true)], args := [d] }
  | _ => none }
def nvramTwiceRow : OpenClaim := { program := "ytjibcbfdfambeaa", sum := "b276d6b170d59cf164f59154d3849f684057bce98ad299447356da08acd4030f", func := "alidade/alidadelaw10.NvramTwice", spec := "nvramTwice", unfollowed := true, recurses := true, apart := false }
def NvramTwiceSaid : Prop := nvramTwiceRow.holds Try.pinned (OpenSpec.ofChange nvramTwiceSpec)

/-- ITS FALSE NEIGHBOUR: 'it returns false'. Refute it at one input. -/
def nvramTwiceWrong : ChangeSpec := { name := "nvramTwice", fn := fun _ => fun
  | [d] => { results := [.lit (.bool false)], args := [d] }
  | _ => none }
def NvramTwiceWrongFalsely : Prop := nvramTwiceRow.holds Try.pinned (OpenSpec.ofChange nvramTwiceWrong)

/-- 'alidadelaw10.NvramOld': WHATEVER THE INPUT: true; the input reads as it did. -/
def nvramOldSpec : ChangeSpec := { name := "nvramOld", fn := fun _ => fun
  | [d1, d2, d3] => { results := [.lit (.bool true)], args := [d1, d2, d3] }
  | _ => none }
def nvramOldRow : OpenClaim := { program := "ytjibcbfdfambeaa", sum := "b276d6b170d59cf164f59154d3849f684057bce98ad299447356da08acd4030f", func := "alidade/alidadelaw10.NvramOld", spec := "nvramOld", unfollowed := true, recurses := true, apart := false }
def NvramOldSaid : Prop := nvramOldRow.holds Try.pinned (OpenSpec.ofChange nvramOldSpec)

/-- ITS FALSE NEIGHBOUR: 'it returns false'. Refute it at one input. -/
def nvramOldWrong : ChangeSpec := { name := "nvramOld", fn := fun _ => fun
  | [d1, d2, d3] => { results := [.lit (.bool false)], args := [d1, d2, d3] }
  | _ => none }
def NvramOldWrongFalsely : Prop := nvramOldRow.holds Try.pinned (OpenSpec.ofChange nvramOldWrong)

/-- 'alidadelaw10.NvramSums': WHATEVER THE INPUT: true; the input reads as it did. -/
def nvramSumsSpec : ChangeSpec := { name := "nvramSums", fn := fun _ => fun
  | [d1, d2] => { results := [.lit (.bool true)], args := [d1, d2] }
  | _ => none }
def nvramSumsRow : OpenClaim := { program := "ytjibcbfdfambeaa", sum := "b276d6b170d59cf164f59154d3849f684057bce98ad299447356da08acd4030f", func := "alidade/alidadelaw10.NvramSums", spec := "nvramSums", unfollowed := true, recurses := true, apart := false }
def NvramSumsSaid : Prop := nvramSumsRow.holds Try.pinned (OpenSpec.ofChange nvramSumsSpec)

/-- ITS FALSE NEIGHBOUR: 'it returns false'. Refute it at one input. -/
def nvramSumsWrong : ChangeSpec := { name := "nvramSums", fn := fun _ => fun
  | [d1, d2] => { results := [.lit (.bool false)], args := [d1, d2] }
  | _ => none }
def NvramSumsWrongFalsely : Prop := nvramSumsRow.holds Try.pinned (OpenSpec.ofChange nvramSumsWrong)

/-- 'alidadelaw10.NvramTells': WHATEVER THE INPUT: true; the input reads as it did. -/
def nvramTellsSpec : ChangeSpec := { name := "nvramTells", fn := fun _ => fun
  | [d1, d2, d3] => { results := [.lit (.bool true)], args := [d1, d2, d3] }
  | _ => none }
def nvramTellsRow : OpenClaim := { program := "ytjibcbfdfambeaa", sum := "b276d6b170d59cf164f59154d3849f684057bce98ad299447356da08acd4030f", func := "alidade/alidadelaw10.NvramTells", spec := "nvramTells", unfollowed := true, recurses := true, apart := false }
def NvramTellsSaid : Prop := nvramTellsRow.holds Try.pinned (OpenSpec.ofChange nvramTellsSpec)

/-- ITS FALSE NEIGHBOUR: 'it returns false'. Refute it at one input. -/
def nvramTellsWrong : ChangeSpec := { name := "nvramTells", fn := fun _ => fun
  | [d1, d2, d3] => { results := [.lit (.bool false)], args := [d1, d2, d3] }
  | _ => none }
def NvramTellsWrongFalsely : Prop := nvramTellsRow.holds Try.pinned (OpenSpec.ofChange nvramTellsWrong)

/-- 'alidadelaw10.NvramNone': WHATEVER THE INPUT: true; the input reads as it did. -/
def nvramNoneSpec : ChangeSpec := { name := "nvramNone", fn := fun _ => fun
  | [d1, d2] => { results := [.lit (.bool true)], args := [d1, d2] }
  | _ => none }
def nvramNoneRow : OpenClaim := { program := "ytjibcbfdfambeaa", sum := "b276d6b170d59cf164f59154d3849f684057bce98ad299447356da08acd4030f", func := "alidade/alidadelaw10.NvramNone", spec := "nvramNone", unfollowed := true, recurses := true, apart := false }
def NvramNoneSaid : Prop := nvramNoneRow.holds Try.pinned (OpenSpec.ofChange nvramNoneSpec)

/-- ITS FALSE NEIGHBOUR: 'it returns false'. Refute it at one input. -/
def nvramNoneWrong : ChangeSpec := { name := "nvramNone", fn := fun _ => fun
  | [d1, d2] => { results := [.lit (.bool false)], args := [d1, d2] }
  | _ => none }
def NvramNoneWrongFalsely : Prop := nvramNoneRow.holds Try.pinned (OpenSpec.ofChange nvramNoneWrong)

/- THE SECOND FORM. 'bulk': how many values and letters a reading holds, each counted each time it is reached (what is shared counts as often as it is met; a slice's spare places count too). A statement '..UptoSaid' is the law's where the arguments, and the package variables that the reading takes, are together of bulk at most 1048576: NARROWER than '..Said'. Prove '..Said' where nothing that the law and all that it calls make is longer than what came in: it says more and counts as full. Else prove '..UptoSaid'. A law counts once. -/
mutual
def uptoBulk {H : Type} : DataW H → Nat
  | .lit (.string bytes) => bytes.length + 1
  | .lit _ => 1
  | .nil => 1
  | .ptr d => uptoBulk d + 1
  | .slice elems spare => uptoBulkAll elems + uptoBulkAll spare + 1
  | .agg parts => uptoBulkAll parts + 1
  | .iface _ d => uptoBulk d + 1
  | .map entries => uptoBulkEntries entries + 1
  | .held _ => 1
def uptoBulkAll {H : Type} : List (DataW H) → Nat
  | [] => 0
  | d :: r => uptoBulk d + uptoBulkAll r
def uptoBulkEntries {H : Type} : List (Lit × DataW H) → Nat
  | [] => 0
  | x :: r => uptoBulkEntry x + uptoBulkEntries r
def uptoBulkEntry {H : Type} : Lit × DataW H → Nat
  | (.string bytes, d) => bytes.length + uptoBulk d + 1
  | (_, d) => uptoBulk d + 1
 end
def uptoSmall : (H : Type) → List (DataW H) → Bool := fun _ ds => decide (uptoBulkAll ds ≤ 1048576)
def OpenSpec.upto (s : _root_.Go.ChangeSpec) : _root_.Go.OpenSpec := { _root_.Go.OpenSpec.ofChange s with cond := some uptoSmall }

/-- 'alidadelaw10.NvramBack', WHERE WHAT IT READS IS OF BULK AT MOST 1048576: true; the input reads as it did. -/
def nvramBackUptoRow : OpenClaim := { program := "ytjibcbfdfambeaa", sum := "b276d6b170d59cf164f59154d3849f684057bce98ad299447356da08acd4030f", func := "alidade/alidadelaw10.NvramBack", spec := "nvramBack", unfollowed := true, recurses := true, apart := false, narrowed := true }
def NvramBackUptoSaid : Prop := nvramBackUptoRow.holds Try.pinned (OpenSpec.upto nvramBackSpec)

/-- 'alidadelaw10.NvramCrashes', WHERE WHAT IT READS IS OF BULK AT MOST 1048576: true; the input reads as it did. -/
def nvramCrashesUptoRow : OpenClaim := { program := "ytjibcbfdfambeaa", sum := "b276d6b170d59cf164f59154d3849f684057bce98ad299447356da08acd4030f", func := "alidade/alidadelaw10.NvramCrashes", spec := "nvramCrashes", unfollowed := true, recurses := true, apart := false, narrowed := true }
def NvramCrashesUptoSaid : Prop := nvramCrashesUptoRow.holds Try.pinned (OpenSpec.upto nvramCrashesSpec)

/-- 'alidadelaw10.NvramTwice', WHERE WHAT IT READS IS OF BULK AT MOST 1048576: true; the input reads as it did. -/
def nvramTwiceUptoRow : OpenClaim := { program := "ytjibcbfdfambeaa", sum := "b276d6b170d59cf164f59154d3849f684057bce98ad299447356da08acd4030f", func := "alidade/alidadelaw10.NvramTwice", spec := "nvramTwice", unfollowed := true, recurses := true, apart := false, narrowed := true }
def NvramTwiceUptoSaid : Prop := nvramTwiceUptoRow.holds Try.pinned (OpenSpec.upto nvramTwiceSpec)

/-- 'alidadelaw10.NvramOld', WHERE WHAT IT READS IS OF BULK AT MOST 1048576: true; the input reads as it did. -/
def nvramOldUptoRow : OpenClaim := { program := "ytjibcbfdfambeaa", sum := "b276d6b170d59cf164f59154d3849f684057bce98ad299447356da08acd4030f", func := "alidade/alidadelaw10.NvramOld", spec := "nvramOld", unfollowed := true, recurses := true, apart := false, narrowed := true }
def NvramOldUptoSaid : Prop := nvramOldUptoRow.holds Try.pinned (OpenSpec.upto nvramOldSpec)

/-- 'alidadelaw10.NvramSums', WHERE WHAT IT READS IS OF BULK AT MOST 1048576: true; the input reads as it did. -/
def nvramSumsUptoRow : OpenClaim := { program := "ytjibcbfdfambeaa", sum := "b276d6b170d59cf164f59154d3849f684057bce98ad299447356da08acd4030f", func := "alidade/alidadelaw10.NvramSums", spec := "nvramSums", unfollowed := true, recurses := true, apart := false, narrowed := true }
def NvramSumsUptoSaid : Prop := nvramSumsUptoRow.holds Try.pinned (OpenSpec.upto nvramSumsSpec)

/-- 'alidadelaw10.NvramTells', WHERE WHAT IT READS IS OF BULK AT MOST 1048576: true; the input reads as it did. -/
def nvramTellsUptoRow : OpenClaim := { program := "ytjibcbfdfambeaa", sum := "b276d6b170d59cf164f59154d3849f684057bce98ad299447356da08acd4030f", func := "alidade/alidadelaw10.NvramTells", spec := "nvramTells", unfollowed := true, recurses := true, apart := false, narrowed := true }
def NvramTellsUptoSaid : Prop := nvramTellsUptoRow.holds Try.pinned (OpenSpec.upto nvramTellsSpec)

/-- 'alidadelaw10.NvramNone', WHERE WHAT IT READS IS OF BULK AT MOST 1048576: true; the input reads as it did. -/
def nvramNoneUptoRow : OpenClaim := { program := "ytjibcbfdfambeaa", sum := "b276d6b170d59cf164f59154d3849f684057bce98ad299447356da08acd4030f", func := "alidade/alidadelaw10.NvramNone", spec := "nvramNone", unfollowed := true, recurses := true, apart := false, narrowed := true }
def NvramNoneUptoSaid : Prop := nvramNoneUptoRow.holds Try.pinned (OpenSpec.upto nvramNoneSpec)

end Rows
end Go.Proofs.Ytjibcbfdfambeaa
