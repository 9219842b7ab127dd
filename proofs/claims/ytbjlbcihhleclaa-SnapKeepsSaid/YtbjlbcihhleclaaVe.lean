/- Ve: a part of the proof: contracts of functions, or plain laws. Conditions: none. -/
import Derived.Test.YtbjlbcihhleclaaVd
import Derived.Test.YtbjlbcihhleclaaEc
namespace Go.Proofs.Ytbjlbcihhleclaa.Ah
open Go Go.WideShapes
attribute [local irreducible] acs aopsK drawK leave condK bindR bindD bindX guardK guardD callB callD callX callP callPv rfunG rfunK yldB yldD
set_option maxHeartbeats 8000000
set_option linter.unusedSimpArgs false
set_option linter.unusedVariables false
/-! Contracts: how many bits are 1. -/

/-! Contracts: the row of a delta. -/
/-- Is the bit of a place 1? -/
def bit (d : List Int) (j : Nat) : Bool := decide (d.getD (j / 60) 0 / 2 ^ (j % 60) % 2 = 1)
/-- How many bits are 1 from a place on. -/
def pl (d : List Int) : Nat → Nat → Nat
  | _, 0 => 0
  | j, n + 1 => (if bit d j then 1 else 0) + pl d (j + 1) n
def ap (d : List Int) : List Int → Nat → List Int → List Int → Option (List Int)
  | [], _, ws, acc => if ws.isEmpty then some acc else none
  | b :: bs, j, ws, acc => if bit d j then (match ws with | [] => none | w :: ws => if w = b then none else ap d bs (j + 1) ws (acc ++ [w])) else ap d bs (j + 1) ws (acc ++ [b])

/-! Contracts: deltas, whatever comes. -/
end Go.Proofs.Ytbjlbcihhleclaa.Ah
