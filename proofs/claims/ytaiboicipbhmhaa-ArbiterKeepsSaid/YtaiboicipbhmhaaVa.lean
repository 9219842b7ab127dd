/- Va: a part of the proof: contracts of functions, or plain laws. Conditions: none. -/
import Derived.Test.YtaiboicipbhmhaaEc
import Derived.Test.YtaiboicipbhmhaaG18
namespace Go.Proofs.Ytaiboicipbhmhaa.Ah
open Go Go.WideShapes
set_option maxHeartbeats 8000000
set_option linter.unusedSimpArgs false
set_option linter.unusedVariables false
def st1 (c : Nat) : Nat := if c % 2 = 1 then (c / 2) ^^^ 3988292384 else c / 2
def stn : Nat → Nat → Nat
  | 0, c => c
  | k + 1, c => stn k (st1 c)
def tab (i : Nat) : Nat := stn 8 i
def mor (c : Nat) : List Nat → Nat
  | [] => c
  | x :: r => mor (c / 256 ^^^ tab ((c % 256) ^^^ x)) r
def sof (b : List Nat) : Nat := 4294967295 - mor 4294967295 b
def By (b : List Nat) : Prop := ∀ x ∈ b, x < 256
theorem st1_lt {c : Nat} (h : c < 4294967296) : st1 c < 4294967296 := by
  unfold st1
  split
  · exact Nat.xor_lt_two_pow (n := 32) (by omega) (by omega)
  · omega
theorem stn_lt : ∀ (k c : Nat), c < 4294967296 → stn k c < 4294967296
  | 0, _, h => h
  | k + 1, _, h => stn_lt k _ (st1_lt h)
theorem tab_lt {i : Nat} (h : i < 4294967296) : tab i < 4294967296 := stn_lt 8 i h
theorem mor_lt : ∀ (b : List Nat) (c : Nat), c < 4294967296 → By b → mor c b < 4294967296
  | [], _, h, _ => h
  | x :: r, c, h, hb => by
    refine mor_lt r _ ?_ (fun y hy => hb y (by simp [hy]))
    have hx := hb x (by simp)
    exact Nat.xor_lt_two_pow (n := 32) (by omega) (tab_lt (by have := Nat.xor_lt_two_pow (n := 8) (show c % 256 < 2 ^ 8 by omega) (show x < 2 ^ 8 by omega); omega))
theorem sof_lt {b : List Nat} : sof b < 4294967296 := by unfold sof; omega
def u8 (n : Nat) : AV := .int .u8 (n : Int)
def u32 (n : Nat) : AV := .int .u32 (n : Int)
theorem xor32 {a b : Nat} (ha : a < 4294967296) (hb : b < 4294967296) : IntKind.u32.wrap (BitVec.ofInt IntKind.u32.bits (a : Int) ^^^ BitVec.ofInt IntKind.u32.bits (b : Int)).toNat = ((a ^^^ b : Nat) : Int) := by
  have h : a ^^^ b < 2 ^ 32 := Nat.xor_lt_two_pow (by omega) (by omega)
  have e : (BitVec.ofInt IntKind.u32.bits (a : Int) ^^^ BitVec.ofInt IntKind.u32.bits (b : Int)).toNat = a ^^^ b := by
    show (BitVec.ofInt 32 (a : Int) ^^^ BitVec.ofInt 32 (b : Int)).toNat = a ^^^ b
    rw [BitVec.toNat_xor, BitVec.ofInt_natCast, BitVec.ofInt_natCast, BitVec.toNat_ofNat, BitVec.toNat_ofNat, Nat.mod_eq_of_lt (by omega), Nat.mod_eq_of_lt (by omega)]
  rw [e, u32_in]
  omega
theorem xor8 {a b : Nat} (ha : a < 256) (hb : b < 256) : IntKind.u8.wrap (BitVec.ofInt IntKind.u8.bits (a : Int) ^^^ BitVec.ofInt IntKind.u8.bits (b : Int)).toNat = ((a ^^^ b : Nat) : Int) := by
  have h : a ^^^ b < 2 ^ 8 := Nat.xor_lt_two_pow (by omega) (by omega)
  have e : (BitVec.ofInt IntKind.u8.bits (a : Int) ^^^ BitVec.ofInt IntKind.u8.bits (b : Int)).toNat = a ^^^ b := by
    show (BitVec.ofInt 8 (a : Int) ^^^ BitVec.ofInt 8 (b : Int)).toNat = a ^^^ b
    rw [BitVec.toNat_xor, BitVec.ofInt_natCast, BitVec.ofInt_natCast, BitVec.toNat_ofNat, BitVec.toNat_ofNat, Nat.mod_eq_of_lt (by omega), Nat.mod_eq_of_lt (by omega)]
  rw [e, u8_in]
  omega
theorem and1_32 {a : Nat} (ha : a < 4294967296) : IntKind.u32.wrap (BitVec.ofInt IntKind.u32.bits (a : Int) &&& BitVec.ofInt IntKind.u32.bits 1).toNat = ((a % 2 : Nat) : Int) := by
  have e : (BitVec.ofInt IntKind.u32.bits (a : Int) &&& BitVec.ofInt IntKind.u32.bits 1).toNat = a % 2 := by
    show (BitVec.ofInt 32 (a : Int) &&& BitVec.ofInt 32 ((1 : Nat) : Int)).toNat = a % 2
    rw [BitVec.toNat_and, BitVec.ofInt_natCast, BitVec.ofInt_natCast, BitVec.toNat_ofNat, BitVec.toNat_ofNat, Nat.mod_eq_of_lt (by omega), Nat.mod_eq_of_lt (by omega), Nat.and_one_is_mod]
  rw [e, u32_in]
  omega
theorem shr_div {a : Nat} {k : Nat} (hk : k ≤ 32) : (a : Int).fdiv (2 ^ (min k IntKind.u32.bits)) = ((a / 2 ^ k : Nat) : Int) := by
  have e : min k IntKind.u32.bits = k := by
    have : IntKind.u32.bits = 32 := rfl
    omega
  rw [e, Int.fdiv_eq_ediv_of_nonneg _ (Int.pow_nonneg (by decide))]
  simp
theorem not32 {a : Nat} (ha : a < 4294967296) : IntKind.u32.wrap (BitVec.ofInt IntKind.u32.bits (if IntKind.u32.signed then -1 else IntKind.u32.max) ^^^ BitVec.ofInt IntKind.u32.bits (a : Int)).toNat = ((4294967295 - a : Nat) : Int) := by
  have e0 : (if IntKind.u32.signed then (-1 : Int) else IntKind.u32.max) = ((4294967295 : Nat) : Int) := by decide
  rw [e0, xor32 (by omega) ha]
  congr 1
  have h := congrArg BitVec.toNat (BitVec.allOnes_xor (x := BitVec.ofNat 32 a))
  rw [BitVec.toNat_xor, BitVec.toNat_not, BitVec.toNat_allOnes, BitVec.toNat_ofNat, Nat.mod_eq_of_lt (show a < 2 ^ 32 by omega)] at h
  have h2 : (4294967295 ^^^ a : Nat) = 4294967295 - a := h
  rw [h2]
end Go.Proofs.Ytaiboicipbhmhaa.Ah
