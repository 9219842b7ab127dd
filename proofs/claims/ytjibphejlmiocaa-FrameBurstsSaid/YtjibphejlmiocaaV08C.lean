/- V08C: a part of the proof: contracts of functions, or plain laws. Conditions: none. -/
import Derived.Test.YtjibphejlmiocaaV08a
namespace Go.Proofs.Ytjibphejlmiocaa.Ah
open Go
set_option linter.unusedVariables false
/-! Plain laws of sums: they are linear; what is other is told. -/
theorem half_xor (a b : Nat) : (a ^^^ b) / 2 = a / 2 ^^^ b / 2 := by
  have := Nat.shiftRight_xor_distrib (a := a) (b := b) (i := 1)
  simpa [Nat.shiftRight_eq_div_pow] using this
theorem xor_cc (a b c : Nat) : a ^^^ b ^^^ (c ^^^ b) = a ^^^ c := by
  rw [Nat.xor_comm c b, ← Nat.xor_assoc, Nat.xor_assoc a b b, Nat.xor_self, Nat.xor_zero]
theorem st1_xor (a b : Nat) : st1 (a ^^^ b) = st1 a ^^^ st1 b := by
  have h2 : (a ^^^ b) % 2 = (a + b) % 2 := by
    have := Nat.xor_mod_two_pow (a := a) (b := b) (n := 1)
    simp only [Nat.pow_one] at this
    rw [this]
    rcases Nat.mod_two_eq_zero_or_one a with h | h <;> rcases Nat.mod_two_eq_zero_or_one b with g | g <;> simp [h, g, Nat.add_mod]
  unfold st1
  rw [half_xor]
  by_cases ha : a % 2 = 1
  · by_cases hb : b % 2 = 1
    · rw [if_pos ha, if_pos hb, if_neg (by omega), xor_cc]
    · rw [if_pos ha, if_neg hb, if_pos (by omega), Nat.xor_assoc, Nat.xor_comm (b / 2), ← Nat.xor_assoc]
  · by_cases hb : b % 2 = 1
    · rw [if_neg ha, if_pos hb, if_pos (by omega), Nat.xor_assoc]
    · rw [if_neg ha, if_neg hb, if_neg (by omega)]
theorem stn_xor : ∀ (k a b : Nat), stn k (a ^^^ b) = stn k a ^^^ stn k b
  | 0, _, _ => rfl
  | k + 1, a, b => by rw [stn, stn, stn, st1_xor, stn_xor k]
theorem stn_shift : ∀ (k h : Nat), stn k (2 ^ k * h) = h
  | 0, h => by simp [stn]
  | k + 1, h => by
    have e : 2 ^ (k + 1) * h = 2 * (2 ^ k * h) := by rw [Nat.pow_succ, Nat.mul_comm (2 ^ k) 2, Nat.mul_assoc]
    rw [stn, e]
    have : st1 (2 * (2 ^ k * h)) = 2 ^ k * h := by
      unfold st1
      rw [if_neg (by omega)]
      omega
    rw [this, stn_shift k]
theorem split_xor (c : Nat) : c = (256 * (c / 256)) ^^^ (c % 256) := by
  have h := Nat.two_pow_add_eq_or_of_lt (i := 8) (b := c % 256) (by omega) (c / 256)
  have h3 : (256 * (c / 256)) ^^^ (c % 256) = (256 * (c / 256)) ||| (c % 256) := by
    apply Nat.eq_of_testBit_eq
    intro i
    rw [Nat.testBit_xor, Nat.testBit_or]
    by_cases hi : i < 8
    · have : (256 * (c / 256)).testBit i = false := by
        rw [show (256 : Nat) = 2 ^ 8 by rfl, Nat.testBit_two_pow_mul]
        simp; omega
      rw [this]; simp
    · have : (c % 256).testBit i = false := Nat.testBit_lt_two_pow (Nat.lt_of_lt_of_le (show c % 256 < 2 ^ 8 by omega) (Nat.pow_le_pow_right (by omega) (by omega)))
      rw [this]; simp
  rw [h3]
  have h4 : (2 : Nat) ^ 8 = 256 := rfl
  rw [h4] at h
  rw [← h]
  omega
theorem step_eq (c x : Nat) : c / 256 ^^^ tab ((c % 256) ^^^ x) = stn 8 (c ^^^ x) := by
  conv => rhs; rw [split_xor c]
  rw [Nat.xor_assoc, stn_xor]
  have := stn_shift 8 (c / 256)
  rw [show (2 : Nat) ^ 8 = 256 by rfl] at this
  rw [this]
  rfl
theorem mor_cons (c x : Nat) (r : List Nat) : mor c (x :: r) = mor (stn 8 (c ^^^ x)) r := by rw [mor, step_eq]
def xors : List Nat → List Nat → List Nat
  | a :: xs, b :: ys => (a ^^^ b) :: xors xs ys
  | _, _ => []
theorem mor_xor : ∀ (xs ys : List Nat) (c d : Nat), xs.length = ys.length → mor (c ^^^ d) (xors xs ys) = mor c xs ^^^ mor d ys
  | [], [], c, d, _ => rfl
  | [], _ :: _, c, d, h => by simp at h
  | _ :: _, [], c, d, h => by simp at h
  | a :: xs, b :: ys, c, d, h => by
    rw [xors, mor_cons, mor_cons, mor_cons]
    have e : c ^^^ d ^^^ (a ^^^ b) = (c ^^^ a) ^^^ (d ^^^ b) := by
      rw [Nat.xor_assoc, Nat.xor_assoc, ← Nat.xor_assoc d a b, Nat.xor_comm d a, Nat.xor_assoc a d b]
    rw [e, stn_xor, mor_xor xs ys _ _ (by simpa using h)]
theorem xors_len : ∀ (xs ys : List Nat), xs.length = ys.length → (xors xs ys).length = xs.length
  | [], [], _ => rfl
  | [], _ :: _, h => by simp at h
  | _ :: _, [], h => by simp at h
  | a :: xs, b :: ys, h => by rw [xors, List.length_cons, List.length_cons, xors_len xs ys (by simpa using h)]
theorem xors_By : ∀ {xs ys : List Nat}, By xs → By ys → By (xors xs ys)
  | [], [], _, _ => by intro x hx; cases hx
  | [], _ :: _, _, _ => by intro x hx; cases hx
  | _ :: _, [], _, _ => by intro x hx; cases hx
  | a :: xs, b :: ys, ha, hb => by
    intro x hx
    rw [xors] at hx
    rcases List.mem_cons.1 hx with rfl | hx
    · have h1 := ha a (by simp)
      have h2 := hb b (by simp)
      have := Nat.xor_lt_two_pow (n := 8) (show a < 2 ^ 8 by omega) (show b < 2 ^ 8 by omega)
      omega
    · exact xors_By (xs := xs) (ys := ys) (fun y hy => ha y (by simp [hy])) (fun y hy => hb y (by simp [hy])) x hx
theorem not_xor {a : Nat} (h : a < 4294967296) : 4294967295 ^^^ a = 4294967295 - a := by
  have h := congrArg BitVec.toNat (BitVec.allOnes_xor (x := BitVec.ofNat 32 a))
  rw [BitVec.toNat_xor, BitVec.toNat_not, BitVec.toNat_allOnes, BitVec.toNat_ofNat, Nat.mod_eq_of_lt (show a < 2 ^ 32 by omega)] at h
  exact h
theorem sof_xor {b : List Nat} (hb : By b) : sof b = 4294967295 ^^^ mor 4294967295 b := by
  unfold sof
  rw [not_xor (mor_lt b _ (by omega) hb)]
/-- Three rows. -/
theorem sof3 {a b c : List Nat} (ha : By a) (hb : By b) (hc : By c) (h1 : b.length = a.length) (h2 : c.length = a.length) : sof a ^^^ sof b ^^^ sof c = sof (xors (xors a b) c) := by
  have hl := xors_len a b h1.symm
  rw [sof_xor ha, sof_xor hb, sof_xor hc, sof_xor (xors_By (xors_By ha hb) hc)]
  have e := mor_xor (xors a b) c (4294967295 ^^^ 4294967295) 4294967295 (by omega)
  rw [mor_xor a b _ _ h1.symm, Nat.xor_self, Nat.zero_xor] at e
  rw [e]
  generalize mor 4294967295 a = x
  generalize mor 4294967295 b = y
  generalize mor 4294967295 c = z
  generalize 4294967295 = F
  rw [Nat.xor_assoc F x (F ^^^ y), ← Nat.xor_assoc x F y, Nat.xor_comm x F, Nat.xor_assoc F x y, ← Nat.xor_assoc F F, Nat.xor_self, Nat.zero_xor, ← Nat.xor_assoc (x ^^^ y) F z, Nat.xor_comm (x ^^^ y) F, Nat.xor_assoc F]
end Go.Proofs.Ytjibphejlmiocaa.Ah
