/- V03t: a part of the proof: contracts of functions, or plain laws. Conditions: none. -/
import Derived.Test.YtmlklopopokjoaaV03s
namespace Go.Proofs.Ytmlklopopokjoaa.Ah
open Go Go.WideShapes
set_option maxHeartbeats 4000000
set_option linter.unusedSimpArgs false
set_option linter.unusedVariables false
/-! Products of whole numbers. -/
theorem mu_zero' (a : Int) : mu 0 a = (0, false) := by rw [mu_comm]; exact mu_zero a
theorem rl_of (u t : Nat) (h1 : u % 16777216 = 0) (h2 : u / 16777216 = t) (h3 : t < 18446744073709551616) : rl u = t := by
  unfold rl
  rw [h1, h2, if_neg (by omega)]
  exact Nat.mod_eq_of_lt h3
theorem nm (x y K L : Nat) (h : K * K = L) (u v : Nat) (hu : u = x * K) (hv : v = y * K) : u * v = x * y * L := by
  subst hu hv h
  exact Nat.mul_mul_mul_comm x K y K
theorem mu_whole {a b : Int} (ha : -128 ≤ a ∧ a ≤ 127) (hb : -128 ≤ b ∧ b ≤ 127) : mu (a * 16777216) (b * 16777216) = (a * b * 16777216, false) := by
  obtain ⟨x, hx⟩ : ∃ x, x = a.natAbs := ⟨_, rfl⟩
  obtain ⟨y, hy⟩ : ∃ y, y = b.natAbs := ⟨_, rfl⟩
  have bp : x * y ≤ 128 * 128 := Nat.mul_le_mul (by omega) (by omega)
  have e0 : (a * 16777216).natAbs * (b * 16777216).natAbs = x * y * 281474976710656 := by
    have p1 : (a * 16777216).natAbs = x * 16777216 := by omega
    have p2 : (b * 16777216).natAbs = y * 16777216 := by omega
    exact nm x y 16777216 281474976710656 (by simp) _ _ p1 p2
  have e4 : (x * y : Nat) = (a * b).natAbs := by rw [Int.natAbs_mul, hx, hy]
  unfold mu
  rw [e0]
  generalize x * y = z at *
  have e1 : z * 281474976710656 / 309485009821345068724781056 = 0 := by omega
  obtain ⟨t, ht⟩ : ∃ t, t = z * 16777216 := ⟨_, rfl⟩
  have e2 : rl (z * 281474976710656) = t := rl_of _ _ (by omega) (by omega) (by omega)
  have s1 : decide (a * 16777216 < 0) = decide (a < 0) := by rw [decide_eq_decide]; omega
  have s2 : decide (b * 16777216 < 0) = decide (b < 0) := by rw [decide_eq_decide]; omega
  rw [e1, e2, s1, s2]
  obtain ⟨v, hv⟩ : ∃ v, v = a * b * 16777216 := ⟨_, rfl⟩
  rw [← hv]
  have e3 : sn (!decide (decide (a < 0) = decide (b < 0))) (t : Int) = v := by
    by_cases ha0 : a < 0 <;> by_cases hb0 : b < 0
    · have h : 0 ≤ a * b := by have := Int.mul_nonneg (show 0 ≤ -a by omega) (show 0 ≤ -b by omega); rwa [Int.neg_mul_neg] at this
      rw [decide_eq_true ha0, decide_eq_true hb0]
      have : sn (!decide (true = true)) (t : Int) = (t : Int) := rfl
      rw [this]
      omega
    · have h : a * b ≤ 0 := by have := Int.mul_nonneg (show 0 ≤ -a by omega) (show 0 ≤ b by omega); rw [Int.neg_mul] at this; omega
      rw [decide_eq_true ha0, decide_eq_false hb0]
      have : sn (!decide (true = false)) (t : Int) = 0 - (t : Int) := rfl
      rw [this]
      omega
    · have h : a * b ≤ 0 := by have := Int.mul_nonneg (show 0 ≤ a by omega) (show 0 ≤ -b by omega); rw [Int.mul_neg] at this; omega
      rw [decide_eq_false ha0, decide_eq_true hb0]
      have : sn (!decide (false = true)) (t : Int) = 0 - (t : Int) := rfl
      rw [this]
      omega
    · have h : 0 ≤ a * b := Int.mul_nonneg (by omega) (by omega)
      rw [decide_eq_false ha0, decide_eq_false hb0]
      have : sn (!decide (false = false)) (t : Int) = (t : Int) := rfl
      rw [this]
      omega
  have hin : InB v := by unfold InB; omega
  have ht2 : t ≤ 70368744177664 := by omega
  unfold sg
  rw [if_pos ⟨rfl, ht2⟩, e3, cl_id hin, ov_no hin]
theorem cl0 : cl 0 = 0 := rfl
theorem ov0 : ov 0 = false := rfl
def w3 (a b c : Int) : List Int := [a * 16777216, b * 16777216, c * 16777216]
theorem at3 {a b c : Int} {p off i k : Nat} {kk : Option Nat} (hi : i < 3) (hk : k < 3) : Mx.at ⟨3, 3, dgL (w3 a b c), p, off, kk⟩ i k = dg (w3 a b c) i k := by
  have e : dgL (w3 a b c) = matL (dg (w3 a b c)) 3 3 := rfl
  rw [e]
  exact matL_at' hi hk
theorem mul_dg {a0 a1 a2 b0 b1 b2 : Int} (h0 : -128 ≤ a0 ∧ a0 ≤ 127) (h1 : -128 ≤ a1 ∧ a1 ≤ 127) (h2 : -128 ≤ a2 ∧ a2 ≤ 127) (g0 : -128 ≤ b0 ∧ b0 ≤ 127) (g1 : -128 ≤ b1 ∧ b1 ≤ 127) (g2 : -128 ≤ b2 ∧ b2 ≤ 127)
    {p1 o1 p2 o2 : Nat} {k1 k2 : Option Nat} (i0 : InB (a0 * b0 * 16777216)) (i1 : InB (a1 * b1 * 16777216)) (i2 : InB (a2 * b2 * 16777216)) :
    mulL ⟨3, 3, dgL (w3 a0 a1 a2), p1, o1, k1⟩ ⟨3, 3, dgL (w3 b0 b1 b2), p2, o2, k2⟩ = dgL (w3 (a0 * b0) (a1 * b1) (a2 * b2)) ∧ mulO ⟨3, 3, dgL (w3 a0 a1 a2), p1, o1, k1⟩ ⟨3, 3, dgL (w3 b0 b1 b2), p2, o2, k2⟩ = false := by
  have key : ∀ i k, i < 3 → k < 3 → dot (fun j => Mx.at ⟨3, 3, dgL (w3 a0 a1 a2), p1, o1, k1⟩ i j) (fun j => Mx.at ⟨3, 3, dgL (w3 b0 b1 b2), p2, o2, k2⟩ j k) 3 = (dg (w3 (a0 * b0) (a1 * b1) (a2 * b2)) i k, false) := by
    intro i k hi hk
    rw [dot_congr (f' := fun j => dg (w3 a0 a1 a2) i j) (g' := fun j => dg (w3 b0 b1 b2) j k) fun j hj => ⟨at3 hi hj, at3 hj hk⟩]
    have ci : i = 0 ∨ i = 1 ∨ i = 2 := by omega
    have ck : k = 0 ∨ k = 1 ∨ k = 2 := by omega
    rcases ci with rfl | rfl | rfl <;> rcases ck with rfl | rfl | rfl <;>
      simp [dot, dg, w3, mu_whole h0 g0, mu_whole h1 g1, mu_whole h2 g2, mu_zero, mu_zero', cl0, ov0, cl_id i0, cl_id i1, cl_id i2, ov_no i0, ov_no i1, ov_no i2]
  constructor
  · exact matL_congr (r := 3) (c := 3) fun i k hi hk => by
      show (dot _ _ 3).1 = _
      rw [key i k hi hk]
  · exact matO_no (r := 3) (c := 3) fun i k hi hk => by
      show (dot _ _ 3).2 = _
      rw [key i k hi hk]
end Go.Proofs.Ytmlklopopokjoaa.Ah
