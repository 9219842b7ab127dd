/- V08E: a part of the proof: contracts of functions, or plain laws. Conditions: none. -/
import Derived.Test.YtjibphejlmiocaaV08B
import Derived.Test.YtjibphejlmiocaaV08D
namespace Go.Proofs.Ytjibphejlmiocaa.Ah
open Go Go.WideShapes
set_option maxHeartbeats 4000000
set_option linter.unusedSimpArgs false
set_option linter.unusedVariables false
/-! Bytes side by side that are changed. -/
theorem xor_add {k P b : Nat} (h : P < 2 ^ k) : P ^^^ (2 ^ k * b) = P + 2 ^ k * b := by
  have h1 := Nat.two_pow_add_eq_or_of_lt (i := k) (b := P) h b
  have h3 : P ^^^ (2 ^ k * b) = (2 ^ k * b) ||| P := by
    apply Nat.eq_of_testBit_eq
    intro i
    rw [Nat.testBit_xor, Nat.testBit_or]
    by_cases hi : i < k
    · have : (2 ^ k * b).testBit i = false := by
        rw [Nat.testBit_two_pow_mul]
        simp; omega
      rw [this]; simp
    · have : P.testBit i = false := Nat.testBit_lt_two_pow (Nat.lt_of_lt_of_le h (Nat.pow_le_pow_right (by omega) (by omega)))
      rw [this]; simp
  rw [h3, ← h1]
  omega
structure Inv (s0 : List Nat) (t i : Nat) (S : List Nat) (P : Nat) : Prop where
  by8 : By S
  len : S.length = s0.length
  mor : mor 4294967295 S = stn 32 4294967295 ^^^ stn (8 * (s0.length - t)) P
  lt : P < 2 ^ (8 * i)
  same : P = 0 → S = s0
theorem Inv.step {s0 : List Nat} {t i : Nat} {S : List Nat} {P x b : Nat} (h : Inv s0 t i S P) (hi : t + i < s0.length) (hx : S[t + i]? = some x) (hb : b < 256) : Inv s0 t (i + 1) (S.set (t + i) (x ^^^ b)) (P + 2 ^ (8 * i) * b) := by
  have hx8 : x < 256 := h.by8 x (List.mem_of_getElem? hx)
  refine ⟨?_, by rw [List.length_set]; exact h.len, ?_, ?_, fun h0 => ?_⟩
  · intro y hy
    rcases List.mem_or_eq_of_mem_set hy with hy | rfl
    · exact h.by8 y hy
    · exact Nat.xor_lt_two_pow (n := 8) (by omega) (by omega)
  · rw [mor_setx S _ b _ x hx, h.mor, h.len, ← xor_add h.lt, stn_xor, ← Nat.xor_assoc]
    congr 1
    rw [show 8 * (s0.length - t) = 8 * i + 8 * (s0.length - (t + i)) by omega, stn_add, stn_shift]
  · have h2 : 2 ^ (8 * (i + 1)) = 2 ^ (8 * i) * 256 := by rw [show 8 * (i + 1) = 8 * i + 8 by omega, Nat.pow_add]
    rw [h2]
    have h3 := h.lt
    have h4 : 2 ^ (8 * i) * b ≤ 2 ^ (8 * i) * 255 := Nat.mul_le_mul_left _ (by omega)
    omega
  · have h1 : P = 0 := by omega
    have h2 : 2 ^ (8 * i) * b = 0 := by omega
    have h3 : b = 0 := by
      rcases Nat.mul_eq_zero.1 h2 with h | h
      · have := Nat.two_pow_pos (8 * i); omega
      · exact h
    subst h3
    rw [Nat.xor_zero, ← h.same h1]
    apply List.ext_getElem?
    intro j
    rw [List.getElem?_set]
    by_cases hj : t + i = j
    · subst hj
      rw [if_pos rfl, if_pos (by rw [h.len]; exact hi), hx]
    · rw [if_neg hj]
theorem Inv.whole {s0 : List Nat} {t i m : Nat} {S : List Nat} {P : Nat} (h : Inv s0 t i S P) (hi : i ≤ 4) (hm : s0.length = m + 4) : Ah.whole S m = decide (P = 0) := by
  have hP : P < 4294967296 := Nat.lt_of_lt_of_le h.lt (show 2 ^ (8 * i) ≤ 2 ^ 32 from Nat.pow_le_pow_right (by omega) (by omega))
  have hr : whole' S m = true ↔ _ := residue h.by8 (by rw [h.len, hm])
  rw [h.mor] at hr
  have e : Ah.whole S m = whole' S m := rfl
  rw [e, Bool.eq_iff_iff, hr, decide_eq_true_eq]
  constructor
  · intro h2
    have h3 : stn (8 * (s0.length - t)) P = 0 := by
      have := (xor_eq_iff (stn (8 * (s0.length - t)) P) (stn 32 4294967295) (stn 32 4294967295)).1 (by rw [Nat.xor_comm]; exact h2)
      rwa [Nat.xor_self] at this
    exact stn_zero hP h3
  · rintro rfl
    rw [stn_nil, Nat.xor_zero]
end Go.Proofs.Ytjibphejlmiocaa.Ah
