/- V09l: a part of the proof: contracts of functions, or plain laws. Conditions: none. -/
import Derived.Test.YtlohehkagaabfaaV09k
namespace Go.Proofs.Ytlohehkagaabfaa.Ah
open Go Go.WideShapes
set_option maxHeartbeats 4000000
set_option linter.unusedSimpArgs false
set_option linter.unusedVariables false
/-! The plain law: a delta has one row, a row one delta. -/
def mkw (β : Nat → Bool) (s : Nat) : Nat → Nat
  | 0 => 0
  | c + 1 => mkw β s c + (if β (s + c) then 2 ^ c else 0)
def msk (β : Nat → Bool) (n j : Nat) : List Int := (List.range n).map fun i => ((mkw β (60 * i) (min 60 (j - 60 * i)) : Nat) : Int)
def chg : List Int → List Int → List Int
  | b :: bs, n :: ns => if n = b then chg bs ns else n :: chg bs ns
  | _, _ => []
theorem mkw_lt (β : Nat → Bool) (s : Nat) : ∀ (c : Nat), mkw β s c < 2 ^ c
  | 0 => by simp [mkw]
  | c + 1 => by
    have := mkw_lt β s c
    rw [mkw, Nat.pow_succ]
    split <;> omega
theorem mkw_bit (β : Nat → Bool) (s : Nat) : ∀ (c t : Nat), mkw β s c / 2 ^ t % 2 = if t < c ∧ β (s + t) then 1 else 0
  | 0, t => by simp [mkw]
  | c + 1, t => by
    have ih := mkw_bit β s c t
    have hlt := mkw_lt β s c
    rw [mkw]
    rcases Nat.lt_trichotomy t c with h | rfl | h
    · have e : 2 ^ c = 2 ^ t * (2 * 2 ^ (c - t - 1)) := by rw [← Nat.mul_assoc, ← Nat.pow_succ, ← Nat.pow_add]; congr 1; omega
      have : (mkw β s c + (if β (s + c) then 2 ^ c else 0)) / 2 ^ t % 2 = mkw β s c / 2 ^ t % 2 := by
        split
        · rw [e, Nat.add_mul_div_left _ _ (Nat.two_pow_pos t)]
          omega
        · rw [Nat.add_zero]
      rw [this, ih]
      have h1 : (t < c) = True := by simp [h]
      have h2 : (t < c + 1) = True := by simp; omega
      simp only [h1, h2]
    · have e0 : mkw β s t / 2 ^ t = 0 := Nat.div_eq_of_lt hlt
      cases hb : β (s + t) with
      | true => simp only [if_true]; rw [Nat.add_div_right _ (Nat.two_pow_pos t), e0]; simp
      | false => simp [e0]
    · have h1 : mkw β s c + (if β (s + c) then 2 ^ c else 0) < 2 ^ t := by
        have : 2 ^ (c + 1) ≤ 2 ^ t := Nat.pow_le_pow_right (by decide) (by omega)
        rw [Nat.pow_succ] at this
        split <;> omega
      rw [Nat.div_eq_of_lt h1, if_neg (by omega)]
theorem orb_add {x j : Nat} (h : x < 2 ^ (j % 60)) : orb (x : Int) j = ((x + 2 ^ (j % 60) : Nat) : Int) := by
  have hp : 2 ^ (j % 60) ≤ 2 ^ 59 := Nat.pow_le_pow_right (by decide) (by omega)
  have em : min (j % 60) IntKind.i64.bits = j % 60 := by
    have : IntKind.i64.bits = 64 := rfl
    omega
  have e1 : (1 : Int) * 2 ^ (j % 60) = ((2 ^ (j % 60) : Nat) : Int) := by push_cast; omega
  unfold orb
  rw [em, e1]
  generalize hP : 2 ^ (j % 60) = P at *
  have e2 : IntKind.i64.wrap (P : Int) = (P : Int) := i64_in _ (by omega)
  rw [e2]
  have e3 : (BitVec.ofInt IntKind.i64.bits (x : Int) ||| BitVec.ofInt IntKind.i64.bits (P : Int)).toNat = x + P := by
    show (BitVec.ofInt 64 (x : Int) ||| BitVec.ofInt 64 (P : Int)).toNat = _
    rw [BitVec.toNat_or, BitVec.ofInt_natCast, BitVec.ofInt_natCast, BitVec.toNat_ofNat, BitVec.toNat_ofNat, Nat.mod_eq_of_lt (by omega), Nat.mod_eq_of_lt (by omega)]
    have := Nat.two_pow_add_eq_or_of_lt (i := j % 60) (b := x) (by omega) 1
    rw [hP, Nat.mul_one] at this
    rw [Nat.or_comm, ← this]
    omega
  rw [e3, i64_in _ (by omega)]
theorem msk_len (β : Nat → Bool) (n j : Nat) : (msk β n j).length = n := by simp [msk]
theorem msk_get (β : Nat → Bool) {n j i : Nat} (h : i < n) : (msk β n j)[i]? = some ((mkw β (60 * i) (min 60 (j - 60 * i)) : Nat) : Int) := by
  simp [msk, h]
theorem msk_step (β : Nat → Bool) (n j : Nat) (h : j < 60 * n) : msk β n (j + 1) = if β j then (msk β n j).set (j / 60) ((mkw β (60 * (j / 60)) (j % 60) + 2 ^ (j % 60) : Nat) : Int) else msk β n j := by
  apply List.ext_getElem?
  intro i
  by_cases hi : i < n
  · rw [msk_get β hi]
    by_cases he : i = j / 60
    · subst he
      have e1 : min 60 (j + 1 - 60 * (j / 60)) = j % 60 + 1 := by omega
      have e2 : min 60 (j - 60 * (j / 60)) = j % 60 := by omega
      have e3 : 60 * (j / 60) + j % 60 = j := by omega
      rw [e1, mkw, e3]
      cases hb : β j with
      | true => rw [if_pos rfl, if_pos rfl, List.getElem?_set_self (by rw [msk_len]; exact hi)]
      | false => simp only [Bool.false_eq_true, if_false]; rw [msk_get β hi, e2, Nat.add_zero]
    · have e1 : min 60 (j + 1 - 60 * i) = min 60 (j - 60 * i) := by omega
      rw [e1]
      split
      · rw [List.getElem?_set_ne (by omega), msk_get β hi]
      · rw [msk_get β hi]
  · rw [List.getElem?_eq_none (by rw [msk_len]; omega)]
    split
    · rw [List.getElem?_eq_none (by rw [List.length_set, msk_len]; omega)]
    · rw [List.getElem?_eq_none (by rw [msk_len]; omega)]
theorem dif_eq (β : Nat → Bool) (n : Nat) : ∀ (rb rn ch : List Int) (j : Nat), rb.length = rn.length → j + rn.length ≤ 60 * n → (∀ t, t < rn.length → β (j + t) = decide (rn.getD t 0 ≠ rb.getD t 0)) →
    dif (msk β n j ++ ch, j) rb rn = msk β n (j + rn.length) ++ (ch ++ chg rb rn)
  | [], [], ch, j, _, _, _ => by simp [dif, chg]
  | [], _ :: _, ch, j, h, _, _ => by simp at h
  | _ :: _, [], ch, j, h, _, _ => by simp at h
  | b :: rb, x :: rn, ch, j, h, hj, hβ => by
    rw [List.length_cons] at hj
    have hlt : j / 60 < n := by omega
    have h0 : β j = decide (x ≠ b) := by simpa using hβ 0 (by simp)
    have hβ2 : ∀ t, t < rn.length → β (j + 1 + t) = decide (rn.getD t 0 ≠ rb.getD t 0) := by
      intro t ht
      have := hβ (t + 1) (by simp; omega)
      rw [show j + (t + 1) = j + 1 + t by omega] at this
      simpa using this
    have st := msk_step β n j (by omega)
    have ih := fun ch => dif_eq β n rb rn ch (j + 1) (by simpa using h) (by omega) hβ2
    rw [dif, List.length_cons, show j + (rn.length + 1) = j + 1 + rn.length by omega, chg]
    by_cases he : x = b
    · rw [if_pos he, if_pos he, ← ih]
      have : β j = false := by rw [h0]; simp [he]
      rw [this] at st
      simp only [Bool.false_eq_true, if_false] at st
      rw [st]
    · rw [if_neg he, if_neg he]
      have hb : β j = true := by rw [h0]; simp [he]
      rw [hb, if_pos rfl] at st
      have hm : (msk β n j ++ ch).getD (j / 60) 0 = ((mkw β (60 * (j / 60)) (j % 60) : Nat) : Int) := by
        rw [List.getD_eq_getElem?_getD, List.getElem?_append_left (by rw [msk_len]; exact hlt), msk_get β hlt, show min 60 (j - 60 * (j / 60)) = j % 60 by omega]
        rfl
      rw [hm, orb_add (mkw_lt _ _ _), List.set_append_left _ _ (by rw [msk_len]; exact hlt), ← st, List.append_assoc, ih]
      simp
theorem diff_eq {bs ns : List Int} (h : bs.length = ns.length) : diff bs ns = msk (fun j => decide (ns.getD j 0 ≠ bs.getD j 0)) ((ns.length + 59) / 60) ns.length ++ chg bs ns := by
  have e : ∀ β n, msk β n 0 = List.replicate n 0 := by
    intro β n
    apply List.ext_getElem?
    intro i
    by_cases hi : i < n
    · rw [msk_get β hi, Nat.zero_sub, Nat.min_zero]
      simp [mkw, hi]
    · rw [List.getElem?_eq_none (by rw [msk_len]; omega), List.getElem?_eq_none (by simp; omega)]
  have := dif_eq (fun j => decide (ns.getD j 0 ≠ bs.getD j 0)) ((ns.length + 59) / 60) bs ns [] 0 h (by omega) (fun t ht => by simp)
  rw [List.append_nil, e, Nat.zero_add, List.nil_append] at this
  exact this
end Go.Proofs.Ytlohehkagaabfaa.Ah
