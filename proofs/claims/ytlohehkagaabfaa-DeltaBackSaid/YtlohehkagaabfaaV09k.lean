/- V09k: a part of the proof: contracts of functions, or plain laws. Conditions: none. -/
import Derived.Test.YtlohehkagaabfaaV09j
namespace Go.Proofs.Ytlohehkagaabfaa.Ah
open Go Go.WideShapes
set_option maxHeartbeats 4000000
set_option linter.unusedSimpArgs false
set_option linter.unusedVariables false
/-! The plain law: both rows of a delta. -/
def jj (L i : Nat) : Nat := min L (60 * (i / 64) + min (i % 64) 60)
def stray (L : Nat) (d : List Int) : Nat → Nat → Nat
  | 0, _ => 0
  | m + 1, i => (if 60 ≤ i % 64 ∨ L ≤ 60 * (i / 64) + i % 64 then (if wb (d.getD (i / 64) 0) (i % 64) then 1 else 0) else 0) + stray L d m (i + 1)
def sb (d : List Int) : Nat → Nat → Nat
  | 0, _ => 0
  | m + 1, i => (if wb (d.getD (i / 64) 0) (i % 64) then 1 else 0) + sb d m (i + 1)
theorem jj_stray {L i : Nat} (h : 60 ≤ i % 64 ∨ L ≤ 60 * (i / 64) + i % 64) : jj L (i + 1) = jj L i := by unfold jj; omega
theorem jj_place {L i : Nat} (h : ¬ (60 ≤ i % 64 ∨ L ≤ 60 * (i / 64) + i % 64)) : jj L i = 60 * (i / 64) + i % 64 ∧ jj L (i + 1) = 60 * (i / 64) + i % 64 + 1 := by unfold jj; omega
theorem drop_getD {l : List Int} {j : Nat} (h : j < l.length) : l.drop j = l.getD j 0 :: l.drop (j + 1) := by
  rw [List.drop_eq_getElem_cons h]
  simp [List.getD_eq_getElem?_getD, List.getElem?_eq_getElem h]
theorem bit_place (d : List Int) {i : Nat} (h : i % 64 < 60) : bit d (60 * (i / 64) + i % 64) = wb (d.getD (i / 64) 0) (i % 64) := by
  rw [bit_wb, show (60 * (i / 64) + i % 64) / 60 = i / 64 by omega, show (60 * (i / 64) + i % 64) % 60 = i % 64 by omega]
theorem ap_cons (d : List Int) (b : Int) (r : List Int) (j : Nat) (ws acc : List Int) : ap d (b :: r) j ws acc = if bit d j then (match ws with | [] => none | w :: ws => if w = b then none else ap d r (j + 1) ws (acc ++ [w])) else ap d r (j + 1) ws (acc ++ [b]) := by
  cases ws <;> rfl
theorem rp_ap (bs d : List Int) (n : Nat) (hL : bs.length ≤ 60 * n) : ∀ (m i a : Nat) (out : List Int), i + m = 64 * n →
    rp bs d m i a out = if stray bs.length d m i = 0 then ap d (bs.drop (jj bs.length i)) (jj bs.length i) (d.drop a) out else none
  | 0, i, a, out, hi => by
    have hj : jj bs.length i = bs.length := by unfold jj; omega
    rw [hj, List.drop_length, stray, if_pos rfl, rp, ap]
    by_cases h : a < d.length
    · rw [if_pos h, if_neg (by simp; omega)]
    · rw [if_neg h, if_pos (by simp; omega)]
  | m + 1, i, a, out, hi => by
    have ih := fun a out => rp_ap bs d n hL m (i + 1) a out (by omega)
    rw [rp, stray]
    by_cases hs : 60 ≤ i % 64 ∨ bs.length ≤ 60 * (i / 64) + i % 64
    · rw [if_pos hs, if_pos hs]
      cases hw : wb (d.getD (i / 64) 0) (i % 64) with
      | true => simp
      | false =>
        simp only [Bool.false_eq_true, if_false, Nat.zero_add]
        rw [ih, jj_stray hs]
    · rw [if_neg hs, if_neg hs, Nat.zero_add]
      obtain ⟨j1, j2⟩ := jj_place hs
      have hb := bit_place d (i := i) (by omega)
      rw [ih, ih, j1, j2]
      generalize hp : 60 * (i / 64) + i % 64 = place at *
      rw [drop_getD (l := bs) (j := place) (by omega), ap_cons, hb]
      cases hw : wb (d.getD (i / 64) 0) (i % 64) with
      | false => simp only [Bool.false_eq_true, if_false]
      | true =>
        simp only [if_true]
        by_cases ha : d.length ≤ a
        · rw [if_pos (.inl ha), List.drop_eq_nil_of_le ha]
          simp
        · rw [drop_getD (l := d) (j := a) (by omega)]
          by_cases he : d.getD a 0 = bs.getD place 0
          · rw [if_pos (.inr he)]
            simp only [if_pos he, ite_self]
          · rw [if_neg (by rintro (h | h) <;> contradiction)]
            simp only [if_neg he]
theorem ap_pl (d : List Int) : ∀ (r : List Int) (j : Nat) (ws acc R : List Int), ap d r j ws acc = some R → pl d j r.length = ws.length
  | [], j, ws, acc, R, h => by
    rw [ap] at h
    cases ws with
    | nil => rfl
    | cons w ws => simp at h
  | b :: r, j, ws, acc, R, h => by
    rw [ap_cons] at h
    rw [List.length_cons, pl]
    cases hb : bit d j with
    | false =>
      simp only [hb, Bool.false_eq_true, if_false] at h
      have := ap_pl d r _ _ _ _ h
      simpa using this
    | true =>
      simp only [hb, if_true] at h
      cases ws with
      | nil => cases h
      | cons w ws =>
        by_cases he : w = b
        · simp [he] at h
        · simp only [if_neg he] at h
          have := ap_pl d r _ _ _ _ h
          simp [this]
          omega
theorem sb_add (d : List Int) : ∀ (a i b : Nat), sb d (a + b) i = sb d a i + sb d b (i + a)
  | 0, i, b => by simp [sb]
  | a + 1, i, b => by
    rw [show a + 1 + b = (a + b) + 1 by omega, sb, sb, sb_add d a, show i + 1 + a = i + (a + 1) by omega]
    omega
theorem sb_word (d : List Int) (i : Nat) : ∀ (m t : Nat), t + m ≤ 64 → sb d m (64 * i + t) = cb (u64 (d.getD i 0) / 2 ^ t) m
  | 0, _, _ => rfl
  | m + 1, t, h => by
    rw [sb, cb, show 64 * i + t + 1 = 64 * i + (t + 1) by omega, sb_word d i m (t + 1) (by omega), show (64 * i + t) / 64 = i by omega, show (64 * i + t) % 64 = t by omega, wb_if, Nat.div_div_eq_div_mul, ← Nat.pow_succ]
theorem sb_ones (d : List Int) : ∀ (n : Nat), n ≤ d.length → sb d (64 * n) 0 = ones (d.take n)
  | 0, _ => by simp [sb, ones]
  | n + 1, h => by
    have ih := sb_ones d n (by omega)
    have hw := sb_word d n 64 0 (by omega)
    rw [Nat.add_zero, Nat.pow_zero, Nat.div_one] at hw
    rw [show 64 * (n + 1) = 64 * n + 64 by omega, sb_add, ones_take d n (by omega), Nat.zero_add, hw, pop_cb, ih]
theorem pl_stray (L : Nat) (d : List Int) (n : Nat) (hL : L ≤ 60 * n) : ∀ (m i : Nat), i + m = 64 * n → pl d (jj L i) (L - jj L i) + stray L d m i = sb d m i
  | 0, i, hi => by
    have hj : jj L i = L := by unfold jj; omega
    rw [hj, stray, sb, Nat.sub_self, pl]
  | m + 1, i, hi => by
    have ih := pl_stray L d n hL m (i + 1) (by omega)
    rw [stray, sb, ← ih]
    by_cases hs : 60 ≤ i % 64 ∨ L ≤ 60 * (i / 64) + i % 64
    · rw [if_pos hs, jj_stray hs]
      omega
    · rw [if_neg hs]
      obtain ⟨j1, j2⟩ := jj_place hs
      have hb := bit_place d (i := i) (by omega)
      rw [j1, j2, show L - (60 * (i / 64) + i % 64) = (L - (60 * (i / 64) + i % 64 + 1)) + 1 by omega, pl, hb]
      omega
theorem arow_eq (bs d : List Int) : arow bs d = aspec bs d := by
  unfold arow aspec
  by_cases h1 : 600 < bs.length
  · rw [if_pos h1, if_pos h1]
  rw [if_neg h1, if_neg h1]
  by_cases h2 : d.length < (bs.length + 59) / 60
  · rw [if_pos h2, if_pos h2]
  rw [if_neg h2, if_neg h2]
  have hL : bs.length ≤ 60 * ((bs.length + 59) / 60) := by omega
  have e0 : jj bs.length 0 = 0 := by unfold jj; omega
  have e1 := rp_ap bs d _ hL (64 * ((bs.length + 59) / 60)) 0 ((bs.length + 59) / 60) [] (by omega)
  have e2 := pl_stray bs.length d _ hL (64 * ((bs.length + 59) / 60)) 0 (by omega)
  rw [e0] at e1 e2
  rw [sb_ones d _ (by omega), Nat.sub_zero] at e2
  rw [List.drop_zero] at e1
  rw [e1]
  have hA := ap_pl d bs 0 (d.drop ((bs.length + 59) / 60)) []
  rw [List.length_drop] at hA
  generalize (bs.length + 59) / 60 = n at *
  cases hap : ap d bs 0 (d.drop n) [] with
  | none => simp
  | some R =>
    have := hA R hap
    by_cases hs : stray bs.length d (64 * n) 0 = 0
    · rw [if_pos hs, if_neg (by omega)]
    · rw [if_neg hs, if_pos (by omega)]
end Go.Proofs.Ytlohehkagaabfaa.Ah
