/- Vk: a part of the proof: contracts of functions, or plain laws. Conditions: none. -/
import Derived.Test.YtbjlbcihhleclaaVj
namespace Go.Proofs.Ytbjlbcihhleclaa.Ah
open Go Go.WideShapes
set_option maxHeartbeats 4000000
set_option linter.unusedSimpArgs false
set_option linter.unusedVariables false
/-! The plain law: a delta has one row, a row one delta. -/
def mkw (β : Nat → Bool) (s : Nat) : Nat → Nat
  | 0 => 0
  | c + 1 => mkw β s c + (if β (s + c) then 2 ^ c else 0)
def msk (β : Nat → Bool) (n j : Nat) : List Int := (List.range n).map fun i => ((mkw β (60 * i) (min 60 (j - 60 * i)) : Nat) : Int)
def chg : List Int → List Int → List Int
  | b :: bs, n :: ns => if n = b then chg bs ns else n :: chg bs ns
  | _, _ => []
theorem mkw_lt (β : Nat → Bool) (s : Nat) : ∀ (c : Nat), mkw β s c < 2 ^ c
  | 0 => by simp [mkw]
  | c + 1 => by
    have := mkw_lt β s c
    rw [mkw, Nat.pow_succ]
    split <;> omega
theorem mkw_bit (β : Nat → Bool) (s : Nat) : ∀ (c t : Nat), mkw β s c / 2 ^ t % 2 = if t < c ∧ β (s + t) then 1 else 0
  | 0, t => by simp [mkw]
  | c + 1, t => by
    have ih := mkw_bit β s c t
    have hlt := mkw_lt β s c
    rw [mkw]
    rcases Nat.lt_trichotomy t c with h | rfl | h
    · have e : 2 ^ c = 2 ^ t * (2 * 2 ^ (c - t - 1)) := by rw [← Nat.mul_assoc, ← Nat.pow_succ, ← Nat.pow_add]; congr 1; omega
      have : (mkw β s c + (if β (s + c) then 2 ^ c else 0)) / 2 ^ t % 2 = mkw β s c / 2 ^ t % 2 := by
        split
        · rw [e, Nat.add_mul_div_left _ _ (Nat.two_pow_pos t)]
          omega
        · rw [Nat.add_zero]
      rw [this, ih]
      have h1 : (t < c) = True := by simp [h]
      have h2 : (t < c + 1) = True := by simp; omega
      simp only [h1, h2]
    · have e0 : mkw β s t / 2 ^ t = 0 := Nat.div_eq_of_lt hlt
      cases hb : β (s + t) with
      | true => simp only [if_true]; rw [Nat.add_div_right _ (Nat.two_pow_pos t), e0]; simp
      | false => simp [e0]
    · have h1 : mkw β s c + (if β (s + c) then 2 ^ c else 0) < 2 ^ t := by
        have : 2 ^ (c + 1) ≤ 2 ^ t := Nat.pow_le_pow_right (by decide) (by omega)
        rw [Nat.pow_succ] at this
        split <;> omega
      rw [Nat.div_eq_of_lt h1, if_neg (by omega)]
theorem orb_add {x j : Nat} (h : x < 2 ^ (j % 60)) : orb (x : Int) j = ((x + 2 ^ (j % 60) : Nat) : Int) := by
  have hp : 2 ^ (j % 60) ≤ 2 ^ 59 := Nat.pow_le_pow_right (by decide) (by omega)
  have em : min (j % 60) IntKind.i64.bits = j % 60 := by
    have : IntKind.i64.bits = 64 := rfl
    omega
  have e1 : (1 : Int) * 2 ^ (j % 60) = ((2 ^ (j % 60) : Nat) : Int) := by push_cast; omega
  unfold orb
  rw [em, e1]
  generalize hP : 2 ^ (j % 60) = P at *
  have e2 : IntKind.i64.wrap (P : Int) = (P : Int) := i64_in _ (by omega)
  rw [e2]
  have e3 : (BitVec.ofInt IntKind.i64.bits (x : Int) ||| BitVec.ofInt IntKind.i64.bits (P : Int)).toNat = x + P := by
    show (BitVec.ofInt 64 (x : Int) ||| BitVec.ofInt 64 (P : Int)).toNat = _
    rw [BitVec.toNat_or, BitVec.ofInt_natCast, BitVec.ofInt_natCast, BitVec.toNat_ofNat, BitVec.toNat_ofNat, Nat.mod_eq_of_lt (by omega), Nat.mod_eq_of_lt (by omega)]
    have := Nat.two_pow_add_eq_or_of_lt (i := j % 60) (b := x) (by omega) 1
    rw [hP, Nat.mul_one] at this
    rw [Nat.or_comm, ← this]
    omega
  rw [e3, i64_in _ (by omega)]
theorem msk_len (β : Nat → Bool) (n j : Nat) : (msk β n j).length = n := by simp [msk]
theorem msk_get (β : Nat → Bool) {n j i : Nat} (h : i < n) : (msk β n j)[i]? = some ((mkw β (60 * i) (min 60 (j - 60 * i)) : Nat) : Int) := by
  simp [msk, h]
theorem msk_step (β : Nat → Bool) (n j : Nat) (h : j < 60 * n) : msk β n (j + 1) = if β j then (msk β n j).set (j / 60) ((mkw β (60 * (j / 60)) (j % 60) + 2 ^ (j % 60) : Nat) : Int) else msk β n j := by
  apply List.ext_getElem?
  intro i
  by_cases hi : i < n
  · rw [msk_get β hi]
    by_cases he : i = j / 60
    · subst he
      have e1 : min 60 (j + 1 - 60 * (j / 60)) = j % 60 + 1 := by omega
      have e2 : min 60 (j - 60 * (j / 60)) = j % 60 := by omega
      have e3 : 60 * (j / 60) + j % 60 = j := by omega
      rw [e1, mkw, e3]
      cases hb : β j with
      | true => rw [if_pos rfl, if_pos rfl, List.getElem?_set_self (by rw [msk_len]; exact hi)]
      | false => simp only [Bool.false_eq_true, if_false]; rw [msk_get β hi, e2, Nat.add_zero]
    · have e1 : min 60 (j + 1 - 60 * i) = min 60 (j - 60 * i) := by omega
      rw [e1]
      split
      · rw [List.getElem?_set_ne (by omega), msk_get β hi]
      · rw [msk_get β hi]
  · rw [List.getElem?_eq_none (by rw [msk_len]; omega)]
    split
    · rw [List.getElem?_eq_none (by rw [List.length_set, msk_len]; omega)]
    · rw [List.getElem?_eq_none (by rw [msk_len]; omega)]
theorem dif_eq (β : Nat → Bool) (n : Nat) : ∀ (rb rn ch : List Int) (j : Nat), rb.length = rn.length → j + rn.length ≤ 60 * n → (∀ t, t < rn.length → β (j + t) = decide (rn.getD t 0 ≠ rb.getD t 0)) →
    dif (msk β n j ++ ch, j) rb rn = msk β n (j + rn.length) ++ (ch ++ chg rb rn)
  | [], [], ch, j, _, _, _ => by simp [dif, chg]
  | [], _ :: _, ch, j, h, _, _ => by simp at h
  | _ :: _, [], ch, j, h, _, _ => by simp at h
  | b :: rb, x :: rn, ch, j, h, hj, hβ => by
    rw [List.length_cons] at hj
    have hlt : j / 60 < n := by omega
    have h0 : β j = decide (x ≠ b) := by simpa using hβ 0 (by simp)
    have hβ2 : ∀ t, t < rn.length → β (j + 1 + t) = decide (rn.getD t 0 ≠ rb.getD t 0) := by
      intro t ht
      have := hβ (t + 1) (by simp; omega)
      rw [show j + (t + 1) = j + 1 + t by omega] at this
      simpa using this
    have st := msk_step β n j (by omega)
    have ih := fun ch => dif_eq β n rb rn ch (j + 1) (by simpa using h) (by omega) hβ2
    rw [dif, List.length_cons, show j + (rn.length + 1) = j + 1 + rn.length by omega, chg]
    by_cases he : x = b
    · rw [if_pos he, if_pos he, ← ih]
      have : β j = false := by rw [h0]; simp [he]
      rw [this] at st
      simp only [Bool.false_eq_true, if_false] at st
      rw [st]
    · rw [if_neg he, if_neg he]
      have hb : β j = true := by rw [h0]; simp [he]
      rw [hb, if_pos rfl] at st
      have hm : (msk β n j ++ ch).getD (j / 60) 0 = ((mkw β (60 * (j / 60)) (j % 60) : Nat) : Int) := by
        rw [List.getD_eq_getElem?_getD, List.getElem?_append_left (by rw [msk_len]; exact hlt), msk_get β hlt, show min 60 (j - 60 * (j / 60)) = j % 60 by omega]
        rfl
      rw [hm, orb_add (mkw_lt _ _ _), List.set_append_left _ _ (by rw [msk_len]; exact hlt), ← st, List.append_assoc, ih]
      simp
theorem diff_eq {bs ns : List Int} (h : bs.length = ns.length) : diff bs ns = msk (fun j => decide (ns.getD j 0 ≠ bs.getD j 0)) ((ns.length + 59) / 60) ns.length ++ chg bs ns := by
  have e : ∀ β n, msk β n 0 = List.replicate n 0 := by
    intro β n
    apply List.ext_getElem?
    intro i
    by_cases hi : i < n
    · rw [msk_get β hi, Nat.zero_sub, Nat.min_zero]
      simp [mkw, hi]
    · rw [List.getElem?_eq_none (by rw [msk_len]; omega), List.getElem?_eq_none (by simp; omega)]
  have := dif_eq (fun j => decide (ns.getD j 0 ≠ bs.getD j 0)) ((ns.length + 59) / 60) bs ns [] 0 h (by omega) (fun t ht => by simp)
  rw [List.append_nil, e, Nat.zero_add, List.nil_append] at this
  exact this

/-! The plain law: bits of a delta. -/
def jj (L i : Nat) : Nat := min L (60 * (i / 64) + min (i % 64) 60)
def stray (L : Nat) (d : List Int) : Nat → Nat → Nat
  | 0, _ => 0
  | m + 1, i => (if 60 ≤ i % 64 ∨ L ≤ 60 * (i / 64) + i % 64 then (if wb (d.getD (i / 64) 0) (i % 64) then 1 else 0) else 0) + stray L d m (i + 1)
def sb (d : List Int) : Nat → Nat → Nat
  | 0, _ => 0
  | m + 1, i => (if wb (d.getD (i / 64) 0) (i % 64) then 1 else 0) + sb d m (i + 1)
theorem jj_stray {L i : Nat} (h : 60 ≤ i % 64 ∨ L ≤ 60 * (i / 64) + i % 64) : jj L (i + 1) = jj L i := by unfold jj; omega
theorem jj_place {L i : Nat} (h : ¬ (60 ≤ i % 64 ∨ L ≤ 60 * (i / 64) + i % 64)) : jj L i = 60 * (i / 64) + i % 64 ∧ jj L (i + 1) = 60 * (i / 64) + i % 64 + 1 := by unfold jj; omega
theorem bit_place (d : List Int) {i : Nat} (h : i % 64 < 60) : bit d (60 * (i / 64) + i % 64) = wb (d.getD (i / 64) 0) (i % 64) := by
  rw [bit_wb, show (60 * (i / 64) + i % 64) / 60 = i / 64 by omega, show (60 * (i / 64) + i % 64) % 60 = i % 64 by omega]
theorem ap_cons (d : List Int) (b : Int) (r : List Int) (j : Nat) (ws acc : List Int) : ap d (b :: r) j ws acc = if bit d j then (match ws with | [] => none | w :: ws => if w = b then none else ap d r (j + 1) ws (acc ++ [w])) else ap d r (j + 1) ws (acc ++ [b]) := by
  cases ws <;> rfl
theorem sb_add (d : List Int) : ∀ (a i b : Nat), sb d (a + b) i = sb d a i + sb d b (i + a)
  | 0, i, b => by simp [sb]
  | a + 1, i, b => by
    rw [show a + 1 + b = (a + b) + 1 by omega, sb, sb, sb_add d a, show i + 1 + a = i + (a + 1) by omega]
    omega
theorem sb_word (d : List Int) (i : Nat) : ∀ (m t : Nat), t + m ≤ 64 → sb d m (64 * i + t) = cb (u64 (d.getD i 0) / 2 ^ t) m
  | 0, _, _ => rfl
  | m + 1, t, h => by
    rw [sb, cb, show 64 * i + t + 1 = 64 * i + (t + 1) by omega, sb_word d i m (t + 1) (by omega), show (64 * i + t) / 64 = i by omega, show (64 * i + t) % 64 = t by omega, wb_if, Nat.div_div_eq_div_mul, ← Nat.pow_succ]
theorem sb_ones (d : List Int) : ∀ (n : Nat), n ≤ d.length → sb d (64 * n) 0 = ones (d.take n)
  | 0, _ => by simp [sb, ones]
  | n + 1, h => by
    have ih := sb_ones d n (by omega)
    have hw := sb_word d n 64 0 (by omega)
    rw [Nat.add_zero, Nat.pow_zero, Nat.div_one] at hw
    rw [show 64 * (n + 1) = 64 * n + 64 by omega, sb_add, ones_take d n (by omega), Nat.zero_add, hw, pop_cb, ih]
theorem pl_stray (L : Nat) (d : List Int) (n : Nat) (hL : L ≤ 60 * n) : ∀ (m i : Nat), i + m = 64 * n → pl d (jj L i) (L - jj L i) + stray L d m i = sb d m i
  | 0, i, hi => by
    have hj : jj L i = L := by unfold jj; omega
    rw [hj, stray, sb, Nat.sub_self, pl]
  | m + 1, i, hi => by
    have ih := pl_stray L d n hL m (i + 1) (by omega)
    rw [stray, sb, ← ih]
    by_cases hs : 60 ≤ i % 64 ∨ L ≤ 60 * (i / 64) + i % 64
    · rw [if_pos hs, jj_stray hs]
      omega
    · rw [if_neg hs]
      obtain ⟨j1, j2⟩ := jj_place hs
      have hb := bit_place d (i := i) (by omega)
      rw [j1, j2, show L - (60 * (i / 64) + i % 64) = (L - (60 * (i / 64) + i % 64 + 1)) + 1 by omega, pl, hb]
      omega

/-! The plain law: there and back. -/
theorem u64_nat {x : Nat} (h : x < 2 ^ 60) : u64 (x : Int) = x := by
  have := u64_mod (x : Int)
  omega
/-- A row that differs at the bits. -/
def MarksB (β : Nat → Bool) (j : Nat) (rb rn : List Int) : Prop := ∀ t, t < rn.length → β (j + t) = decide (rn.getD t 0 ≠ rb.getD t 0)
theorem MarksB.head {β : Nat → Bool} {j : Nat} {b n : Int} {rb rn : List Int} (h : MarksB β j (b :: rb) (n :: rn)) : β j = decide (n ≠ b) := by simpa using h 0 (by simp)
theorem MarksB.tail {β : Nat → Bool} {j : Nat} {b n : Int} {rb rn : List Int} (h : MarksB β j (b :: rb) (n :: rn)) : MarksB β (j + 1) rb rn := by
  intro t ht
  have := h (t + 1) (by simp; omega)
  rw [show j + (t + 1) = j + 1 + t by omega] at this
  simpa using this
theorem ap_chg (d : List Int) : ∀ (rb rn : List Int) (j : Nat) (acc : List Int), rb.length = rn.length → MarksB (bit d) j rb rn → ap d rb j (chg rb rn) acc = some (acc ++ rn)
  | [], [], j, acc, _, _ => by simp [ap, chg]
  | [], _ :: _, j, acc, h, _ => by simp at h
  | _ :: _, [], j, acc, h, _ => by simp at h
  | b :: rb, n :: rn, j, acc, h, hm => by
    rw [ap_cons, hm.head, chg]
    have ih := fun acc => ap_chg d rb rn (j + 1) acc (by simpa using h) hm.tail
    by_cases he : n = b
    · subst he
      simp [ih]
    · simp [he, ih]
theorem pl_chg (d : List Int) : ∀ (rb rn : List Int) (j : Nat), rb.length = rn.length → MarksB (bit d) j rb rn → pl d j rb.length = (chg rb rn).length
  | [], [], j, _, _ => by simp [pl, chg]
  | [], _ :: _, j, h, _ => by simp at h
  | _ :: _, [], j, h, _ => by simp at h
  | b :: rb, n :: rn, j, h, hm => by
    rw [List.length_cons, pl, hm.head, chg, pl_chg d rb rn (j + 1) (by simpa using h) hm.tail]
    by_cases he : n = b
    · simp [he]
    · simp [he]; omega
theorem stray_zero (L : Nat) (d : List Int) : ∀ (m i : Nat), (∀ k, i ≤ k → k < i + m → wb (d.getD (k / 64) 0) (k % 64) = true → ¬ (60 ≤ k % 64 ∨ L ≤ 60 * (k / 64) + k % 64)) → stray L d m i = 0
  | 0, _, _ => rfl
  | m + 1, i, h => by
    rw [stray, stray_zero L d m (i + 1) (fun k h1 h2 => h k (by omega) (by omega)), Nat.add_zero]
    split
    · split
      · rename_i h1 h2
        exact absurd h1 (h i (by omega) (by omega) h2)
      · rfl
    · rfl
/-- There: the row of a delta is the row. -/
theorem aspec_diff {bs ns : List Int} (h : bs.length = ns.length) (hL : bs.length ≤ 600) : aspec bs (diff bs ns) = (ns, 0) := by
  have hd := diff_eq h
  generalize hβ : (fun j => decide (ns.getD j 0 ≠ bs.getD j 0)) = β at hd
  generalize diff bs ns = d at *
  subst hd
  have hlen := msk_len β ((ns.length + 59) / 60) ns.length
  have hget : ∀ i, i < (ns.length + 59) / 60 → (msk β ((ns.length + 59) / 60) ns.length ++ chg bs ns).getD i 0 = ((mkw β (60 * i) (min 60 (ns.length - 60 * i)) : Nat) : Int) := by
    intro i hi
    rw [List.getD_eq_getElem?_getD, List.getElem?_append_left (by rw [hlen]; exact hi), msk_get β hi]
    rfl
  have hwb : ∀ i t, i < (ns.length + 59) / 60 → wb ((msk β ((ns.length + 59) / 60) ns.length ++ chg bs ns).getD i 0) t = decide (t < min 60 (ns.length - 60 * i) ∧ β (60 * i + t) = true) := by
    intro i t hi
    have hlt := mkw_lt β (60 * i) (min 60 (ns.length - 60 * i))
    have h60 : 2 ^ (min 60 (ns.length - 60 * i)) ≤ 2 ^ 60 := Nat.pow_le_pow_right (by decide) (by omega)
    rw [hget i hi, wb, u64_nat (by omega), mkw_bit]
    split <;> simp_all
  have hm : MarksB (bit (msk β ((ns.length + 59) / 60) ns.length ++ chg bs ns)) 0 bs ns := by
    intro t ht
    rw [bit_wb, Nat.zero_add, hwb _ _ (by omega)]
    have e : 60 * (t / 60) + t % 60 = t := by omega
    rw [e, ← hβ]
    simp
    omega
  have hpl := pl_chg _ bs ns 0 h hm
  have hap := ap_chg _ bs ns 0 [] h hm
  have hps := pl_stray ns.length (msk β ((ns.length + 59) / 60) ns.length ++ chg bs ns) ((ns.length + 59) / 60) (by omega) (64 * ((ns.length + 59) / 60)) 0 (by omega)
  have hso := sb_ones (msk β ((ns.length + 59) / 60) ns.length ++ chg bs ns) ((ns.length + 59) / 60) (by simp [hlen])
  have e0 : jj ns.length 0 = 0 := by unfold jj; omega
  rw [e0, Nat.sub_zero, hso] at hps
  have hdl : (msk β ((ns.length + 59) / 60) ns.length ++ chg bs ns).length = (ns.length + 59) / 60 + (chg bs ns).length := by rw [List.length_append, hlen]
  have hdr : (msk β ((ns.length + 59) / 60) ns.length ++ chg bs ns).drop ((ns.length + 59) / 60) = chg bs ns := by
    rw [List.drop_append_of_le_length (by omega), List.drop_of_length_le (by omega), List.nil_append]
  have hz : stray ns.length (msk β ((ns.length + 59) / 60) ns.length ++ chg bs ns) (64 * ((ns.length + 59) / 60)) 0 = 0 := by
    refine stray_zero _ _ _ _ fun k _ hk hw => ?_
    rw [hwb _ _ (by omega)] at hw
    simp only [decide_eq_true_eq] at hw
    omega
  unfold aspec
  rw [h, hdl, hdr]
  rw [h] at hpl hL
  rw [if_neg (by omega), if_neg (by omega), if_neg (by omega), hap]
  simp
end Go.Proofs.Ytbjlbcihhleclaa.Ah
