/- V09m: a part of the proof: contracts of functions, or plain laws. Conditions: none. -/
import Derived.Test.YtlohehkagaabfaaV09l
import Derived.Test.YtlohehkagaabfaaV09c
namespace Go.Proofs.Ytlohehkagaabfaa.Ah
open Go Go.WideShapes
set_option maxHeartbeats 4000000
set_option linter.unusedSimpArgs false
set_option linter.unusedVariables false
/-! The plain law: there and back. -/
theorem u64_nat {x : Nat} (h : x < 2 ^ 60) : u64 (x : Int) = x := by
  have := u64_mod (x : Int)
  omega
theorem chg_len : ∀ (rb rn : List Int), (chg rb rn).length = cnt rb rn := by
  intro rb
  induction rb with
  | nil => intro rn; cases rn <;> rfl
  | cons b rb ih =>
    intro rn
    cases rn with
    | nil => rfl
    | cons n rn =>
      rw [chg, cnt]
      by_cases h : n = b
      · rw [if_pos h, if_pos h.symm, ih, Nat.zero_add]
      · rw [if_neg h, if_neg (fun e => h e.symm), List.length_cons, ih]
        omega
/-- A row that differs at the bits. -/
def MarksB (β : Nat → Bool) (j : Nat) (rb rn : List Int) : Prop := ∀ t, t < rn.length → β (j + t) = decide (rn.getD t 0 ≠ rb.getD t 0)
theorem MarksB.head {β : Nat → Bool} {j : Nat} {b n : Int} {rb rn : List Int} (h : MarksB β j (b :: rb) (n :: rn)) : β j = decide (n ≠ b) := by simpa using h 0 (by simp)
theorem MarksB.tail {β : Nat → Bool} {j : Nat} {b n : Int} {rb rn : List Int} (h : MarksB β j (b :: rb) (n :: rn)) : MarksB β (j + 1) rb rn := by
  intro t ht
  have := h (t + 1) (by simp; omega)
  rw [show j + (t + 1) = j + 1 + t by omega] at this
  simpa using this
theorem ap_chg (d : List Int) : ∀ (rb rn : List Int) (j : Nat) (acc : List Int), rb.length = rn.length → MarksB (bit d) j rb rn → ap d rb j (chg rb rn) acc = some (acc ++ rn)
  | [], [], j, acc, _, _ => by simp [ap, chg]
  | [], _ :: _, j, acc, h, _ => by simp at h
  | _ :: _, [], j, acc, h, _ => by simp at h
  | b :: rb, n :: rn, j, acc, h, hm => by
    rw [ap_cons, hm.head, chg]
    have ih := fun acc => ap_chg d rb rn (j + 1) acc (by simpa using h) hm.tail
    by_cases he : n = b
    · subst he
      simp [ih]
    · simp [he, ih]
theorem pl_chg (d : List Int) : ∀ (rb rn : List Int) (j : Nat), rb.length = rn.length → MarksB (bit d) j rb rn → pl d j rb.length = (chg rb rn).length
  | [], [], j, _, _ => by simp [pl, chg]
  | [], _ :: _, j, h, _ => by simp at h
  | _ :: _, [], j, h, _ => by simp at h
  | b :: rb, n :: rn, j, h, hm => by
    rw [List.length_cons, pl, hm.head, chg, pl_chg d rb rn (j + 1) (by simpa using h) hm.tail]
    by_cases he : n = b
    · simp [he]
    · simp [he]; omega
theorem ap_marks (d : List Int) : ∀ (r : List Int) (j : Nat) (ws acc R : List Int), ap d r j ws acc = some R → ∃ rn, R = acc ++ rn ∧ r.length = rn.length ∧ chg r rn = ws ∧ MarksB (bit d) j r rn
  | [], j, ws, acc, R, h => by
    rw [ap] at h
    cases ws with
    | nil => simp at h; exact ⟨[], by simp [h], rfl, rfl, by intro t ht; simp at ht⟩
    | cons w ws => simp at h
  | b :: r, j, ws, acc, R, h => by
    rw [ap_cons] at h
    have mk : ∀ (n : Int) (rn : List Int), bit d j = decide (n ≠ b) → MarksB (bit d) (j + 1) r rn → MarksB (bit d) j (b :: r) (n :: rn) := by
      intro n rn h0 h1 t ht
      cases t with
      | zero => simpa using h0
      | succ t =>
        have := h1 t (by simpa using ht)
        rw [show j + 1 + t = j + (t + 1) by omega] at this
        simpa using this
    cases hb : bit d j with
    | false =>
      simp only [hb, Bool.false_eq_true, if_false] at h
      obtain ⟨rn, rfl, h2, h3, h4⟩ := ap_marks d r _ _ _ _ h
      exact ⟨b :: rn, by simp, by simp [h2], by simp [chg, h3], mk _ _ (by simp [hb]) h4⟩
    | true =>
      simp only [hb, if_true] at h
      cases ws with
      | nil => cases h
      | cons w ws =>
        by_cases he : w = b
        · simp [he] at h
        · simp only [if_neg he] at h
          obtain ⟨rn, rfl, h2, h3, h4⟩ := ap_marks d r _ _ _ _ h
          exact ⟨w :: rn, by simp, by simp [h2], by simp [chg, h3, he], mk _ _ (by simp [hb, he]) h4⟩
theorem stray_zero (L : Nat) (d : List Int) : ∀ (m i : Nat), (∀ k, i ≤ k → k < i + m → wb (d.getD (k / 64) 0) (k % 64) = true → ¬ (60 ≤ k % 64 ∨ L ≤ 60 * (k / 64) + k % 64)) → stray L d m i = 0
  | 0, _, _ => rfl
  | m + 1, i, h => by
    rw [stray, stray_zero L d m (i + 1) (fun k h1 h2 => h k (by omega) (by omega)), Nat.add_zero]
    split
    · split
      · rename_i h1 h2
        exact absurd h1 (h i (by omega) (by omega) h2)
      · rfl
    · rfl
theorem stray_all {L : Nat} {d : List Int} : ∀ (m i : Nat), stray L d m i = 0 → ∀ k, i ≤ k → k < i + m → (60 ≤ k % 64 ∨ L ≤ 60 * (k / 64) + k % 64) → wb (d.getD (k / 64) 0) (k % 64) = false
  | 0, i, _, k, h1, h2, _ => by omega
  | m + 1, i, h, k, h1, h2, h3 => by
    rw [stray] at h
    by_cases he : k = i
    · subst he
      rw [if_pos h3] at h
      cases hw : wb (d.getD (k / 64) 0) (k % 64) with
      | false => rfl
      | true => rw [hw] at h; simp at h
    · exact stray_all m (i + 1) (by omega) k (by omega) (by omega) h3
/-- There: the row of a delta is the row. -/
theorem aspec_diff {bs ns : List Int} (h : bs.length = ns.length) (hL : bs.length ≤ 600) : aspec bs (diff bs ns) = (ns, 0) := by
  have hd := diff_eq h
  generalize hβ : (fun j => decide (ns.getD j 0 ≠ bs.getD j 0)) = β at hd
  generalize diff bs ns = d at *
  subst hd
  have hlen := msk_len β ((ns.length + 59) / 60) ns.length
  have hget : ∀ i, i < (ns.length + 59) / 60 → (msk β ((ns.length + 59) / 60) ns.length ++ chg bs ns).getD i 0 = ((mkw β (60 * i) (min 60 (ns.length - 60 * i)) : Nat) : Int) := by
    intro i hi
    rw [List.getD_eq_getElem?_getD, List.getElem?_append_left (by rw [hlen]; exact hi), msk_get β hi]
    rfl
  have hwb : ∀ i t, i < (ns.length + 59) / 60 → wb ((msk β ((ns.length + 59) / 60) ns.length ++ chg bs ns).getD i 0) t = decide (t < min 60 (ns.length - 60 * i) ∧ β (60 * i + t) = true) := by
    intro i t hi
    have hlt := mkw_lt β (60 * i) (min 60 (ns.length - 60 * i))
    have h60 : 2 ^ (min 60 (ns.length - 60 * i)) ≤ 2 ^ 60 := Nat.pow_le_pow_right (by decide) (by omega)
    rw [hget i hi, wb, u64_nat (by omega), mkw_bit]
    split <;> simp_all
  have hm : MarksB (bit (msk β ((ns.length + 59) / 60) ns.length ++ chg bs ns)) 0 bs ns := by
    intro t ht
    rw [bit_wb, Nat.zero_add, hwb _ _ (by omega)]
    have e : 60 * (t / 60) + t % 60 = t := by omega
    rw [e, ← hβ]
    simp
    omega
  have hpl := pl_chg _ bs ns 0 h hm
  have hap := ap_chg _ bs ns 0 [] h hm
  have hps := pl_stray ns.length (msk β ((ns.length + 59) / 60) ns.length ++ chg bs ns) ((ns.length + 59) / 60) (by omega) (64 * ((ns.length + 59) / 60)) 0 (by omega)
  have hso := sb_ones (msk β ((ns.length + 59) / 60) ns.length ++ chg bs ns) ((ns.length + 59) / 60) (by simp [hlen])
  have e0 : jj ns.length 0 = 0 := by unfold jj; omega
  rw [e0, Nat.sub_zero, hso] at hps
  have hdl : (msk β ((ns.length + 59) / 60) ns.length ++ chg bs ns).length = (ns.length + 59) / 60 + (chg bs ns).length := by rw [List.length_append, hlen]
  have hdr : (msk β ((ns.length + 59) / 60) ns.length ++ chg bs ns).drop ((ns.length + 59) / 60) = chg bs ns := by
    rw [List.drop_append_of_le_length (by omega), List.drop_of_length_le (by omega), List.nil_append]
  have hz : stray ns.length (msk β ((ns.length + 59) / 60) ns.length ++ chg bs ns) (64 * ((ns.length + 59) / 60)) 0 = 0 := by
    refine stray_zero _ _ _ _ fun k _ hk hw => ?_
    rw [hwb _ _ (by omega)] at hw
    simp only [decide_eq_true_eq] at hw
    omega
  unfold aspec
  rw [h, hdl, hdr]
  rw [h] at hpl hL
  rw [if_neg (by omega), if_neg (by omega), if_neg (by omega), hap]
  simp
theorem u64_low {u : Nat} : ∀ (m c : Nat), u < 2 ^ (c + m) → (∀ t, c ≤ t → t < c + m → u / 2 ^ t % 2 = 0) → u < 2 ^ c
  | 0, c, h, _ => h
  | m + 1, c, h, hz => by
    have h1 := u64_low m (c + 1) (by rw [show c + 1 + m = c + (m + 1) by omega]; exact h) (fun t h1 h2 => hz t (by omega) (by omega))
    have h2 := hz c (Nat.le_refl _) (by omega)
    have h3 : u / 2 ^ c < 2 := (Nat.div_lt_iff_lt_mul (Nat.two_pow_pos c)).2 (by rw [Nat.pow_succ] at h1; omega)
    have h4 : u / 2 ^ c = 0 := by
      generalize u / 2 ^ c = q at *
      omega
    exact (Nat.div_eq_zero_iff_lt (Nat.two_pow_pos c)).1 h4
theorem mkw_mod (d : List Int) (i : Nat) : ∀ (c : Nat), c ≤ 60 → mkw (bit d) (60 * i) c = u64 (d.getD i 0) % 2 ^ c
  | 0, _ => by simp [mkw, Nat.mod_one]
  | c + 1, h => by
    have hb := wb_if (d.getD i 0) c
    rw [mkw, mkw_mod d i c (by omega), bit_wb, show (60 * i + c) / 60 = i by omega, show (60 * i + c) % 60 = c by omega, Nat.mod_pow_succ, ← hb]
    split <;> simp
/-- Back: what has a row has no other delta. -/
theorem diff_aspec {bs d R : List Int} (hr : ∀ x ∈ d, -9223372036854775808 ≤ x ∧ x ≤ 9223372036854775807) (h : aspec bs d = (R, 0)) : bs.length = R.length ∧ bs.length ≤ 600 ∧ diff bs R = d := by
  unfold aspec at h
  by_cases h1 : 600 < bs.length
  · rw [if_pos h1] at h; cases h
  rw [if_neg h1] at h
  by_cases h2 : d.length < (bs.length + 59) / 60
  · rw [if_pos h2] at h; cases h
  rw [if_neg h2] at h
  by_cases h3 : ones (d.take ((bs.length + 59) / 60)) ≠ d.length - (bs.length + 59) / 60
  · rw [if_pos h3] at h; cases h
  have h3 := Decidable.not_not.1 h3
  rw [if_neg (by simp [h3])] at h
  cases hap : ap d bs 0 (d.drop ((bs.length + 59) / 60)) [] with
  | none => rw [hap] at h; cases h
  | some R' =>
    rw [hap] at h
    cases h
    have hpl := ap_pl _ _ _ _ _ _ hap
    obtain ⟨rn, e, g2, g3, g4⟩ := ap_marks _ _ _ _ _ _ hap
    rw [List.nil_append] at e
    subst e
    refine ⟨g2, by omega, ?_⟩
    have hps := pl_stray bs.length d ((bs.length + 59) / 60) (by omega) (64 * ((bs.length + 59) / 60)) 0 (by omega)
    have e0 : jj bs.length 0 = 0 := by unfold jj; omega
    rw [e0, Nat.sub_zero, sb_ones d _ (by omega), hpl, List.length_drop, h3] at hps
    have hst := stray_all _ _ (show stray bs.length d (64 * ((bs.length + 59) / 60)) 0 = 0 by omega)
    rw [diff_eq g2, g3, ← g2]
    have hm : msk (fun j => decide (R.getD j 0 ≠ bs.getD j 0)) ((bs.length + 59) / 60) bs.length = d.take ((bs.length + 59) / 60) := by
      have hcongr : ∀ s c, s + c ≤ bs.length → mkw (fun j => decide (R.getD j 0 ≠ bs.getD j 0)) s c = mkw (bit d) s c := by
        intro s c
        induction c with
        | zero => intro _; rfl
        | succ c ih =>
          intro hc
          rw [mkw, mkw, ih (by omega)]
          have := g4 (s + c) (by omega)
          rw [Nat.zero_add] at this
          rw [this]
      apply List.ext_getElem?
      intro i
      by_cases hi : i < (bs.length + 59) / 60
      · rw [msk_get _ hi, List.getElem?_take_of_lt hi, hcongr _ _ (by omega), mkw_mod _ _ _ (by omega), List.getElem?_eq_getElem (by omega)]
        have hgd : d.getD i 0 = d[i] := by rw [List.getD_eq_getElem?_getD, List.getElem?_eq_getElem (by omega)]; rfl
        rw [hgd]
        have hlow : u64 d[i] < 2 ^ (min 60 (bs.length - 60 * i)) := by
          refine u64_low (64 - min 60 (bs.length - 60 * i)) _ (by rw [show min 60 (bs.length - 60 * i) + (64 - min 60 (bs.length - 60 * i)) = 64 by omega]; exact u64_lt _) fun t h4 h5 => ?_
          have := hst (64 * i + t) (by omega) (by omega) (by omega)
          rw [show (64 * i + t) / 64 = i by omega, show (64 * i + t) % 64 = t by omega, hgd] at this
          have hwi := wb_if d[i] t
          rw [this] at hwi
          simpa using hwi.symm
        have h60 : 2 ^ (min 60 (bs.length - 60 * i)) ≤ 2 ^ 60 := Nat.pow_le_pow_right (by decide) (by omega)
        have hmod := u64_mod d[i]
        have hri := hr d[i] (List.getElem_mem _)
        rw [Nat.mod_eq_of_lt hlow]
        congr 1
        omega
      · rw [List.getElem?_eq_none (by rw [msk_len]; omega), List.getElem?_eq_none (by simp; omega)]
    rw [hm, List.take_append_drop]
end Go.Proofs.Ytlohehkagaabfaa.Ah
