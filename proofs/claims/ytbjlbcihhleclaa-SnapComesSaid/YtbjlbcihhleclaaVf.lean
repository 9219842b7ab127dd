/- Vf: a part of the proof: contracts of functions, or plain laws. Conditions: none. -/
import Derived.Test.YtbjlbcihhleclaaVe
namespace Go.Proofs.Ytbjlbcihhleclaa.Ah
open Go Go.WideShapes
attribute [local irreducible] acs aopsK drawK leave condK bindR bindD bindX guardK guardD callB callD callX callP callPv rfunG rfunK yldB yldD
attribute [local go_sem] mop mget mfind mput mres keyed AV.isAgg beq_self_eq_true Bool.true_and Option.isSome_some List.set_cons_zero acs_nil acs_blk acs_skip acs_reg acs_dreg acs_freg acs_nam0 acs_nam nones acs_seq acs_cond acs_block acs_exit acs_ret acs_kl acs_loop leave_nil leave_code leave_lp leave_blk aopsK_nil aopsK_cons aopsK_guard bindR_val bindR_need bindR_br bindR_call bindR_ycall acs_rfun rfunG_fn bindR_bad drawK_nil drawK_cons drawK_wat bindW_val bindW_need bindW_br WatL_nil WatL_cons isP_ptr drawK_ext drawK_pur drawK_guard callPv_fn drawK_purv bindD_val bindD_need bindD_br bindD_call bindD_ycall bindD_bad bindX_val bindX_need bindX_br bindX_call guardD_bool guardD_tup grows grows0 List.append_cancel_left_eq List.cons.injEq exists_eq' exists_eq condK_bool guardK_bool guardK_tup sor r0 r1 r2 r3 rC rB rI rP rA rT rS rF rSl rO rbin rcut run1 Env.evals Env.eval Env.get Env.put Env.ins Env.del Env.dels argEnv AV.full AV.cells AV.cell eqCells decide_true decide_false decide_eq_true_eq decide_eq_false_iff_not Bool.not_eq_true' Bool.not_eq_false' true_and and_true false_implies true_implies forall_const Bool.not_true Bool.not_false Bool.false_eq_true Bool.true_eq_false List.getElem?_cons_zero List.getElem?_cons_succ List.length_cons List.length_nil List.length_append List.all_cons List.all_nil Bool.and_true Bool.and_self implies_true List.append_assoc List.cons_append List.nil_append List.append_nil i64_in imin_eq imax_eq cast3 cast0 cast1 cast2 Option.map_none ite_self and_false false_and Option.isSome_some or_true true_or Int.sub_zero Int.mul_one Nat.sub_zero Nat.zero_le Int.cast_ofNat_Int Int.natCast_nonneg Int.toNat_natCast ne_eq not_false_eq_true not_true_eq_false strC blkAt_app blkAt_app0 blkAt_zero blkAt_succ List.set_cons_zero List.set_cons_succ set_app set_app0 Option.map_some Option.bind_some rd setCells lay rdS szOk rapp ownAt lenAt Option.any_some Option.getD_some List.drop_zero List.drop_succ_cons List.take_succ_cons List.take_zero List.drop_nil List.take_nil Nat.lt_irrefl Nat.zero_add Nat.add_zero Nat.mul_one Nat.one_mul Nat.add_assoc Option.some.injEq eq_self
set_option maxHeartbeats 8000000
set_option linter.unusedSimpArgs false
set_option linter.unusedVariables false
/-! Bits, as numbers. -/
def cb (u : Nat) : Nat → Nat
  | 0 => 0
  | n + 1 => u % 2 + cb (u / 2) n
theorem cb_add : ∀ (a u b : Nat), cb u (a + b) = cb u a + cb (u / 2 ^ a) b
  | 0, u, b => by simp [cb]
  | a + 1, u, b => by
    rw [show a + 1 + b = (a + b) + 1 by omega, cb, cb, cb_add a, Nat.div_div_eq_div_mul, show 2 * 2 ^ a = 2 ^ (a + 1) by rw [Nat.pow_succ]; omega]
    omega
theorem pop8_cb (v : Nat) : pop8 (v % 256) = cb v 8 := by
  simp only [cb, pop8, Nat.div_div_eq_div_mul, Nat.reduceMul]
  omega
theorem dig_cb : ∀ (k x : Nat), ((dig x k).map pop8).sum = cb x (8 * k)
  | 0, x => rfl
  | k + 1, x => by
    rw [dig, List.map_cons, List.sum_cons, dig_cb k, show 8 * (k + 1) = 8 + 8 * k by omega, cb_add, pop8_cb]
theorem pop_cb (u : Nat) : pop u = cb u 64 := dig_cb 8 u
/-- A bit of a word. -/
def wb (n : Int) (t : Nat) : Bool := decide (u64 n / 2 ^ t % 2 = 1)
theorem u64_bit (n : Int) (t : Nat) (ht : t < 64) : ((u64 n / 2 ^ t % 2 : Nat) : Int) = n / 2 ^ t % 2 := by
  have h := u64_mod n
  have e : (18446744073709551616 : Int) = 2 ^ t * (2 ^ (63 - t) * 2) := by
    rw [show (2 : Int) ^ (63 - t) * 2 = 2 ^ (64 - t) by rw [← Int.pow_succ]; congr 1; omega, ← Int.pow_add, show t + (64 - t) = 64 by omega]
    rfl
  have hn : n = (u64 n : Int) + 2 ^ t * (2 ^ (63 - t) * 2 * (n / 18446744073709551616)) := by
    rw [h, ← Int.mul_assoc, ← e]
    omega
  have hp : (2 : Int) ^ t ≠ 0 := Int.pow_ne_zero (by decide)
  have h2 : n / 2 ^ t = (u64 n : Int) / 2 ^ t + (2 ^ (63 - t) * 2 * (n / 18446744073709551616)) := by
    conv => lhs; rw [hn]
    rw [Int.add_mul_ediv_left _ _ hp]
  have h3 : 2 ^ (63 - t) * 2 * (n / 18446744073709551616) = 2 * (2 ^ (63 - t) * (n / 18446744073709551616)) := by
    rw [Int.mul_comm (2 ^ (63 - t)) 2, Int.mul_assoc]
  rw [h2, h3]
  have h4 : ((u64 n / 2 ^ t % 2 : Nat) : Int) = (u64 n : Int) / 2 ^ t % 2 := by push_cast; rfl
  rw [h4]
  omega
theorem bit_wb (d : List Int) (j : Nat) : bit d j = wb (d.getD (j / 60) 0) (j % 60) := by
  have h := u64_bit (d.getD (j / 60) 0) (j % 60) (by omega)
  unfold bit wb
  rw [← h]
  exact decide_eq_decide.2 (by omega)
theorem wb_if (n : Int) (t : Nat) : (if wb n t then 1 else 0) = u64 n / 2 ^ t % 2 := by
  unfold wb
  have := Nat.mod_two_eq_zero_or_one (u64 n / 2 ^ t)
  split <;> simp at * <;> omega
theorem pl_add (d : List Int) : ∀ (a j b : Nat), pl d j (a + b) = pl d j a + pl d (j + a) b
  | 0, j, b => by simp [pl]
  | a + 1, j, b => by
    rw [show a + 1 + b = (a + b) + 1 by omega, pl, pl, pl_add d a, show j + 1 + a = j + (a + 1) by omega]
    omega
theorem pl_word (d : List Int) (i : Nat) : ∀ (m t : Nat), t + m ≤ 60 → pl d (60 * i + t) m = cb (u64 (d.getD i 0) / 2 ^ t) m
  | 0, _, _ => rfl
  | m + 1, t, h => by
    rw [pl, cb, show 60 * i + t + 1 = 60 * i + (t + 1) by omega, pl_word d i m (t + 1) (by omega), bit_wb, show (60 * i + t) / 60 = i by omega, show (60 * i + t) % 60 = t by omega, wb_if, Nat.div_div_eq_div_mul, ← Nat.pow_succ]
theorem ones_take (d : List Int) (n : Nat) (h : n < d.length) : ones (d.take (n + 1)) = ones (d.take n) + pop (u64 (d.getD n 0)) := by
  rw [List.take_add_one, List.getElem?_eq_getElem h, ones_app]
  simp [ones, List.getD_eq_getElem?_getD, List.getElem?_eq_getElem h]
theorem pl_ones (d : List Int) : ∀ (n : Nat), n ≤ d.length → pl d 0 (60 * n) ≤ ones (d.take n)
  | 0, _ => by simp [pl]
  | n + 1, h => by
    have ih := pl_ones d n (by omega)
    have hw := pl_word d n 60 0 (by omega)
    rw [Nat.add_zero, Nat.pow_zero, Nat.div_one] at hw
    rw [show 60 * (n + 1) = 60 * n + 60 by omega, pl_add, ones_take d n (by omega), Nat.zero_add, hw, pop_cb, show 64 = 60 + 4 from rfl, cb_add]
    omega
theorem pl_le (d : List Int) (j : Nat) {a b : Nat} (h : a ≤ b) : pl d j a ≤ pl d j b := by
  obtain ⟨k, rfl⟩ := Nat.le.dest h
  rw [pl_add]
  omega
theorem f44_any {bs d : List Int} {p q oq : Nat} {c1 c2 : Option Nat} {H : Heap} (hp : Sl i64 H p 0 bs) (hq : Sl i64 H q oq d) (hdl : d.length ≤ 100000) (hbl : bs.length ≤ 100000) :
    ACall Try.prog 44 [.sl p 0 bs.length 1 c1, .sl q oq d.length 1 c2] H (rowres (aspec bs d) H) (rowheap (aspec bs d) H) := by
  unfold aspec rowres rowheap
  have g := fun H => f59 bs.length H (by omega)
  by_cases h1 : 600 < bs.length
  · rw [if_pos h1]
    refine call_nilres2 (acall44 (by simp) (acs_start ?_))
    have h1' : (600 : Int) < (bs.length : Int) := by omega
    unfold c44
    simp (maxSteps := 1000000) (disch := omega) only [go_sem, Nat.reduceEqDiff, Nat.reduceLT, Nat.reduceAdd, Nat.reduceSub, Nat.reduceMul, Nat.reduceBEq, Int.reduceLT, Int.reduceAdd, Int.reduceMul, Int.reduceSub, Int.reduceToNat, Int.reduceLE, Int.reduceEq, ↓reduceIte, reduceCtorEq, Int.reduceNeg, Nat.reduceLeDiff,  h1']
    first | refine callB_intro (g _) ?_ | refine callD_intro (g _) ?_ | refine callP_intro (fun _ => (g _)) ?_ | refine callX_pure (g _) ?_
    simp (maxSteps := 1000000) (disch := omega) only [go_sem, Nat.reduceEqDiff, Nat.reduceLT, Nat.reduceAdd, Nat.reduceSub, Nat.reduceMul, Nat.reduceBEq, Int.reduceLT, Int.reduceAdd, Int.reduceMul, Int.reduceSub, Int.reduceToNat, Int.reduceLE, Int.reduceEq, ↓reduceIte, reduceCtorEq, Int.reduceNeg, Nat.reduceLeDiff,  h1']
    exact fin_same (by simp) _ (by first | exact (List.append_nil _).symm | rfl) (by simp (maxSteps := 1000000) (disch := omega) only [resVal, resAll, resOne, rs44, Env.get, go_sem, Nat.reduceEqDiff, Nat.reduceLT, Nat.reduceAdd, Nat.reduceSub, Nat.reduceMul, Nat.reduceBEq, Int.reduceLT, Int.reduceAdd, Int.reduceMul, Int.reduceSub, Int.reduceToNat, Int.reduceLE, Int.reduceEq, ↓reduceIte, reduceCtorEq, Int.reduceNeg, Nat.reduceLeDiff]) (by simp only [AV.und, AV.unds, and_self])
  rw [if_neg h1]
  by_cases h2 : d.length < (bs.length + 59) / 60
  · rw [if_pos h2]
    refine call_nilres2 (acall44 (by simp) (acs_start ?_))
    have h1' : ¬ (600 : Int) < (bs.length : Int) := by omega
    have h2' : (d.length : Int) < ((bs.length : Int) + 59) / 60 := by omega
    unfold c44
    simp (maxSteps := 1000000) (disch := omega) only [go_sem, Nat.reduceEqDiff, Nat.reduceLT, Nat.reduceAdd, Nat.reduceSub, Nat.reduceMul, Nat.reduceBEq, Int.reduceLT, Int.reduceAdd, Int.reduceMul, Int.reduceSub, Int.reduceToNat, Int.reduceLE, Int.reduceEq, ↓reduceIte, reduceCtorEq, Int.reduceNeg, Nat.reduceLeDiff,  h1']
    first | refine callB_intro (g _) ?_ | refine callD_intro (g _) ?_ | refine callP_intro (fun _ => (g _)) ?_ | refine callX_pure (g _) ?_
    simp (maxSteps := 1000000) (disch := omega) only [go_sem, Nat.reduceEqDiff, Nat.reduceLT, Nat.reduceAdd, Nat.reduceSub, Nat.reduceMul, Nat.reduceBEq, Int.reduceLT, Int.reduceAdd, Int.reduceMul, Int.reduceSub, Int.reduceToNat, Int.reduceLE, Int.reduceEq, ↓reduceIte, reduceCtorEq, Int.reduceNeg, Nat.reduceLeDiff,  h1', h2']
    exact fin_same (by simp) _ (by first | exact (List.append_nil _).symm | rfl) (by simp (maxSteps := 1000000) (disch := omega) only [resVal, resAll, resOne, rs44, Env.get, go_sem, Nat.reduceEqDiff, Nat.reduceLT, Nat.reduceAdd, Nat.reduceSub, Nat.reduceMul, Nat.reduceBEq, Int.reduceLT, Int.reduceAdd, Int.reduceMul, Int.reduceSub, Int.reduceToNat, Int.reduceLE, Int.reduceEq, ↓reduceIte, reduceCtorEq, Int.reduceNeg, Nat.reduceLeDiff]) (by simp only [AV.und, AV.unds, and_self])
  rw [if_neg h2]
  have hn : ((bs.length : Int) + 59) / 60 = (((bs.length + 59) / 60 : Nat) : Int) := by omega
  have body := fun h h' => f44_body (c1 := c1) (c2 := c2) hp hq (by omega) hdl (by omega) h h'
  have hpo := Nat.le_trans (pl_le d 0 (show bs.length ≤ 60 * ((bs.length + 59) / 60) by omega)) (pl_ones d ((bs.length + 59) / 60) (by omega))
  have gq := hq.take ((bs.length + 59) / 60)
  have gt : (d.take ((bs.length + 59) / 60)).length = (bs.length + 59) / 60 := by simp; omega
  generalize hN : (bs.length + 59) / 60 = N at *
  have g20 := fun c => f65 (c := c) gq (by omega)
  rw [gt] at g20
  by_cases h3 : ones (d.take N) = d.length - N
  · rw [if_neg (by simp [h3])]
    have body := body h3 (by omega)
    generalize ap d bs 0 (d.drop N) [] = R at *
    cases R with
    | none => exact call_nilres2 (acall44 (by simp) body)
    | some R => exact acallW (fun v' h => acall44 (by simp) h) body
  · rw [if_pos h3]
    have h1' : ¬ (600 : Int) < (bs.length : Int) := by omega
    have h2' : ¬ (d.length : Int) < (N : Int) := by omega
    have hNd : (N : Int) ≤ (d.length : Int) := by omega
    have hNs : ((d.length : Int) - (N : Int)).toNat = d.length - N := by omega
    have h3' : ¬ ((ones (d.take N) : Nat) : Int) = ((d.length - N : Nat) : Int) := by omega
    refine call_nilres2 (acall44 (by simp) (acs_start ?_))
    generalize ones (d.take N) = O at *
    unfold c44
    rw [hn] at g
    simp (maxSteps := 1000000) (disch := omega) only [go_sem, Nat.reduceEqDiff, Nat.reduceLT, Nat.reduceAdd, Nat.reduceSub, Nat.reduceMul, Nat.reduceBEq, Int.reduceLT, Int.reduceAdd, Int.reduceMul, Int.reduceSub, Int.reduceToNat, Int.reduceLE, Int.reduceEq, ↓reduceIte, reduceCtorEq, Int.reduceNeg, Nat.reduceLeDiff,  h1']
    first | refine callB_intro (g _) ?_ | refine callD_intro (g _) ?_ | refine callP_intro (fun _ => (g _)) ?_ | refine callX_pure (g _) ?_
    simp (maxSteps := 1000000) (disch := omega) only [go_sem, Nat.reduceEqDiff, Nat.reduceLT, Nat.reduceAdd, Nat.reduceSub, Nat.reduceMul, Nat.reduceBEq, Int.reduceLT, Int.reduceAdd, Int.reduceMul, Int.reduceSub, Int.reduceToNat, Int.reduceLE, Int.reduceEq, ↓reduceIte, reduceCtorEq, Int.reduceNeg, Nat.reduceLeDiff,  h1', h2', hNd]
    refine ⟨Int.le_refl _, ?_⟩
    first | refine callB_intro (g20 _) ?_ | refine callD_intro (g20 _) ?_ | refine callP_intro (fun _ => (g20 _)) ?_ | refine callX_pure (g20 _) ?_
    simp (maxSteps := 1000000) (disch := omega) only [go_sem, Nat.reduceEqDiff, Nat.reduceLT, Nat.reduceAdd, Nat.reduceSub, Nat.reduceMul, Nat.reduceBEq, Int.reduceLT, Int.reduceAdd, Int.reduceMul, Int.reduceSub, Int.reduceToNat, Int.reduceLE, Int.reduceEq, ↓reduceIte, reduceCtorEq, Int.reduceNeg, Nat.reduceLeDiff,  hNs, h3']
    exact fin_same (by simp) _ (by first | exact (List.append_nil _).symm | rfl) (by simp (maxSteps := 1000000) (disch := omega) only [resVal, resAll, resOne, rs44, Env.get, go_sem, Nat.reduceEqDiff, Nat.reduceLT, Nat.reduceAdd, Nat.reduceSub, Nat.reduceMul, Nat.reduceBEq, Int.reduceLT, Int.reduceAdd, Int.reduceMul, Int.reduceSub, Int.reduceToNat, Int.reduceLE, Int.reduceEq, ↓reduceIte, reduceCtorEq, Int.reduceNeg, Nat.reduceLeDiff]) (by simp only [AV.und, AV.unds, and_self])

/-! The plain law: a delta has one row, a row one delta. -/
def mkw (β : Nat → Bool) (s : Nat) : Nat → Nat
  | 0 => 0
  | c + 1 => mkw β s c + (if β (s + c) then 2 ^ c else 0)
def msk (β : Nat → Bool) (n j : Nat) : List Int := (List.range n).map fun i => ((mkw β (60 * i) (min 60 (j - 60 * i)) : Nat) : Int)
def chg : List Int → List Int → List Int
  | b :: bs, n :: ns => if n = b then chg bs ns else n :: chg bs ns
  | _, _ => []
theorem mkw_lt (β : Nat → Bool) (s : Nat) : ∀ (c : Nat), mkw β s c < 2 ^ c
  | 0 => by simp [mkw]
  | c + 1 => by
    have := mkw_lt β s c
    rw [mkw, Nat.pow_succ]
    split <;> omega
theorem mkw_bit (β : Nat → Bool) (s : Nat) : ∀ (c t : Nat), mkw β s c / 2 ^ t % 2 = if t < c ∧ β (s + t) then 1 else 0
  | 0, t => by simp [mkw]
  | c + 1, t => by
    have ih := mkw_bit β s c t
    have hlt := mkw_lt β s c
    rw [mkw]
    rcases Nat.lt_trichotomy t c with h | rfl | h
    · have e : 2 ^ c = 2 ^ t * (2 * 2 ^ (c - t - 1)) := by rw [← Nat.mul_assoc, ← Nat.pow_succ, ← Nat.pow_add]; congr 1; omega
      have : (mkw β s c + (if β (s + c) then 2 ^ c else 0)) / 2 ^ t % 2 = mkw β s c / 2 ^ t % 2 := by
        split
        · rw [e, Nat.add_mul_div_left _ _ (Nat.two_pow_pos t)]
          omega
        · rw [Nat.add_zero]
      rw [this, ih]
      have h1 : (t < c) = True := by simp [h]
      have h2 : (t < c + 1) = True := by simp; omega
      simp only [h1, h2]
    · have e0 : mkw β s t / 2 ^ t = 0 := Nat.div_eq_of_lt hlt
      cases hb : β (s + t) with
      | true => simp only [if_true]; rw [Nat.add_div_right _ (Nat.two_pow_pos t), e0]; simp
      | false => simp [e0]
    · have h1 : mkw β s c + (if β (s + c) then 2 ^ c else 0) < 2 ^ t := by
        have : 2 ^ (c + 1) ≤ 2 ^ t := Nat.pow_le_pow_right (by decide) (by omega)
        rw [Nat.pow_succ] at this
        split <;> omega
      rw [Nat.div_eq_of_lt h1, if_neg (by omega)]
theorem orb_add {x j : Nat} (h : x < 2 ^ (j % 60)) : orb (x : Int) j = ((x + 2 ^ (j % 60) : Nat) : Int) := by
  have hp : 2 ^ (j % 60) ≤ 2 ^ 59 := Nat.pow_le_pow_right (by decide) (by omega)
  have em : min (j % 60) IntKind.i64.bits = j % 60 := by
    have : IntKind.i64.bits = 64 := rfl
    omega
  have e1 : (1 : Int) * 2 ^ (j % 60) = ((2 ^ (j % 60) : Nat) : Int) := by push_cast; omega
  unfold orb
  rw [em, e1]
  generalize hP : 2 ^ (j % 60) = P at *
  have e2 : IntKind.i64.wrap (P : Int) = (P : Int) := i64_in _ (by omega)
  rw [e2]
  have e3 : (BitVec.ofInt IntKind.i64.bits (x : Int) ||| BitVec.ofInt IntKind.i64.bits (P : Int)).toNat = x + P := by
    show (BitVec.ofInt 64 (x : Int) ||| BitVec.ofInt 64 (P : Int)).toNat = _
    rw [BitVec.toNat_or, BitVec.ofInt_natCast, BitVec.ofInt_natCast, BitVec.toNat_ofNat, BitVec.toNat_ofNat, Nat.mod_eq_of_lt (by omega), Nat.mod_eq_of_lt (by omega)]
    have := Nat.two_pow_add_eq_or_of_lt (i := j % 60) (b := x) (by omega) 1
    rw [hP, Nat.mul_one] at this
    rw [Nat.or_comm, ← this]
    omega
  rw [e3, i64_in _ (by omega)]
theorem msk_len (β : Nat → Bool) (n j : Nat) : (msk β n j).length = n := by simp [msk]
theorem msk_get (β : Nat → Bool) {n j i : Nat} (h : i < n) : (msk β n j)[i]? = some ((mkw β (60 * i) (min 60 (j - 60 * i)) : Nat) : Int) := by
  simp [msk, h]
theorem msk_step (β : Nat → Bool) (n j : Nat) (h : j < 60 * n) : msk β n (j + 1) = if β j then (msk β n j).set (j / 60) ((mkw β (60 * (j / 60)) (j % 60) + 2 ^ (j % 60) : Nat) : Int) else msk β n j := by
  apply List.ext_getElem?
  intro i
  by_cases hi : i < n
  · rw [msk_get β hi]
    by_cases he : i = j / 60
    · subst he
      have e1 : min 60 (j + 1 - 60 * (j / 60)) = j % 60 + 1 := by omega
      have e2 : min 60 (j - 60 * (j / 60)) = j % 60 := by omega
      have e3 : 60 * (j / 60) + j % 60 = j := by omega
      rw [e1, mkw, e3]
      cases hb : β j with
      | true => rw [if_pos rfl, if_pos rfl, List.getElem?_set_self (by rw [msk_len]; exact hi)]
      | false => simp only [Bool.false_eq_true, if_false]; rw [msk_get β hi, e2, Nat.add_zero]
    · have e1 : min 60 (j + 1 - 60 * i) = min 60 (j - 60 * i) := by omega
      rw [e1]
      split
      · rw [List.getElem?_set_ne (by omega), msk_get β hi]
      · rw [msk_get β hi]
  · rw [List.getElem?_eq_none (by rw [msk_len]; omega)]
    split
    · rw [List.getElem?_eq_none (by rw [List.length_set, msk_len]; omega)]
    · rw [List.getElem?_eq_none (by rw [msk_len]; omega)]
theorem dif_eq (β : Nat → Bool) (n : Nat) : ∀ (rb rn ch : List Int) (j : Nat), rb.length = rn.length → j + rn.length ≤ 60 * n → (∀ t, t < rn.length → β (j + t) = decide (rn.getD t 0 ≠ rb.getD t 0)) →
    dif (msk β n j ++ ch, j) rb rn = msk β n (j + rn.length) ++ (ch ++ chg rb rn)
  | [], [], ch, j, _, _, _ => by simp [dif, chg]
  | [], _ :: _, ch, j, h, _, _ => by simp at h
  | _ :: _, [], ch, j, h, _, _ => by simp at h
  | b :: rb, x :: rn, ch, j, h, hj, hβ => by
    rw [List.length_cons] at hj
    have hlt : j / 60 < n := by omega
    have h0 : β j = decide (x ≠ b) := by simpa using hβ 0 (by simp)
    have hβ2 : ∀ t, t < rn.length → β (j + 1 + t) = decide (rn.getD t 0 ≠ rb.getD t 0) := by
      intro t ht
      have := hβ (t + 1) (by simp; omega)
      rw [show j + (t + 1) = j + 1 + t by omega] at this
      simpa using this
    have st := msk_step β n j (by omega)
    have ih := fun ch => dif_eq β n rb rn ch (j + 1) (by simpa using h) (by omega) hβ2
    rw [dif, List.length_cons, show j + (rn.length + 1) = j + 1 + rn.length by omega, chg]
    by_cases he : x = b
    · rw [if_pos he, if_pos he, ← ih]
      have : β j = false := by rw [h0]; simp [he]
      rw [this] at st
      simp only [Bool.false_eq_true, if_false] at st
      rw [st]
    · rw [if_neg he, if_neg he]
      have hb : β j = true := by rw [h0]; simp [he]
      rw [hb, if_pos rfl] at st
      have hm : (msk β n j ++ ch).getD (j / 60) 0 = ((mkw β (60 * (j / 60)) (j % 60) : Nat) : Int) := by
        rw [List.getD_eq_getElem?_getD, List.getElem?_append_left (by rw [msk_len]; exact hlt), msk_get β hlt, show min 60 (j - 60 * (j / 60)) = j % 60 by omega]
        rfl
      rw [hm, orb_add (mkw_lt _ _ _), List.set_append_left _ _ (by rw [msk_len]; exact hlt), ← st, List.append_assoc, ih]
      simp
theorem diff_eq {bs ns : List Int} (h : bs.length = ns.length) : diff bs ns = msk (fun j => decide (ns.getD j 0 ≠ bs.getD j 0)) ((ns.length + 59) / 60) ns.length ++ chg bs ns := by
  have e : ∀ β n, msk β n 0 = List.replicate n 0 := by
    intro β n
    apply List.ext_getElem?
    intro i
    by_cases hi : i < n
    · rw [msk_get β hi, Nat.zero_sub, Nat.min_zero]
      simp [mkw, hi]
    · rw [List.getElem?_eq_none (by rw [msk_len]; omega), List.getElem?_eq_none (by simp; omega)]
  have := dif_eq (fun j => decide (ns.getD j 0 ≠ bs.getD j 0)) ((ns.length + 59) / 60) bs ns [] 0 h (by omega) (fun t ht => by simp)
  rw [List.append_nil, e, Nat.zero_add, List.nil_append] at this
  exact this

/-! The plain law: bits of a delta. -/
def jj (L i : Nat) : Nat := min L (60 * (i / 64) + min (i % 64) 60)
def stray (L : Nat) (d : List Int) : Nat → Nat → Nat
  | 0, _ => 0
  | m + 1, i => (if 60 ≤ i % 64 ∨ L ≤ 60 * (i / 64) + i % 64 then (if wb (d.getD (i / 64) 0) (i % 64) then 1 else 0) else 0) + stray L d m (i + 1)
def sb (d : List Int) : Nat → Nat → Nat
  | 0, _ => 0
  | m + 1, i => (if wb (d.getD (i / 64) 0) (i % 64) then 1 else 0) + sb d m (i + 1)
theorem jj_stray {L i : Nat} (h : 60 ≤ i % 64 ∨ L ≤ 60 * (i / 64) + i % 64) : jj L (i + 1) = jj L i := by unfold jj; omega
theorem jj_place {L i : Nat} (h : ¬ (60 ≤ i % 64 ∨ L ≤ 60 * (i / 64) + i % 64)) : jj L i = 60 * (i / 64) + i % 64 ∧ jj L (i + 1) = 60 * (i / 64) + i % 64 + 1 := by unfold jj; omega
theorem bit_place (d : List Int) {i : Nat} (h : i % 64 < 60) : bit d (60 * (i / 64) + i % 64) = wb (d.getD (i / 64) 0) (i % 64) := by
  rw [bit_wb, show (60 * (i / 64) + i % 64) / 60 = i / 64 by omega, show (60 * (i / 64) + i % 64) % 60 = i % 64 by omega]
theorem ap_cons (d : List Int) (b : Int) (r : List Int) (j : Nat) (ws acc : List Int) : ap d (b :: r) j ws acc = if bit d j then (match ws with | [] => none | w :: ws => if w = b then none else ap d r (j + 1) ws (acc ++ [w])) else ap d r (j + 1) ws (acc ++ [b]) := by
  cases ws <;> rfl
theorem sb_add (d : List Int) : ∀ (a i b : Nat), sb d (a + b) i = sb d a i + sb d b (i + a)
  | 0, i, b => by simp [sb]
  | a + 1, i, b => by
    rw [show a + 1 + b = (a + b) + 1 by omega, sb, sb, sb_add d a, show i + 1 + a = i + (a + 1) by omega]
    omega
theorem sb_word (d : List Int) (i : Nat) : ∀ (m t : Nat), t + m ≤ 64 → sb d m (64 * i + t) = cb (u64 (d.getD i 0) / 2 ^ t) m
  | 0, _, _ => rfl
  | m + 1, t, h => by
    rw [sb, cb, show 64 * i + t + 1 = 64 * i + (t + 1) by omega, sb_word d i m (t + 1) (by omega), show (64 * i + t) / 64 = i by omega, show (64 * i + t) % 64 = t by omega, wb_if, Nat.div_div_eq_div_mul, ← Nat.pow_succ]
theorem sb_ones (d : List Int) : ∀ (n : Nat), n ≤ d.length → sb d (64 * n) 0 = ones (d.take n)
  | 0, _ => by simp [sb, ones]
  | n + 1, h => by
    have ih := sb_ones d n (by omega)
    have hw := sb_word d n 64 0 (by omega)
    rw [Nat.add_zero, Nat.pow_zero, Nat.div_one] at hw
    rw [show 64 * (n + 1) = 64 * n + 64 by omega, sb_add, ones_take d n (by omega), Nat.zero_add, hw, pop_cb, ih]
theorem pl_stray (L : Nat) (d : List Int) (n : Nat) (hL : L ≤ 60 * n) : ∀ (m i : Nat), i + m = 64 * n → pl d (jj L i) (L - jj L i) + stray L d m i = sb d m i
  | 0, i, hi => by
    have hj : jj L i = L := by unfold jj; omega
    rw [hj, stray, sb, Nat.sub_self, pl]
  | m + 1, i, hi => by
    have ih := pl_stray L d n hL m (i + 1) (by omega)
    rw [stray, sb, ← ih]
    by_cases hs : 60 ≤ i % 64 ∨ L ≤ 60 * (i / 64) + i % 64
    · rw [if_pos hs, jj_stray hs]
      omega
    · rw [if_neg hs]
      obtain ⟨j1, j2⟩ := jj_place hs
      have hb := bit_place d (i := i) (by omega)
      rw [j1, j2, show L - (60 * (i / 64) + i % 64) = (L - (60 * (i / 64) + i % 64 + 1)) + 1 by omega, pl, hb]
      omega

/-! The plain law: there and back. -/
theorem u64_nat {x : Nat} (h : x < 2 ^ 60) : u64 (x : Int) = x := by
  have := u64_mod (x : Int)
  omega
/-- A row that differs at the bits. -/
def MarksB (β : Nat → Bool) (j : Nat) (rb rn : List Int) : Prop := ∀ t, t < rn.length → β (j + t) = decide (rn.getD t 0 ≠ rb.getD t 0)
theorem MarksB.head {β : Nat → Bool} {j : Nat} {b n : Int} {rb rn : List Int} (h : MarksB β j (b :: rb) (n :: rn)) : β j = decide (n ≠ b) := by simpa using h 0 (by simp)
theorem MarksB.tail {β : Nat → Bool} {j : Nat} {b n : Int} {rb rn : List Int} (h : MarksB β j (b :: rb) (n :: rn)) : MarksB β (j + 1) rb rn := by
  intro t ht
  have := h (t + 1) (by simp; omega)
  rw [show j + (t + 1) = j + 1 + t by omega] at this
  simpa using this
theorem ap_chg (d : List Int) : ∀ (rb rn : List Int) (j : Nat) (acc : List Int), rb.length = rn.length → MarksB (bit d) j rb rn → ap d rb j (chg rb rn) acc = some (acc ++ rn)
  | [], [], j, acc, _, _ => by simp [ap, chg]
  | [], _ :: _, j, acc, h, _ => by simp at h
  | _ :: _, [], j, acc, h, _ => by simp at h
  | b :: rb, n :: rn, j, acc, h, hm => by
    rw [ap_cons, hm.head, chg]
    have ih := fun acc => ap_chg d rb rn (j + 1) acc (by simpa using h) hm.tail
    by_cases he : n = b
    · subst he
      simp [ih]
    · simp [he, ih]
theorem pl_chg (d : List Int) : ∀ (rb rn : List Int) (j : Nat), rb.length = rn.length → MarksB (bit d) j rb rn → pl d j rb.length = (chg rb rn).length
  | [], [], j, _, _ => by simp [pl, chg]
  | [], _ :: _, j, h, _ => by simp at h
  | _ :: _, [], j, h, _ => by simp at h
  | b :: rb, n :: rn, j, h, hm => by
    rw [List.length_cons, pl, hm.head, chg, pl_chg d rb rn (j + 1) (by simpa using h) hm.tail]
    by_cases he : n = b
    · simp [he]
    · simp [he]; omega
theorem stray_zero (L : Nat) (d : List Int) : ∀ (m i : Nat), (∀ k, i ≤ k → k < i + m → wb (d.getD (k / 64) 0) (k % 64) = true → ¬ (60 ≤ k % 64 ∨ L ≤ 60 * (k / 64) + k % 64)) → stray L d m i = 0
  | 0, _, _ => rfl
  | m + 1, i, h => by
    rw [stray, stray_zero L d m (i + 1) (fun k h1 h2 => h k (by omega) (by omega)), Nat.add_zero]
    split
    · split
      · rename_i h1 h2
        exact absurd h1 (h i (by omega) (by omega) h2)
      · rfl
    · rfl
/-- There: the row of a delta is the row. -/
theorem aspec_diff {bs ns : List Int} (h : bs.length = ns.length) (hL : bs.length ≤ 600) : aspec bs (diff bs ns) = (ns, 0) := by
  have hd := diff_eq h
  generalize hβ : (fun j => decide (ns.getD j 0 ≠ bs.getD j 0)) = β at hd
  generalize diff bs ns = d at *
  subst hd
  have hlen := msk_len β ((ns.length + 59) / 60) ns.length
  have hget : ∀ i, i < (ns.length + 59) / 60 → (msk β ((ns.length + 59) / 60) ns.length ++ chg bs ns).getD i 0 = ((mkw β (60 * i) (min 60 (ns.length - 60 * i)) : Nat) : Int) := by
    intro i hi
    rw [List.getD_eq_getElem?_getD, List.getElem?_append_left (by rw [hlen]; exact hi), msk_get β hi]
    rfl
  have hwb : ∀ i t, i < (ns.length + 59) / 60 → wb ((msk β ((ns.length + 59) / 60) ns.length ++ chg bs ns).getD i 0) t = decide (t < min 60 (ns.length - 60 * i) ∧ β (60 * i + t) = true) := by
    intro i t hi
    have hlt := mkw_lt β (60 * i) (min 60 (ns.length - 60 * i))
    have h60 : 2 ^ (min 60 (ns.length - 60 * i)) ≤ 2 ^ 60 := Nat.pow_le_pow_right (by decide) (by omega)
    rw [hget i hi, wb, u64_nat (by omega), mkw_bit]
    split <;> simp_all
  have hm : MarksB (bit (msk β ((ns.length + 59) / 60) ns.length ++ chg bs ns)) 0 bs ns := by
    intro t ht
    rw [bit_wb, Nat.zero_add, hwb _ _ (by omega)]
    have e : 60 * (t / 60) + t % 60 = t := by omega
    rw [e, ← hβ]
    simp
    omega
  have hpl := pl_chg _ bs ns 0 h hm
  have hap := ap_chg _ bs ns 0 [] h hm
  have hps := pl_stray ns.length (msk β ((ns.length + 59) / 60) ns.length ++ chg bs ns) ((ns.length + 59) / 60) (by omega) (64 * ((ns.length + 59) / 60)) 0 (by omega)
  have hso := sb_ones (msk β ((ns.length + 59) / 60) ns.length ++ chg bs ns) ((ns.length + 59) / 60) (by simp [hlen])
  have e0 : jj ns.length 0 = 0 := by unfold jj; omega
  rw [e0, Nat.sub_zero, hso] at hps
  have hdl : (msk β ((ns.length + 59) / 60) ns.length ++ chg bs ns).length = (ns.length + 59) / 60 + (chg bs ns).length := by rw [List.length_append, hlen]
  have hdr : (msk β ((ns.length + 59) / 60) ns.length ++ chg bs ns).drop ((ns.length + 59) / 60) = chg bs ns := by
    rw [List.drop_append_of_le_length (by omega), List.drop_of_length_le (by omega), List.nil_append]
  have hz : stray ns.length (msk β ((ns.length + 59) / 60) ns.length ++ chg bs ns) (64 * ((ns.length + 59) / 60)) 0 = 0 := by
    refine stray_zero _ _ _ _ fun k _ hk hw => ?_
    rw [hwb _ _ (by omega)] at hw
    simp only [decide_eq_true_eq] at hw
    omega
  unfold aspec
  rw [h, hdl, hdr]
  rw [h] at hpl hL
  rw [if_neg (by omega), if_neg (by omega), if_neg (by omega), hap]
  simp

/-! Parts, joined. -/
/-- What stands on the way: the words that were joined. -/
def JI (H : Heap) (ws : List Int) (k : Nat) (w : AV) (X : Heap) : Prop := Ext H X ∧ (k = 0 ∧ w = .nils ∨ ∃ q, (0 < k ∧ H.length ≤ q) ∧ w = .sl q 0 (8 * k) 1 none ∧ blkAt X q = some ⟨(ws.take (8 * k)).map (AV.int .i64), true⟩)
def jo (K L : Nat) (p : Nat) (cp : Option Nat) (n : Int) (k : Nat) (w : AV) : Env := [(1, .int .i64 n), (6, w), (20, .sl p L K 8 cp), (21, .int .i64 (K : Int)), (22, .int .i64 (k : Int))]
theorem f43_round {H : Heap} {ws : List Int} {k K p off : Nat} {cs : List AV} {cp : Option Nat} {n : Int} {w : AV} {X : Heap} {Q : Post} {fs : List Fr} {o : Bool} (d : JI H ws k w X) (hp : blkAt H p = some ⟨cs, o⟩) (hcs : (cs.drop off).take (8 * K) = ws.map (AV.int .i64)) (hk : k < K) (hK : ws.length = 8 * K) (hl : K ≤ 1000000)
    (hq : ∀ w' X', JI H ws (k + 1) w' X' → acs Try.prog (.lp c43l1 :: fs) (jo K off p cp n (k + 1) w') X' Q) :
    acs Try.prog (.lp c43l1 :: fs) (jo K off p cp n k w) X Q := by
  obtain ⟨he, h2⟩ := d
  have hp' := he.blk hp
  have lp := blkAt_lt hp'
  have hlt : (k : Int) < (K : Int) := by omega
  obtain ⟨y0, y1, y2, y3, y4, y5, y6, y7, hy⟩ : ∃ y0 y1 y2 y3 y4 y5 y6 y7, (ws.drop (8 * k)).take 8 = [y0, y1, y2, y3, y4, y5, y6, y7] := by
    have hle : ((ws.drop (8 * k)).take 8).length = 8 := by simp; omega
    generalize (ws.drop (8 * k)).take 8 = z at hle ⊢
    match z, hle with
    | [a, b, c, d, e, f, g, h], _ => exact ⟨_, _, _, _, _, _, _, _, rfl⟩
  have hsp : ws.take (8 * (k + 1)) = ws.take (8 * k) ++ [y0, y1, y2, y3, y4, y5, y6, y7] := by rw [← hy, show 8 * (k + 1) = 8 * k + 8 by omega, List.take_add]
  have hrd : List.take 8 (List.drop (off + k * 8) cs) = [AV.int .i64 y0, AV.int .i64 y1, AV.int .i64 y2, AV.int .i64 y3, AV.int .i64 y4, AV.int .i64 y5, AV.int .i64 y6, AV.int .i64 y7] := by
    have h1 : List.take 8 (List.drop (8 * k) (ws.map (AV.int .i64))) = [AV.int .i64 y0, AV.int .i64 y1, AV.int .i64 y2, AV.int .i64 y3, AV.int .i64 y4, AV.int .i64 y5, AV.int .i64 y6, AV.int .i64 y7] := by rw [← List.map_drop, ← List.map_take, hy]; rfl
    rw [← hcs, List.drop_take, List.take_take, List.drop_drop, show min 8 (8 * K - 8 * k) = 8 by omega] at h1
    rw [show off + k * 8 = off + 8 * k by omega]
    exact h1
  have hle : off + (k * 8 + 8) ≤ cs.length := by
    have h1 := congrArg List.length hcs
    rw [List.length_take, List.length_drop, List.length_map, hK] at h1
    omega
  have hbig : (8 * k + 8) * 8 ≤ 140737488355328 := by omega
  have h8 : 8 * (k + 1) = 8 * k + 8 := by omega
  have hsp2 : (ws.take (8 * (k + 1))).map (AV.int .i64) = (ws.take (8 * k)).map (AV.int .i64) ++ [AV.int .i64 y0, AV.int .i64 y1, AV.int .i64 y2, AV.int .i64 y3, AV.int .i64 y4, AV.int .i64 y5, AV.int .i64 y6, AV.int .i64 y7] := by rw [hsp, List.map_append]; rfl
  unfold jo at *
  clear hcs
  rw [acs_lp]; conv in Fr.code c43l1 => unfold c43l1
  rcases h2 with ⟨rfl, rfl⟩ | ⟨q, h3, rfl, h5⟩
  · have hlt0 : (0 : Int) < (K : Int) := by omega
    simp only [Nat.mul_zero, Nat.zero_mul, Nat.zero_add, Nat.add_zero, Nat.mul_one, List.take_zero, List.map_nil, List.nil_append] at hrd hle hsp2
    simp (maxSteps := 1000000) (disch := omega) only [go_sem, Nat.reduceEqDiff, Nat.reduceLT, Nat.reduceAdd, Nat.reduceSub, Nat.reduceMul, Nat.reduceBEq, Int.reduceLT, Int.reduceAdd, Int.reduceMul, Int.reduceSub, Int.reduceToNat, Int.reduceLE, Int.reduceEq, ↓reduceIte, reduceCtorEq, Int.reduceNeg, Nat.reduceLeDiff,  hp', lp, blkAt_lo, set_lo, hlt0, hrd, hle]
    refine hq _ _ ⟨he.to _, .inr ⟨X.length + 1, ⟨by omega, by have := he.len; omega⟩, rfl, ?_⟩⟩
    rw [blkAt_app, hsp2]
    rfl
  · have lq := blkAt_lt h5
    have hlP : ((ws.take (8 * k)).map (AV.int .i64)).length = 8 * k := by simp; omega
    have hP0 : List.take (8 * k) ((ws.take (8 * k)).map (AV.int .i64)) = (ws.take (8 * k)).map (AV.int .i64) := by rw [List.take_of_length_le (by rw [hlP]; exact Nat.le_refl _)]
    generalize (ws.take (8 * k)).map (AV.int .i64) = P at *
    simp (maxSteps := 1000000) (disch := omega) only [go_sem, Nat.reduceEqDiff, Nat.reduceLT, Nat.reduceAdd, Nat.reduceSub, Nat.reduceMul, Nat.reduceBEq, Int.reduceLT, Int.reduceAdd, Int.reduceMul, Int.reduceSub, Int.reduceToNat, Int.reduceLE, Int.reduceEq, ↓reduceIte, reduceCtorEq, Int.reduceNeg, Nat.reduceLeDiff,  hp', lp, h5, lq, blkAt_lo, set_lo, hlt, hrd, hle, hbig, hlP, hP0, Nat.le_refl]
    have hq2 := hq (.sl (X.length + 1) 0 (8 * k + 8) 1 none) (X.set q none ++ [some ⟨[AV.int .i64 y0, AV.int .i64 y1, AV.int .i64 y2, AV.int .i64 y3, AV.int .i64 y4, AV.int .i64 y5, AV.int .i64 y6, AV.int .i64 y7], true⟩, some ⟨P ++ [AV.int .i64 y0, AV.int .i64 y1, AV.int .i64 y2, AV.int .i64 y3, AV.int .i64 y4, AV.int .i64 y5, AV.int .i64 y6, AV.int .i64 y7], true⟩]) ⟨(he.set (by omega) _).to _, .inr ⟨X.length + 1, ⟨by omega, by have := he.len; omega⟩, by rw [h8], ?_⟩⟩
    · exact hq2
    · rw [show X.length + 1 = (X.set q none).length + 1 by rw [List.length_set], blkAt_app, hsp2]
      rfl
theorem f43_join {H : Heap} {ws : List Int} {K p off : Nat} {cs : List AV} {cp : Option Nat} {n : Int} {Q : Post} {fs : List Fr} {o : Bool} (hp : blkAt H p = some ⟨cs, o⟩) (hcs : (cs.drop off).take (8 * K) = ws.map (AV.int .i64)) (hK : ws.length = 8 * K) (hl : K ≤ 1000000)
    (hq : ∀ w' X', JI H ws K w' X' → leave Try.prog 0 fs [(1, .int .i64 n), (6, w')] X' Q) :
    ∀ (r k : Nat) (w : AV) (X : Heap), k + r = K → JI H ws k w X → acs Try.prog (.lp c43l1 :: fs) (jo K off p cp n k w) X Q := by
  intro r
  induction r with
  | zero =>
    intro k w X hr d
    have hge : ¬ (k : Int) < (K : Int) := by omega
    obtain rfl : k = K := by omega
    unfold jo
    rw [acs_lp]; conv in Fr.code c43l1 => unfold c43l1
    simp (maxSteps := 1000000) (disch := omega) only [go_sem, Nat.reduceEqDiff, Nat.reduceLT, Nat.reduceAdd, Nat.reduceSub, Nat.reduceMul, Nat.reduceBEq, Int.reduceLT, Int.reduceAdd, Int.reduceMul, Int.reduceSub, Int.reduceToNat, Int.reduceLE, Int.reduceEq, ↓reduceIte, reduceCtorEq, Int.reduceNeg, Nat.reduceLeDiff,  hge]
    exact hq _ _ d
  | succ r ih =>
    intro k w X hr d
    exact f43_round d hp hcs (by omega) hK hl fun w' X' d' => ih (k + 1) w' X' (by omega) d'
/-- Whether what stands behind a row is nought. -/
theorem f43_rest {X : Heap} {zs : List Int} {q N m : Nat} {cq : Option Nat} {Q : Post} {fs : List Fr} {w : AV} {n : Int} (hs : Sl i64 X q N zs) (hz : ∀ z ∈ zs, z = 0) (hm : zs.length = m) (hl : m ≤ 1000000)
    (hq : leave Try.prog 2 fs [(1, .int .i64 n), (6, w)] X Q) :
    ∀ (r k : Nat), k + r = m → acs Try.prog (.lp c43l0 :: fs) [(1, .int .i64 n), (6, w), (32, .sl q N m 1 cq), (33, .int .i64 (m : Int)), (34, .int .i64 (k : Int))] X Q := by
  intro r
  obtain ⟨cs, o, hp, hle, hcs⟩ := hs
  induction r with
  | zero =>
    intro k hr
    have hge : ¬ (k : Int) < (m : Int) := by omega
    rw [acs_lp]; conv in Fr.code c43l0 => unfold c43l0
    simp (maxSteps := 1000000) (disch := omega) only [go_sem, Nat.reduceEqDiff, Nat.reduceLT, Nat.reduceAdd, Nat.reduceSub, Nat.reduceMul, Nat.reduceBEq, Int.reduceLT, Int.reduceAdd, Int.reduceMul, Int.reduceSub, Int.reduceToNat, Int.reduceLE, Int.reduceEq, ↓reduceIte, reduceCtorEq, Int.reduceNeg, Nat.reduceLeDiff,  hge]
    exact hq
  | succ r ih =>
    intro k hr
    have hlt : (k : Int) < (m : Int) := by omega
    have hkz : zs[k]? = some 0 := by
      have : zs[k]? = some zs[k] := List.getElem?_eq_getElem (by omega)
      rw [this, hz _ (List.getElem_mem _)]
    have hc : cs[N + k]? = some (.int .i64 0) := by
      have h := congrArg (·[k]?) hcs
      simp only [List.getElem?_take, List.getElem?_drop, List.getElem?_map, hkz] at h
      rw [if_pos (by omega)] at h
      simpa [i64] using h
    rw [acs_lp]; conv in Fr.code c43l0 => unfold c43l0
    simp (maxSteps := 1000000) (disch := omega) only [go_sem, Nat.reduceEqDiff, Nat.reduceLT, Nat.reduceAdd, Nat.reduceSub, Nat.reduceMul, Nat.reduceBEq, Int.reduceLT, Int.reduceAdd, Int.reduceMul, Int.reduceSub, Int.reduceToNat, Int.reduceLE, Int.reduceEq, ↓reduceIte, reduceCtorEq, Int.reduceNeg, Nat.reduceLeDiff,  hlt, hp, hc]
    exact ih (k + 1) (by omega)
theorem f43 {H : Heap} {ws : List Int} {K p N off : Nat} {cs : List AV} {cp : Option Nat} {o : Bool} (hp : blkAt H p = some ⟨cs, o⟩) (hcs : (cs.drop off).take (8 * K) = ws.map (AV.int .i64)) (hK : ws.length = 8 * K) (hl : K ≤ 1000000) (hN : (N + 7) / 8 = K) (h0 : 0 < N) (hz : ∀ z ∈ ws.drop N, z = 0) :
    ACallE Try.prog 43 [.sl p off K 8 cp, .int .i64 (N : Int)] H fun v H' => ∃ w, v = .tup [w, .int .i64 0] ∧ Rw i64 H' w (ws.take N) := by
  refine acallE (fun v Hf h => acallK43 (by simp) h) (acs_start ?_)
  have g := fun G => f63 (N : Int) G (by omega)
  have e : ((N : Int) + 7) / 8 = (K : Int) := by omega
  rw [e] at g
  have hn : ¬ (N : Int) < 0 := by omega
  unfold c43
  simp (maxSteps := 1000000) (disch := omega) only [go_sem, Nat.reduceEqDiff, Nat.reduceLT, Nat.reduceAdd, Nat.reduceSub, Nat.reduceMul, Nat.reduceBEq, Int.reduceLT, Int.reduceAdd, Int.reduceMul, Int.reduceSub, Int.reduceToNat, Int.reduceLE, Int.reduceEq, ↓reduceIte, reduceCtorEq, Int.reduceNeg, Nat.reduceLeDiff,  hn]
  first | refine callB_intro (g _) ?_ | refine callD_intro (g _) ?_ | refine callP_intro (fun _ => (g _)) ?_ | refine callX_pure (g _) ?_
  simp (maxSteps := 1000000) (disch := omega) only [go_sem, Nat.reduceEqDiff, Nat.reduceLT, Nat.reduceAdd, Nat.reduceSub, Nat.reduceMul, Nat.reduceBEq, Int.reduceLT, Int.reduceAdd, Int.reduceMul, Int.reduceSub, Int.reduceToNat, Int.reduceLE, Int.reduceEq, ↓reduceIte, reduceCtorEq, Int.reduceNeg, Nat.reduceLeDiff]
  have j := f43_join (n := (N : Int)) (cp := cp) (fs := ?_) (Q := ?_) hp hcs hK hl ?_ K 0 .nils H (by omega) ⟨Ext.refl _, .inl ⟨rfl, rfl⟩⟩
  · exact j
  intro w X d
  obtain ⟨he, h2⟩ := d
  rcases h2 with ⟨h3, _⟩ | ⟨q, h3, rfl, h5⟩
  · omega
  have h8 : (N : Int) ≤ ((8 * K : Nat) : Int) := by omega
  have h9 : N ≤ 8 * K := by omega
  rw [List.take_of_length_le (by omega)] at h5
  have s1 : Sl i64 X q 0 ws := Sl.whole (o := true) h5
  have s2 := s1.drop (n := N) (by omega)
  rw [Nat.zero_add] at s2
  simp (maxSteps := 1000000) (disch := omega) only [go_sem, Nat.reduceEqDiff, Nat.reduceLT, Nat.reduceAdd, Nat.reduceSub, Nat.reduceMul, Nat.reduceBEq, Int.reduceLT, Int.reduceAdd, Int.reduceMul, Int.reduceSub, Int.reduceToNat, Int.reduceLE, Int.reduceEq, ↓reduceIte, reduceCtorEq, Int.reduceNeg, Nat.reduceLeDiff,  h8, h9]
  refine f43_rest s2 hz (by simp; omega) (by omega) ?_ (8 * K - N) 0 (by omega)
  simp (maxSteps := 1000000) (disch := omega) only [go_sem, Nat.reduceEqDiff, Nat.reduceLT, Nat.reduceAdd, Nat.reduceSub, Nat.reduceMul, Nat.reduceBEq, Int.reduceLT, Int.reduceAdd, Int.reduceMul, Int.reduceSub, Int.reduceToNat, Int.reduceLE, Int.reduceEq, ↓reduceIte, reduceCtorEq, Int.reduceNeg, Nat.reduceLeDiff,  h8, h9]
  have hr := Rw.mk (f := i64) (off := 0) none (s1.take N)
  rw [List.length_take, show min N ws.length = N by omega] at hr
  refine fin_e (by simp) (by simp (maxSteps := 1000000) (disch := omega) only [resVal, resAll, resOne, rs43, Env.get, go_sem, Nat.reduceEqDiff, Nat.reduceLT, Nat.reduceAdd, Nat.reduceSub, Nat.reduceMul, Nat.reduceBEq, Int.reduceLT, Int.reduceAdd, Int.reduceMul, Int.reduceSub, Int.reduceToNat, Int.reduceLE, Int.reduceEq, ↓reduceIte, reduceCtorEq, Int.reduceNeg, Nat.reduceLeDiff, ] <;> rfl) he ⟨_, rfl, hr⟩

/-! An estimator of words. -/
structure Tk.sq (t : Tk) (x0 x1 x2 p0 p1 p2 p3 p4 p5 : Int) : Prop where
  xr : t.xr = 3
  xc : t.xc = 1
  xl : t.xl = [x0, x1, x2]
  pr : t.pr = 3
  pc : t.pc = 3
  pl : t.pl = [p0, p1, p2, p1, p3, p4, p2, p4, p5]
theorem Tk.sq_of {t : Tk} (h : trkB t = true) (h3 : t.xr = 3) : ∃ x0 x1 x2 p0 p1 p2 p3 p4 p5, t.sq x0 x1 x2 p0 p1 p2 p3 p4 p5 := by
  obtain ⟨lx, lp⟩ := Tk.three_of h h3
  unfold trkB at h
  simp only [Bool.and_eq_true, decide_eq_true_eq] at h
  obtain ⟨⟨⟨⟨⟨_, _⟩, c1⟩, c2⟩, c3⟩, c4⟩ := h
  rw [h3] at c2 c3 c4
  obtain ⟨xr, xc, xl, xp, xo, xk, pr, pc, pl, pp, po, pk⟩ := t
  simp only at lx lp c1 c2 c3 c4 h3
  match xl, lx, pl, lp, c4 with
  | [x0, x1, x2], _, [p0, p1, p2, p3, p4, p5, p6, p7, p8], _, c4 =>
    unfold goodB symB at c4
    simp [List.range_succ] at c4
    obtain ⟨_, ⟨_, e1⟩, _, e2, e3⟩ := c4
    refine ⟨x0, x1, x2, p0, p1, p2, p4, p5, p8, h3, c1, rfl, c2, c3, ?_⟩
    simp only [List.cons.injEq, and_true, true_and]
    omega
theorem Tk.sq.axW {t : Tk} {x0 x1 x2 p0 p1 p2 p3 p4 p5 : Int} (h : t.sq x0 x1 x2 p0 p1 p2 p3 p4 p5) : Ah.axW t = [x0, x1, x2, p0, p1, p2, p3, p4, p5] := by
  unfold Ah.axW
  rw [h.xl, h.pl]
  rfl
theorem Tk.eqv.trk {t u : Tk} (h : t.eqv u) : trkB t = trkB u := by
  unfold trkB
  rw [h.xr, h.xc, h.xl, h.pr, h.pc, h.pl]
theorem Es.eqv.est {e f : Es} (h : e.eqv f) : estB e = estB f := by
  unfold estB
  obtain ⟨⟨a1, a2, a3, a4⟩, ha, hb, hc, b1, b2, b3, b4, b5, b6, b7⟩ := h
  rw [ha.trk, hb.trk, hc.trk, ha.xr, hb.xr, hc.xr, a1, a2, a3, a4, b1, b2, b3, b4, b5, b6]
theorem estB_sq {e : Es} (h : estB e = true) : (trkB e.a = true ∧ e.a.xr = 3) ∧ (trkB e.b = true ∧ e.b.xr = 3) ∧ trkB e.c = true ∧ e.c.xr = 3 := by
  unfold estB at h
  simp only [Bool.and_eq_true, decide_eq_true_eq] at h
  obtain ⟨⟨⟨⟨_, a1, a2⟩, b1, b2⟩, c1, c2⟩, _⟩ := h
  exact ⟨⟨a1, a2⟩, ⟨b1, b2⟩, c1, c2⟩
structure Es.far (e : Es) (n : Nat) : Prop where
  ax : n ≤ e.a.xp
  ap : n ≤ e.a.pp
  bx : n ≤ e.b.xp
  bp : n ≤ e.b.pp
  cx : n ≤ e.c.xp
  cp : n ≤ e.c.pp
theorem Es.ok.setF {e : Es} {X : Heap} {b n : Nat} (h : e.ok X) (hf : e.far n) (hb : b < n) (x : Option Blk) : e.ok (X.set b x) := by
  obtain ⟨h1, h2, h3, h4, h5, h6⟩ := hf
  exact ⟨h.ha.set (by omega) (by omega) x, h.hb.set (by omega) (by omega) x, h.hc.set (by omega) (by omega) x⟩
theorem hb66 : hasBody Try.prog 66 = true := by kernel_rfl
theorem f66 {W : List Int} {x : Int} {b4 b1 p off j n : Nat} {cp : Option Nat} {H : Heap} (h4 : blkAt H b4 = some ⟨[.int .i64 (j : Int)], true⟩) (h1 : blkAt H b1 = some ⟨[.sl p off n 1 cp], true⟩) (hs : Sl i64 H p off W) (hn : n = W.length) (hne : p ≠ b4) (hne1 : b1 ≠ b4) (hx : W[j]? = some x) (hj : j < 100) :
    ACall Try.prog 66 [.ptr b4 0, .ptr b1 0] H (.int .i64 x) (H.set b4 (some ⟨[.int .i64 ((j : Int) + 1)], true⟩)) := by
  subst hn
  obtain ⟨cs, o, hp, hle, hcs⟩ := hs
  have hjl : j < W.length := by
    rcases Nat.lt_or_ge j W.length with h | h
    · exact h
    · rw [List.getElem?_eq_none h] at hx; cases hx
  have l4 := blkAt_lt h4
  have s4 := blkAt_set_self l4 (some ⟨[.int .i64 ((j : Int) + 1)], true⟩)
  have s1 := (blkAt_set_ne (H := H) (Ne.symm hne1) (some ⟨[AV.int .i64 ((j : Int) + 1)], true⟩)).trans h1
  have sp := (blkAt_set_ne (H := H) (Ne.symm hne) (some ⟨[AV.int .i64 ((j : Int) + 1)], true⟩)).trans hp
  have fx : cs[off + j]? = some (.int .i64 x) := sl_get hcs hx
  have e1 : (j : Int) + 1 - 1 = (j : Int) := by omega
  have jl : (j : Int) < (W.length : Int) := by omega
  refine acallK66 (by simp) (acs_start ?_)
  unfold c66
  simp (maxSteps := 1000000) (disch := omega) only [go_sem, Nat.reduceEqDiff, Nat.reduceLT, Nat.reduceAdd, Nat.reduceSub, Nat.reduceMul, Nat.reduceBEq, Int.reduceLT, Int.reduceAdd, Int.reduceMul, Int.reduceSub, Int.reduceToNat, Int.reduceLE, Int.reduceEq, ↓reduceIte, reduceCtorEq, Int.reduceNeg, Nat.reduceLeDiff,  h4, s4, s1, sp, fx, e1, jl]
  exact ⟨.inr rfl, rfl, rfl⟩
theorem both {s : Int} {X P : Prop} (h : s = 0 ∨ s = 1) (hp : P) : (¬ s = 0 → (¬ s = 1 → X) ∧ (s = 1 → P)) ∧ (s = 0 → P) := ⟨fun h0 => ⟨fun h1 => (h.elim h0 h1).elim, fun _ => hp⟩, fun _ => hp⟩
theorem f45 {e : Es} {W : List Int} {p off : Nat} {cp : Option Nat} {H : Heap} (he : estB e = true) (hW : W = wds e) (hs : Sl i64 H p off W) :
    ACallE Try.prog 45 [.sl p off 38 1 cp] H fun v H' => ∃ f : Es, v = .tup [.agg f.av, .int .i64 0] ∧ f.eqv e ∧ f.ok H' ∧ f.far H.length := by
  refine acallE (fun v Hf h => acallK45 (by simp) h) (acs_start ?_)
  obtain ⟨⟨ta, xa⟩, ⟨tb, xb⟩, tc, xc⟩ := estB_sq he
  obtain ⟨u0, u1, u2, u3, u4, u5, u6, u7, u8, qa⟩ := Tk.sq_of ta xa
  obtain ⟨v0, v1, v2, v3, v4, v5, v6, v7, v8, qb⟩ := Tk.sq_of tb xb
  obtain ⟨w0, w1, w2, w3, w4, w5, w6, w7, w8, qc⟩ := Tk.sq_of tc xc
  obtain ⟨sw, hsw⟩ : ∃ sw : Int, (if e.sat then (1 : Int) else 0) = sw := ⟨_, rfl⟩
  have hW2 : W = [e.t0, e.t1, e.t2, e.t3, u0, u1, u2, u3, u4, u5, u6, u7, u8, v0, v1, v2, v3, v4, v5, v6, v7, v8, w0, w1, w2, w3, w4, w5, w6, w7, w8, e.st, e.co, e.o0, e.o1, e.o2, e.o3, sw] := by
    rw [hW]
    unfold wds
    rw [qa.axW, qb.axW, qc.axW, hsw]
    rfl
  clear hW
  have hlt := hs.lt
  have hsw2 : sw = 0 ∨ sw = 1 := by rw [← hsw]; cases e.sat <;> simp
  have hsat : decide (sw = 1) = e.sat := by rw [← hsw]; cases e.sat <;> rfl
  obtain ⟨cs, oo, hp, hle, hcs⟩ := hs
  have hs : Sl i64 H p off W := ⟨cs, oo, hp, hle, hcs⟩
  have f37 : cs[off + 37]? = some (.int .i64 sw) := sl_get hcs (by rw [hW2]; rfl)
  have lW : (38 : Nat) = W.length := by rw [hW2]; rfl
  have g66 := fun (j : Nat) (x : Int) (G : Heap) (b1 b4 : Nat) (h4 : blkAt (H ++ G) b4 = some ⟨[.int .i64 (j : Int)], true⟩) (h1 : blkAt (H ++ G) b1 = some ⟨[.sl p off 38 1 cp], true⟩) (n1 : p ≠ b4) (n2 : b1 ≠ b4) (hx : W[j]? = some x) (hj : j < 100) => f66 h4 h1 (hs.app G) lW n1 n2 hx hj
  unfold c45
  have z1 : ¬ (sw = 0) → sw = 1 := by omega
  have go : ∀ Q : Prop, (sw = 0 → Q) → (sw = 1 → Q) → Q := fun Q a b => hsw2.elim a b
  simp (maxSteps := 1000000) (disch := omega) only [go_sem, Nat.reduceEqDiff, Nat.reduceLT, Nat.reduceAdd, Nat.reduceSub, Nat.reduceMul, Nat.reduceBEq, Int.reduceLT, Int.reduceAdd, Int.reduceMul, Int.reduceSub, Int.reduceToNat, Int.reduceLE, Int.reduceEq, ↓reduceIte, reduceCtorEq, Int.reduceNeg, Nat.reduceLeDiff,  hp, f37, blkAt_lo, hlt]
  refine both hsw2 ?_
  rw [acs_lp]; conv in Fr.code c45l2 => unfold c45l2
  simp (maxSteps := 1000000) (disch := omega) only [go_sem, Nat.reduceEqDiff, Nat.reduceLT, Nat.reduceAdd, Nat.reduceSub, Nat.reduceMul, Nat.reduceBEq, Int.reduceLT, Int.reduceAdd, Int.reduceMul, Int.reduceSub, Int.reduceToNat, Int.reduceLE, Int.reduceEq, ↓reduceIte, reduceCtorEq, Int.reduceNeg, Nat.reduceLeDiff,  hb66]
  refine callB_intro (g66 0 e.t0 _ _ _ (by simp only [go_sem, Nat.reduceEqDiff, Nat.reduceLT, Nat.reduceAdd, Nat.reduceSub, Nat.reduceMul, Nat.reduceBEq, Int.reduceLT, Int.reduceAdd, Int.reduceMul, Int.reduceSub, Int.reduceToNat, Int.reduceLE, Int.reduceEq, ↓reduceIte, reduceCtorEq, Int.reduceNeg, Nat.reduceLeDiff, Int.reduceAdd, Int.cast_ofNat_Int]) (by simp only [go_sem, Nat.reduceEqDiff, Nat.reduceLT, Nat.reduceAdd, Nat.reduceSub, Nat.reduceMul, Nat.reduceBEq, Int.reduceLT, Int.reduceAdd, Int.reduceMul, Int.reduceSub, Int.reduceToNat, Int.reduceLE, Int.reduceEq, ↓reduceIte, reduceCtorEq, Int.reduceNeg, Nat.reduceLeDiff]) (by omega) (by omega) (by rw [hW2]; rfl) (by omega)) ?_
  simp (maxSteps := 1000000) (disch := omega) only [go_sem, Nat.reduceEqDiff, Nat.reduceLT, Nat.reduceAdd, Nat.reduceSub, Nat.reduceMul, Nat.reduceBEq, Int.reduceLT, Int.reduceAdd, Int.reduceMul, Int.reduceSub, Int.reduceToNat, Int.reduceLE, Int.reduceEq, ↓reduceIte, reduceCtorEq, Int.reduceNeg, Nat.reduceLeDiff,  hb66]
  rw [acs_lp]; conv in Fr.code c45l2 => unfold c45l2
  simp (maxSteps := 1000000) (disch := omega) only [go_sem, Nat.reduceEqDiff, Nat.reduceLT, Nat.reduceAdd, Nat.reduceSub, Nat.reduceMul, Nat.reduceBEq, Int.reduceLT, Int.reduceAdd, Int.reduceMul, Int.reduceSub, Int.reduceToNat, Int.reduceLE, Int.reduceEq, ↓reduceIte, reduceCtorEq, Int.reduceNeg, Nat.reduceLeDiff,  hb66]
  refine callB_intro (g66 1 e.t1 _ _ _ (by simp only [go_sem, Nat.reduceEqDiff, Nat.reduceLT, Nat.reduceAdd, Nat.reduceSub, Nat.reduceMul, Nat.reduceBEq, Int.reduceLT, Int.reduceAdd, Int.reduceMul, Int.reduceSub, Int.reduceToNat, Int.reduceLE, Int.reduceEq, ↓reduceIte, reduceCtorEq, Int.reduceNeg, Nat.reduceLeDiff, Int.reduceAdd, Int.cast_ofNat_Int]) (by simp only [go_sem, Nat.reduceEqDiff, Nat.reduceLT, Nat.reduceAdd, Nat.reduceSub, Nat.reduceMul, Nat.reduceBEq, Int.reduceLT, Int.reduceAdd, Int.reduceMul, Int.reduceSub, Int.reduceToNat, Int.reduceLE, Int.reduceEq, ↓reduceIte, reduceCtorEq, Int.reduceNeg, Nat.reduceLeDiff]) (by omega) (by omega) (by rw [hW2]; rfl) (by omega)) ?_
  simp (maxSteps := 1000000) (disch := omega) only [go_sem, Nat.reduceEqDiff, Nat.reduceLT, Nat.reduceAdd, Nat.reduceSub, Nat.reduceMul, Nat.reduceBEq, Int.reduceLT, Int.reduceAdd, Int.reduceMul, Int.reduceSub, Int.reduceToNat, Int.reduceLE, Int.reduceEq, ↓reduceIte, reduceCtorEq, Int.reduceNeg, Nat.reduceLeDiff,  hb66]
  rw [acs_lp]; conv in Fr.code c45l2 => unfold c45l2
  simp (maxSteps := 1000000) (disch := omega) only [go_sem, Nat.reduceEqDiff, Nat.reduceLT, Nat.reduceAdd, Nat.reduceSub, Nat.reduceMul, Nat.reduceBEq, Int.reduceLT, Int.reduceAdd, Int.reduceMul, Int.reduceSub, Int.reduceToNat, Int.reduceLE, Int.reduceEq, ↓reduceIte, reduceCtorEq, Int.reduceNeg, Nat.reduceLeDiff,  hb66]
  refine callB_intro (g66 2 e.t2 _ _ _ (by simp only [go_sem, Nat.reduceEqDiff, Nat.reduceLT, Nat.reduceAdd, Nat.reduceSub, Nat.reduceMul, Nat.reduceBEq, Int.reduceLT, Int.reduceAdd, Int.reduceMul, Int.reduceSub, Int.reduceToNat, Int.reduceLE, Int.reduceEq, ↓reduceIte, reduceCtorEq, Int.reduceNeg, Nat.reduceLeDiff, Int.reduceAdd, Int.cast_ofNat_Int]) (by simp only [go_sem, Nat.reduceEqDiff, Nat.reduceLT, Nat.reduceAdd, Nat.reduceSub, Nat.reduceMul, Nat.reduceBEq, Int.reduceLT, Int.reduceAdd, Int.reduceMul, Int.reduceSub, Int.reduceToNat, Int.reduceLE, Int.reduceEq, ↓reduceIte, reduceCtorEq, Int.reduceNeg, Nat.reduceLeDiff]) (by omega) (by omega) (by rw [hW2]; rfl) (by omega)) ?_
  simp (maxSteps := 1000000) (disch := omega) only [go_sem, Nat.reduceEqDiff, Nat.reduceLT, Nat.reduceAdd, Nat.reduceSub, Nat.reduceMul, Nat.reduceBEq, Int.reduceLT, Int.reduceAdd, Int.reduceMul, Int.reduceSub, Int.reduceToNat, Int.reduceLE, Int.reduceEq, ↓reduceIte, reduceCtorEq, Int.reduceNeg, Nat.reduceLeDiff,  hb66]
  rw [acs_lp]; conv in Fr.code c45l2 => unfold c45l2
  simp (maxSteps := 1000000) (disch := omega) only [go_sem, Nat.reduceEqDiff, Nat.reduceLT, Nat.reduceAdd, Nat.reduceSub, Nat.reduceMul, Nat.reduceBEq, Int.reduceLT, Int.reduceAdd, Int.reduceMul, Int.reduceSub, Int.reduceToNat, Int.reduceLE, Int.reduceEq, ↓reduceIte, reduceCtorEq, Int.reduceNeg, Nat.reduceLeDiff,  hb66]
  refine callB_intro (g66 3 e.t3 _ _ _ (by simp only [go_sem, Nat.reduceEqDiff, Nat.reduceLT, Nat.reduceAdd, Nat.reduceSub, Nat.reduceMul, Nat.reduceBEq, Int.reduceLT, Int.reduceAdd, Int.reduceMul, Int.reduceSub, Int.reduceToNat, Int.reduceLE, Int.reduceEq, ↓reduceIte, reduceCtorEq, Int.reduceNeg, Nat.reduceLeDiff, Int.reduceAdd, Int.cast_ofNat_Int]) (by simp only [go_sem, Nat.reduceEqDiff, Nat.reduceLT, Nat.reduceAdd, Nat.reduceSub, Nat.reduceMul, Nat.reduceBEq, Int.reduceLT, Int.reduceAdd, Int.reduceMul, Int.reduceSub, Int.reduceToNat, Int.reduceLE, Int.reduceEq, ↓reduceIte, reduceCtorEq, Int.reduceNeg, Nat.reduceLeDiff]) (by omega) (by omega) (by rw [hW2]; rfl) (by omega)) ?_
  simp (maxSteps := 1000000) (disch := omega) only [go_sem, Nat.reduceEqDiff, Nat.reduceLT, Nat.reduceAdd, Nat.reduceSub, Nat.reduceMul, Nat.reduceBEq, Int.reduceLT, Int.reduceAdd, Int.reduceMul, Int.reduceSub, Int.reduceToNat, Int.reduceLE, Int.reduceEq, ↓reduceIte, reduceCtorEq, Int.reduceNeg, Nat.reduceLeDiff,  hb66]
  rw [acs_lp]; conv in Fr.code c45l2 => unfold c45l2
  simp (maxSteps := 1000000) (disch := omega) only [go_sem, Nat.reduceEqDiff, Nat.reduceLT, Nat.reduceAdd, Nat.reduceSub, Nat.reduceMul, Nat.reduceBEq, Int.reduceLT, Int.reduceAdd, Int.reduceMul, Int.reduceSub, Int.reduceToNat, Int.reduceLE, Int.reduceEq, ↓reduceIte, reduceCtorEq, Int.reduceNeg, Nat.reduceLeDiff,  hb66]
  rw [acs_lp]; conv in Fr.code c45l1 => unfold c45l1
  simp (maxSteps := 1000000) (disch := omega) only [go_sem, Nat.reduceEqDiff, Nat.reduceLT, Nat.reduceAdd, Nat.reduceSub, Nat.reduceMul, Nat.reduceBEq, Int.reduceLT, Int.reduceAdd, Int.reduceMul, Int.reduceSub, Int.reduceToNat, Int.reduceLE, Int.reduceEq, ↓reduceIte, reduceCtorEq, Int.reduceNeg, Nat.reduceLeDiff,  hb66]
  refine callB_intro (g66 4 u0 _ _ _ (by simp only [go_sem, Nat.reduceEqDiff, Nat.reduceLT, Nat.reduceAdd, Nat.reduceSub, Nat.reduceMul, Nat.reduceBEq, Int.reduceLT, Int.reduceAdd, Int.reduceMul, Int.reduceSub, Int.reduceToNat, Int.reduceLE, Int.reduceEq, ↓reduceIte, reduceCtorEq, Int.reduceNeg, Nat.reduceLeDiff, Int.reduceAdd, Int.cast_ofNat_Int]) (by simp only [go_sem, Nat.reduceEqDiff, Nat.reduceLT, Nat.reduceAdd, Nat.reduceSub, Nat.reduceMul, Nat.reduceBEq, Int.reduceLT, Int.reduceAdd, Int.reduceMul, Int.reduceSub, Int.reduceToNat, Int.reduceLE, Int.reduceEq, ↓reduceIte, reduceCtorEq, Int.reduceNeg, Nat.reduceLeDiff]) (by omega) (by omega) (by rw [hW2]; rfl) (by omega)) ?_
  simp (maxSteps := 1000000) (disch := omega) only [go_sem, Nat.reduceEqDiff, Nat.reduceLT, Nat.reduceAdd, Nat.reduceSub, Nat.reduceMul, Nat.reduceBEq, Int.reduceLT, Int.reduceAdd, Int.reduceMul, Int.reduceSub, Int.reduceToNat, Int.reduceLE, Int.reduceEq, ↓reduceIte, reduceCtorEq, Int.reduceNeg, Nat.reduceLeDiff,  hb66]
  refine callB_intro (g66 5 u1 _ _ _ (by simp only [go_sem, Nat.reduceEqDiff, Nat.reduceLT, Nat.reduceAdd, Nat.reduceSub, Nat.reduceMul, Nat.reduceBEq, Int.reduceLT, Int.reduceAdd, Int.reduceMul, Int.reduceSub, Int.reduceToNat, Int.reduceLE, Int.reduceEq, ↓reduceIte, reduceCtorEq, Int.reduceNeg, Nat.reduceLeDiff, Int.reduceAdd, Int.cast_ofNat_Int]) (by simp only [go_sem, Nat.reduceEqDiff, Nat.reduceLT, Nat.reduceAdd, Nat.reduceSub, Nat.reduceMul, Nat.reduceBEq, Int.reduceLT, Int.reduceAdd, Int.reduceMul, Int.reduceSub, Int.reduceToNat, Int.reduceLE, Int.reduceEq, ↓reduceIte, reduceCtorEq, Int.reduceNeg, Nat.reduceLeDiff]) (by omega) (by omega) (by rw [hW2]; rfl) (by omega)) ?_
  simp (maxSteps := 1000000) (disch := omega) only [go_sem, Nat.reduceEqDiff, Nat.reduceLT, Nat.reduceAdd, Nat.reduceSub, Nat.reduceMul, Nat.reduceBEq, Int.reduceLT, Int.reduceAdd, Int.reduceMul, Int.reduceSub, Int.reduceToNat, Int.reduceLE, Int.reduceEq, ↓reduceIte, reduceCtorEq, Int.reduceNeg, Nat.reduceLeDiff,  hb66]
  refine callB_intro (g66 6 u2 _ _ _ (by simp only [go_sem, Nat.reduceEqDiff, Nat.reduceLT, Nat.reduceAdd, Nat.reduceSub, Nat.reduceMul, Nat.reduceBEq, Int.reduceLT, Int.reduceAdd, Int.reduceMul, Int.reduceSub, Int.reduceToNat, Int.reduceLE, Int.reduceEq, ↓reduceIte, reduceCtorEq, Int.reduceNeg, Nat.reduceLeDiff, Int.reduceAdd, Int.cast_ofNat_Int]) (by simp only [go_sem, Nat.reduceEqDiff, Nat.reduceLT, Nat.reduceAdd, Nat.reduceSub, Nat.reduceMul, Nat.reduceBEq, Int.reduceLT, Int.reduceAdd, Int.reduceMul, Int.reduceSub, Int.reduceToNat, Int.reduceLE, Int.reduceEq, ↓reduceIte, reduceCtorEq, Int.reduceNeg, Nat.reduceLeDiff]) (by omega) (by omega) (by rw [hW2]; rfl) (by omega)) ?_
  simp (maxSteps := 1000000) (disch := omega) only [go_sem, Nat.reduceEqDiff, Nat.reduceLT, Nat.reduceAdd, Nat.reduceSub, Nat.reduceMul, Nat.reduceBEq, Int.reduceLT, Int.reduceAdd, Int.reduceMul, Int.reduceSub, Int.reduceToNat, Int.reduceLE, Int.reduceEq, ↓reduceIte, reduceCtorEq, Int.reduceNeg, Nat.reduceLeDiff,  hb66]
  refine callB_intro (g66 7 u3 _ _ _ (by simp only [go_sem, Nat.reduceEqDiff, Nat.reduceLT, Nat.reduceAdd, Nat.reduceSub, Nat.reduceMul, Nat.reduceBEq, Int.reduceLT, Int.reduceAdd, Int.reduceMul, Int.reduceSub, Int.reduceToNat, Int.reduceLE, Int.reduceEq, ↓reduceIte, reduceCtorEq, Int.reduceNeg, Nat.reduceLeDiff, Int.reduceAdd, Int.cast_ofNat_Int]) (by simp only [go_sem, Nat.reduceEqDiff, Nat.reduceLT, Nat.reduceAdd, Nat.reduceSub, Nat.reduceMul, Nat.reduceBEq, Int.reduceLT, Int.reduceAdd, Int.reduceMul, Int.reduceSub, Int.reduceToNat, Int.reduceLE, Int.reduceEq, ↓reduceIte, reduceCtorEq, Int.reduceNeg, Nat.reduceLeDiff]) (by omega) (by omega) (by rw [hW2]; rfl) (by omega)) ?_
  simp (maxSteps := 1000000) (disch := omega) only [go_sem, Nat.reduceEqDiff, Nat.reduceLT, Nat.reduceAdd, Nat.reduceSub, Nat.reduceMul, Nat.reduceBEq, Int.reduceLT, Int.reduceAdd, Int.reduceMul, Int.reduceSub, Int.reduceToNat, Int.reduceLE, Int.reduceEq, ↓reduceIte, reduceCtorEq, Int.reduceNeg, Nat.reduceLeDiff,  hb66]
  refine callB_intro (g66 8 u4 _ _ _ (by simp only [go_sem, Nat.reduceEqDiff, Nat.reduceLT, Nat.reduceAdd, Nat.reduceSub, Nat.reduceMul, Nat.reduceBEq, Int.reduceLT, Int.reduceAdd, Int.reduceMul, Int.reduceSub, Int.reduceToNat, Int.reduceLE, Int.reduceEq, ↓reduceIte, reduceCtorEq, Int.reduceNeg, Nat.reduceLeDiff, Int.reduceAdd, Int.cast_ofNat_Int]) (by simp only [go_sem, Nat.reduceEqDiff, Nat.reduceLT, Nat.reduceAdd, Nat.reduceSub, Nat.reduceMul, Nat.reduceBEq, Int.reduceLT, Int.reduceAdd, Int.reduceMul, Int.reduceSub, Int.reduceToNat, Int.reduceLE, Int.reduceEq, ↓reduceIte, reduceCtorEq, Int.reduceNeg, Nat.reduceLeDiff]) (by omega) (by omega) (by rw [hW2]; rfl) (by omega)) ?_
  simp (maxSteps := 1000000) (disch := omega) only [go_sem, Nat.reduceEqDiff, Nat.reduceLT, Nat.reduceAdd, Nat.reduceSub, Nat.reduceMul, Nat.reduceBEq, Int.reduceLT, Int.reduceAdd, Int.reduceMul, Int.reduceSub, Int.reduceToNat, Int.reduceLE, Int.reduceEq, ↓reduceIte, reduceCtorEq, Int.reduceNeg, Nat.reduceLeDiff,  hb66]
  refine callB_intro (g66 9 u5 _ _ _ (by simp only [go_sem, Nat.reduceEqDiff, Nat.reduceLT, Nat.reduceAdd, Nat.reduceSub, Nat.reduceMul, Nat.reduceBEq, Int.reduceLT, Int.reduceAdd, Int.reduceMul, Int.reduceSub, Int.reduceToNat, Int.reduceLE, Int.reduceEq, ↓reduceIte, reduceCtorEq, Int.reduceNeg, Nat.reduceLeDiff, Int.reduceAdd, Int.cast_ofNat_Int]) (by simp only [go_sem, Nat.reduceEqDiff, Nat.reduceLT, Nat.reduceAdd, Nat.reduceSub, Nat.reduceMul, Nat.reduceBEq, Int.reduceLT, Int.reduceAdd, Int.reduceMul, Int.reduceSub, Int.reduceToNat, Int.reduceLE, Int.reduceEq, ↓reduceIte, reduceCtorEq, Int.reduceNeg, Nat.reduceLeDiff]) (by omega) (by omega) (by rw [hW2]; rfl) (by omega)) ?_
  simp (maxSteps := 1000000) (disch := omega) only [go_sem, Nat.reduceEqDiff, Nat.reduceLT, Nat.reduceAdd, Nat.reduceSub, Nat.reduceMul, Nat.reduceBEq, Int.reduceLT, Int.reduceAdd, Int.reduceMul, Int.reduceSub, Int.reduceToNat, Int.reduceLE, Int.reduceEq, ↓reduceIte, reduceCtorEq, Int.reduceNeg, Nat.reduceLeDiff,  hb66]
  refine callB_intro (g66 10 u6 _ _ _ (by simp only [go_sem, Nat.reduceEqDiff, Nat.reduceLT, Nat.reduceAdd, Nat.reduceSub, Nat.reduceMul, Nat.reduceBEq, Int.reduceLT, Int.reduceAdd, Int.reduceMul, Int.reduceSub, Int.reduceToNat, Int.reduceLE, Int.reduceEq, ↓reduceIte, reduceCtorEq, Int.reduceNeg, Nat.reduceLeDiff, Int.reduceAdd, Int.cast_ofNat_Int]) (by simp only [go_sem, Nat.reduceEqDiff, Nat.reduceLT, Nat.reduceAdd, Nat.reduceSub, Nat.reduceMul, Nat.reduceBEq, Int.reduceLT, Int.reduceAdd, Int.reduceMul, Int.reduceSub, Int.reduceToNat, Int.reduceLE, Int.reduceEq, ↓reduceIte, reduceCtorEq, Int.reduceNeg, Nat.reduceLeDiff]) (by omega) (by omega) (by rw [hW2]; rfl) (by omega)) ?_
  simp (maxSteps := 1000000) (disch := omega) only [go_sem, Nat.reduceEqDiff, Nat.reduceLT, Nat.reduceAdd, Nat.reduceSub, Nat.reduceMul, Nat.reduceBEq, Int.reduceLT, Int.reduceAdd, Int.reduceMul, Int.reduceSub, Int.reduceToNat, Int.reduceLE, Int.reduceEq, ↓reduceIte, reduceCtorEq, Int.reduceNeg, Nat.reduceLeDiff,  hb66]
  refine callB_intro (g66 11 u7 _ _ _ (by simp only [go_sem, Nat.reduceEqDiff, Nat.reduceLT, Nat.reduceAdd, Nat.reduceSub, Nat.reduceMul, Nat.reduceBEq, Int.reduceLT, Int.reduceAdd, Int.reduceMul, Int.reduceSub, Int.reduceToNat, Int.reduceLE, Int.reduceEq, ↓reduceIte, reduceCtorEq, Int.reduceNeg, Nat.reduceLeDiff, Int.reduceAdd, Int.cast_ofNat_Int]) (by simp only [go_sem, Nat.reduceEqDiff, Nat.reduceLT, Nat.reduceAdd, Nat.reduceSub, Nat.reduceMul, Nat.reduceBEq, Int.reduceLT, Int.reduceAdd, Int.reduceMul, Int.reduceSub, Int.reduceToNat, Int.reduceLE, Int.reduceEq, ↓reduceIte, reduceCtorEq, Int.reduceNeg, Nat.reduceLeDiff]) (by omega) (by omega) (by rw [hW2]; rfl) (by omega)) ?_
  simp (maxSteps := 1000000) (disch := omega) only [go_sem, Nat.reduceEqDiff, Nat.reduceLT, Nat.reduceAdd, Nat.reduceSub, Nat.reduceMul, Nat.reduceBEq, Int.reduceLT, Int.reduceAdd, Int.reduceMul, Int.reduceSub, Int.reduceToNat, Int.reduceLE, Int.reduceEq, ↓reduceIte, reduceCtorEq, Int.reduceNeg, Nat.reduceLeDiff,  hb66]
  refine callB_intro (g66 12 u8 _ _ _ (by simp only [go_sem, Nat.reduceEqDiff, Nat.reduceLT, Nat.reduceAdd, Nat.reduceSub, Nat.reduceMul, Nat.reduceBEq, Int.reduceLT, Int.reduceAdd, Int.reduceMul, Int.reduceSub, Int.reduceToNat, Int.reduceLE, Int.reduceEq, ↓reduceIte, reduceCtorEq, Int.reduceNeg, Nat.reduceLeDiff, Int.reduceAdd, Int.cast_ofNat_Int]) (by simp only [go_sem, Nat.reduceEqDiff, Nat.reduceLT, Nat.reduceAdd, Nat.reduceSub, Nat.reduceMul, Nat.reduceBEq, Int.reduceLT, Int.reduceAdd, Int.reduceMul, Int.reduceSub, Int.reduceToNat, Int.reduceLE, Int.reduceEq, ↓reduceIte, reduceCtorEq, Int.reduceNeg, Nat.reduceLeDiff]) (by omega) (by omega) (by rw [hW2]; rfl) (by omega)) ?_
  simp (maxSteps := 1000000) (disch := omega) only [go_sem, Nat.reduceEqDiff, Nat.reduceLT, Nat.reduceAdd, Nat.reduceSub, Nat.reduceMul, Nat.reduceBEq, Int.reduceLT, Int.reduceAdd, Int.reduceMul, Int.reduceSub, Int.reduceToNat, Int.reduceLE, Int.reduceEq, ↓reduceIte, reduceCtorEq, Int.reduceNeg, Nat.reduceLeDiff,  hb66]
  rw [acs_lp]; conv in Fr.code c45l1 => unfold c45l1
  simp (maxSteps := 1000000) (disch := omega) only [go_sem, Nat.reduceEqDiff, Nat.reduceLT, Nat.reduceAdd, Nat.reduceSub, Nat.reduceMul, Nat.reduceBEq, Int.reduceLT, Int.reduceAdd, Int.reduceMul, Int.reduceSub, Int.reduceToNat, Int.reduceLE, Int.reduceEq, ↓reduceIte, reduceCtorEq, Int.reduceNeg, Nat.reduceLeDiff,  hb66]
  refine callB_intro (g66 13 v0 _ _ _ (by simp only [go_sem, Nat.reduceEqDiff, Nat.reduceLT, Nat.reduceAdd, Nat.reduceSub, Nat.reduceMul, Nat.reduceBEq, Int.reduceLT, Int.reduceAdd, Int.reduceMul, Int.reduceSub, Int.reduceToNat, Int.reduceLE, Int.reduceEq, ↓reduceIte, reduceCtorEq, Int.reduceNeg, Nat.reduceLeDiff, Int.reduceAdd, Int.cast_ofNat_Int]) (by simp only [go_sem, Nat.reduceEqDiff, Nat.reduceLT, Nat.reduceAdd, Nat.reduceSub, Nat.reduceMul, Nat.reduceBEq, Int.reduceLT, Int.reduceAdd, Int.reduceMul, Int.reduceSub, Int.reduceToNat, Int.reduceLE, Int.reduceEq, ↓reduceIte, reduceCtorEq, Int.reduceNeg, Nat.reduceLeDiff]) (by omega) (by omega) (by rw [hW2]; rfl) (by omega)) ?_
  simp (maxSteps := 1000000) (disch := omega) only [go_sem, Nat.reduceEqDiff, Nat.reduceLT, Nat.reduceAdd, Nat.reduceSub, Nat.reduceMul, Nat.reduceBEq, Int.reduceLT, Int.reduceAdd, Int.reduceMul, Int.reduceSub, Int.reduceToNat, Int.reduceLE, Int.reduceEq, ↓reduceIte, reduceCtorEq, Int.reduceNeg, Nat.reduceLeDiff,  hb66]
  refine callB_intro (g66 14 v1 _ _ _ (by simp only [go_sem, Nat.reduceEqDiff, Nat.reduceLT, Nat.reduceAdd, Nat.reduceSub, Nat.reduceMul, Nat.reduceBEq, Int.reduceLT, Int.reduceAdd, Int.reduceMul, Int.reduceSub, Int.reduceToNat, Int.reduceLE, Int.reduceEq, ↓reduceIte, reduceCtorEq, Int.reduceNeg, Nat.reduceLeDiff, Int.reduceAdd, Int.cast_ofNat_Int]) (by simp only [go_sem, Nat.reduceEqDiff, Nat.reduceLT, Nat.reduceAdd, Nat.reduceSub, Nat.reduceMul, Nat.reduceBEq, Int.reduceLT, Int.reduceAdd, Int.reduceMul, Int.reduceSub, Int.reduceToNat, Int.reduceLE, Int.reduceEq, ↓reduceIte, reduceCtorEq, Int.reduceNeg, Nat.reduceLeDiff]) (by omega) (by omega) (by rw [hW2]; rfl) (by omega)) ?_
  simp (maxSteps := 1000000) (disch := omega) only [go_sem, Nat.reduceEqDiff, Nat.reduceLT, Nat.reduceAdd, Nat.reduceSub, Nat.reduceMul, Nat.reduceBEq, Int.reduceLT, Int.reduceAdd, Int.reduceMul, Int.reduceSub, Int.reduceToNat, Int.reduceLE, Int.reduceEq, ↓reduceIte, reduceCtorEq, Int.reduceNeg, Nat.reduceLeDiff,  hb66]
  refine callB_intro (g66 15 v2 _ _ _ (by simp only [go_sem, Nat.reduceEqDiff, Nat.reduceLT, Nat.reduceAdd, Nat.reduceSub, Nat.reduceMul, Nat.reduceBEq, Int.reduceLT, Int.reduceAdd, Int.reduceMul, Int.reduceSub, Int.reduceToNat, Int.reduceLE, Int.reduceEq, ↓reduceIte, reduceCtorEq, Int.reduceNeg, Nat.reduceLeDiff, Int.reduceAdd, Int.cast_ofNat_Int]) (by simp only [go_sem, Nat.reduceEqDiff, Nat.reduceLT, Nat.reduceAdd, Nat.reduceSub, Nat.reduceMul, Nat.reduceBEq, Int.reduceLT, Int.reduceAdd, Int.reduceMul, Int.reduceSub, Int.reduceToNat, Int.reduceLE, Int.reduceEq, ↓reduceIte, reduceCtorEq, Int.reduceNeg, Nat.reduceLeDiff]) (by omega) (by omega) (by rw [hW2]; rfl) (by omega)) ?_
  simp (maxSteps := 1000000) (disch := omega) only [go_sem, Nat.reduceEqDiff, Nat.reduceLT, Nat.reduceAdd, Nat.reduceSub, Nat.reduceMul, Nat.reduceBEq, Int.reduceLT, Int.reduceAdd, Int.reduceMul, Int.reduceSub, Int.reduceToNat, Int.reduceLE, Int.reduceEq, ↓reduceIte, reduceCtorEq, Int.reduceNeg, Nat.reduceLeDiff,  hb66]
  refine callB_intro (g66 16 v3 _ _ _ (by simp only [go_sem, Nat.reduceEqDiff, Nat.reduceLT, Nat.reduceAdd, Nat.reduceSub, Nat.reduceMul, Nat.reduceBEq, Int.reduceLT, Int.reduceAdd, Int.reduceMul, Int.reduceSub, Int.reduceToNat, Int.reduceLE, Int.reduceEq, ↓reduceIte, reduceCtorEq, Int.reduceNeg, Nat.reduceLeDiff, Int.reduceAdd, Int.cast_ofNat_Int]) (by simp only [go_sem, Nat.reduceEqDiff, Nat.reduceLT, Nat.reduceAdd, Nat.reduceSub, Nat.reduceMul, Nat.reduceBEq, Int.reduceLT, Int.reduceAdd, Int.reduceMul, Int.reduceSub, Int.reduceToNat, Int.reduceLE, Int.reduceEq, ↓reduceIte, reduceCtorEq, Int.reduceNeg, Nat.reduceLeDiff]) (by omega) (by omega) (by rw [hW2]; rfl) (by omega)) ?_
  simp (maxSteps := 1000000) (disch := omega) only [go_sem, Nat.reduceEqDiff, Nat.reduceLT, Nat.reduceAdd, Nat.reduceSub, Nat.reduceMul, Nat.reduceBEq, Int.reduceLT, Int.reduceAdd, Int.reduceMul, Int.reduceSub, Int.reduceToNat, Int.reduceLE, Int.reduceEq, ↓reduceIte, reduceCtorEq, Int.reduceNeg, Nat.reduceLeDiff,  hb66]
  refine callB_intro (g66 17 v4 _ _ _ (by simp only [go_sem, Nat.reduceEqDiff, Nat.reduceLT, Nat.reduceAdd, Nat.reduceSub, Nat.reduceMul, Nat.reduceBEq, Int.reduceLT, Int.reduceAdd, Int.reduceMul, Int.reduceSub, Int.reduceToNat, Int.reduceLE, Int.reduceEq, ↓reduceIte, reduceCtorEq, Int.reduceNeg, Nat.reduceLeDiff, Int.reduceAdd, Int.cast_ofNat_Int]) (by simp only [go_sem, Nat.reduceEqDiff, Nat.reduceLT, Nat.reduceAdd, Nat.reduceSub, Nat.reduceMul, Nat.reduceBEq, Int.reduceLT, Int.reduceAdd, Int.reduceMul, Int.reduceSub, Int.reduceToNat, Int.reduceLE, Int.reduceEq, ↓reduceIte, reduceCtorEq, Int.reduceNeg, Nat.reduceLeDiff]) (by omega) (by omega) (by rw [hW2]; rfl) (by omega)) ?_
  simp (maxSteps := 1000000) (disch := omega) only [go_sem, Nat.reduceEqDiff, Nat.reduceLT, Nat.reduceAdd, Nat.reduceSub, Nat.reduceMul, Nat.reduceBEq, Int.reduceLT, Int.reduceAdd, Int.reduceMul, Int.reduceSub, Int.reduceToNat, Int.reduceLE, Int.reduceEq, ↓reduceIte, reduceCtorEq, Int.reduceNeg, Nat.reduceLeDiff,  hb66]
  refine callB_intro (g66 18 v5 _ _ _ (by simp only [go_sem, Nat.reduceEqDiff, Nat.reduceLT, Nat.reduceAdd, Nat.reduceSub, Nat.reduceMul, Nat.reduceBEq, Int.reduceLT, Int.reduceAdd, Int.reduceMul, Int.reduceSub, Int.reduceToNat, Int.reduceLE, Int.reduceEq, ↓reduceIte, reduceCtorEq, Int.reduceNeg, Nat.reduceLeDiff, Int.reduceAdd, Int.cast_ofNat_Int]) (by simp only [go_sem, Nat.reduceEqDiff, Nat.reduceLT, Nat.reduceAdd, Nat.reduceSub, Nat.reduceMul, Nat.reduceBEq, Int.reduceLT, Int.reduceAdd, Int.reduceMul, Int.reduceSub, Int.reduceToNat, Int.reduceLE, Int.reduceEq, ↓reduceIte, reduceCtorEq, Int.reduceNeg, Nat.reduceLeDiff]) (by omega) (by omega) (by rw [hW2]; rfl) (by omega)) ?_
  simp (maxSteps := 1000000) (disch := omega) only [go_sem, Nat.reduceEqDiff, Nat.reduceLT, Nat.reduceAdd, Nat.reduceSub, Nat.reduceMul, Nat.reduceBEq, Int.reduceLT, Int.reduceAdd, Int.reduceMul, Int.reduceSub, Int.reduceToNat, Int.reduceLE, Int.reduceEq, ↓reduceIte, reduceCtorEq, Int.reduceNeg, Nat.reduceLeDiff,  hb66]
  refine callB_intro (g66 19 v6 _ _ _ (by simp only [go_sem, Nat.reduceEqDiff, Nat.reduceLT, Nat.reduceAdd, Nat.reduceSub, Nat.reduceMul, Nat.reduceBEq, Int.reduceLT, Int.reduceAdd, Int.reduceMul, Int.reduceSub, Int.reduceToNat, Int.reduceLE, Int.reduceEq, ↓reduceIte, reduceCtorEq, Int.reduceNeg, Nat.reduceLeDiff, Int.reduceAdd, Int.cast_ofNat_Int]) (by simp only [go_sem, Nat.reduceEqDiff, Nat.reduceLT, Nat.reduceAdd, Nat.reduceSub, Nat.reduceMul, Nat.reduceBEq, Int.reduceLT, Int.reduceAdd, Int.reduceMul, Int.reduceSub, Int.reduceToNat, Int.reduceLE, Int.reduceEq, ↓reduceIte, reduceCtorEq, Int.reduceNeg, Nat.reduceLeDiff]) (by omega) (by omega) (by rw [hW2]; rfl) (by omega)) ?_
  simp (maxSteps := 1000000) (disch := omega) only [go_sem, Nat.reduceEqDiff, Nat.reduceLT, Nat.reduceAdd, Nat.reduceSub, Nat.reduceMul, Nat.reduceBEq, Int.reduceLT, Int.reduceAdd, Int.reduceMul, Int.reduceSub, Int.reduceToNat, Int.reduceLE, Int.reduceEq, ↓reduceIte, reduceCtorEq, Int.reduceNeg, Nat.reduceLeDiff,  hb66]
  refine callB_intro (g66 20 v7 _ _ _ (by simp only [go_sem, Nat.reduceEqDiff, Nat.reduceLT, Nat.reduceAdd, Nat.reduceSub, Nat.reduceMul, Nat.reduceBEq, Int.reduceLT, Int.reduceAdd, Int.reduceMul, Int.reduceSub, Int.reduceToNat, Int.reduceLE, Int.reduceEq, ↓reduceIte, reduceCtorEq, Int.reduceNeg, Nat.reduceLeDiff, Int.reduceAdd, Int.cast_ofNat_Int]) (by simp only [go_sem, Nat.reduceEqDiff, Nat.reduceLT, Nat.reduceAdd, Nat.reduceSub, Nat.reduceMul, Nat.reduceBEq, Int.reduceLT, Int.reduceAdd, Int.reduceMul, Int.reduceSub, Int.reduceToNat, Int.reduceLE, Int.reduceEq, ↓reduceIte, reduceCtorEq, Int.reduceNeg, Nat.reduceLeDiff]) (by omega) (by omega) (by rw [hW2]; rfl) (by omega)) ?_
  simp (maxSteps := 1000000) (disch := omega) only [go_sem, Nat.reduceEqDiff, Nat.reduceLT, Nat.reduceAdd, Nat.reduceSub, Nat.reduceMul, Nat.reduceBEq, Int.reduceLT, Int.reduceAdd, Int.reduceMul, Int.reduceSub, Int.reduceToNat, Int.reduceLE, Int.reduceEq, ↓reduceIte, reduceCtorEq, Int.reduceNeg, Nat.reduceLeDiff,  hb66]
  refine callB_intro (g66 21 v8 _ _ _ (by simp only [go_sem, Nat.reduceEqDiff, Nat.reduceLT, Nat.reduceAdd, Nat.reduceSub, Nat.reduceMul, Nat.reduceBEq, Int.reduceLT, Int.reduceAdd, Int.reduceMul, Int.reduceSub, Int.reduceToNat, Int.reduceLE, Int.reduceEq, ↓reduceIte, reduceCtorEq, Int.reduceNeg, Nat.reduceLeDiff, Int.reduceAdd, Int.cast_ofNat_Int]) (by simp only [go_sem, Nat.reduceEqDiff, Nat.reduceLT, Nat.reduceAdd, Nat.reduceSub, Nat.reduceMul, Nat.reduceBEq, Int.reduceLT, Int.reduceAdd, Int.reduceMul, Int.reduceSub, Int.reduceToNat, Int.reduceLE, Int.reduceEq, ↓reduceIte, reduceCtorEq, Int.reduceNeg, Nat.reduceLeDiff]) (by omega) (by omega) (by rw [hW2]; rfl) (by omega)) ?_
  simp (maxSteps := 1000000) (disch := omega) only [go_sem, Nat.reduceEqDiff, Nat.reduceLT, Nat.reduceAdd, Nat.reduceSub, Nat.reduceMul, Nat.reduceBEq, Int.reduceLT, Int.reduceAdd, Int.reduceMul, Int.reduceSub, Int.reduceToNat, Int.reduceLE, Int.reduceEq, ↓reduceIte, reduceCtorEq, Int.reduceNeg, Nat.reduceLeDiff,  hb66]
  rw [acs_lp]; conv in Fr.code c45l1 => unfold c45l1
  simp (maxSteps := 1000000) (disch := omega) only [go_sem, Nat.reduceEqDiff, Nat.reduceLT, Nat.reduceAdd, Nat.reduceSub, Nat.reduceMul, Nat.reduceBEq, Int.reduceLT, Int.reduceAdd, Int.reduceMul, Int.reduceSub, Int.reduceToNat, Int.reduceLE, Int.reduceEq, ↓reduceIte, reduceCtorEq, Int.reduceNeg, Nat.reduceLeDiff,  hb66]
  refine callB_intro (g66 22 w0 _ _ _ (by simp only [go_sem, Nat.reduceEqDiff, Nat.reduceLT, Nat.reduceAdd, Nat.reduceSub, Nat.reduceMul, Nat.reduceBEq, Int.reduceLT, Int.reduceAdd, Int.reduceMul, Int.reduceSub, Int.reduceToNat, Int.reduceLE, Int.reduceEq, ↓reduceIte, reduceCtorEq, Int.reduceNeg, Nat.reduceLeDiff, Int.reduceAdd, Int.cast_ofNat_Int]) (by simp only [go_sem, Nat.reduceEqDiff, Nat.reduceLT, Nat.reduceAdd, Nat.reduceSub, Nat.reduceMul, Nat.reduceBEq, Int.reduceLT, Int.reduceAdd, Int.reduceMul, Int.reduceSub, Int.reduceToNat, Int.reduceLE, Int.reduceEq, ↓reduceIte, reduceCtorEq, Int.reduceNeg, Nat.reduceLeDiff]) (by omega) (by omega) (by rw [hW2]; rfl) (by omega)) ?_
  simp (maxSteps := 1000000) (disch := omega) only [go_sem, Nat.reduceEqDiff, Nat.reduceLT, Nat.reduceAdd, Nat.reduceSub, Nat.reduceMul, Nat.reduceBEq, Int.reduceLT, Int.reduceAdd, Int.reduceMul, Int.reduceSub, Int.reduceToNat, Int.reduceLE, Int.reduceEq, ↓reduceIte, reduceCtorEq, Int.reduceNeg, Nat.reduceLeDiff,  hb66]
  refine callB_intro (g66 23 w1 _ _ _ (by simp only [go_sem, Nat.reduceEqDiff, Nat.reduceLT, Nat.reduceAdd, Nat.reduceSub, Nat.reduceMul, Nat.reduceBEq, Int.reduceLT, Int.reduceAdd, Int.reduceMul, Int.reduceSub, Int.reduceToNat, Int.reduceLE, Int.reduceEq, ↓reduceIte, reduceCtorEq, Int.reduceNeg, Nat.reduceLeDiff, Int.reduceAdd, Int.cast_ofNat_Int]) (by simp only [go_sem, Nat.reduceEqDiff, Nat.reduceLT, Nat.reduceAdd, Nat.reduceSub, Nat.reduceMul, Nat.reduceBEq, Int.reduceLT, Int.reduceAdd, Int.reduceMul, Int.reduceSub, Int.reduceToNat, Int.reduceLE, Int.reduceEq, ↓reduceIte, reduceCtorEq, Int.reduceNeg, Nat.reduceLeDiff]) (by omega) (by omega) (by rw [hW2]; rfl) (by omega)) ?_
  simp (maxSteps := 1000000) (disch := omega) only [go_sem, Nat.reduceEqDiff, Nat.reduceLT, Nat.reduceAdd, Nat.reduceSub, Nat.reduceMul, Nat.reduceBEq, Int.reduceLT, Int.reduceAdd, Int.reduceMul, Int.reduceSub, Int.reduceToNat, Int.reduceLE, Int.reduceEq, ↓reduceIte, reduceCtorEq, Int.reduceNeg, Nat.reduceLeDiff,  hb66]
  refine callB_intro (g66 24 w2 _ _ _ (by simp only [go_sem, Nat.reduceEqDiff, Nat.reduceLT, Nat.reduceAdd, Nat.reduceSub, Nat.reduceMul, Nat.reduceBEq, Int.reduceLT, Int.reduceAdd, Int.reduceMul, Int.reduceSub, Int.reduceToNat, Int.reduceLE, Int.reduceEq, ↓reduceIte, reduceCtorEq, Int.reduceNeg, Nat.reduceLeDiff, Int.reduceAdd, Int.cast_ofNat_Int]) (by simp only [go_sem, Nat.reduceEqDiff, Nat.reduceLT, Nat.reduceAdd, Nat.reduceSub, Nat.reduceMul, Nat.reduceBEq, Int.reduceLT, Int.reduceAdd, Int.reduceMul, Int.reduceSub, Int.reduceToNat, Int.reduceLE, Int.reduceEq, ↓reduceIte, reduceCtorEq, Int.reduceNeg, Nat.reduceLeDiff]) (by omega) (by omega) (by rw [hW2]; rfl) (by omega)) ?_
  simp (maxSteps := 1000000) (disch := omega) only [go_sem, Nat.reduceEqDiff, Nat.reduceLT, Nat.reduceAdd, Nat.reduceSub, Nat.reduceMul, Nat.reduceBEq, Int.reduceLT, Int.reduceAdd, Int.reduceMul, Int.reduceSub, Int.reduceToNat, Int.reduceLE, Int.reduceEq, ↓reduceIte, reduceCtorEq, Int.reduceNeg, Nat.reduceLeDiff,  hb66]
  refine callB_intro (g66 25 w3 _ _ _ (by simp only [go_sem, Nat.reduceEqDiff, Nat.reduceLT, Nat.reduceAdd, Nat.reduceSub, Nat.reduceMul, Nat.reduceBEq, Int.reduceLT, Int.reduceAdd, Int.reduceMul, Int.reduceSub, Int.reduceToNat, Int.reduceLE, Int.reduceEq, ↓reduceIte, reduceCtorEq, Int.reduceNeg, Nat.reduceLeDiff, Int.reduceAdd, Int.cast_ofNat_Int]) (by simp only [go_sem, Nat.reduceEqDiff, Nat.reduceLT, Nat.reduceAdd, Nat.reduceSub, Nat.reduceMul, Nat.reduceBEq, Int.reduceLT, Int.reduceAdd, Int.reduceMul, Int.reduceSub, Int.reduceToNat, Int.reduceLE, Int.reduceEq, ↓reduceIte, reduceCtorEq, Int.reduceNeg, Nat.reduceLeDiff]) (by omega) (by omega) (by rw [hW2]; rfl) (by omega)) ?_
  simp (maxSteps := 1000000) (disch := omega) only [go_sem, Nat.reduceEqDiff, Nat.reduceLT, Nat.reduceAdd, Nat.reduceSub, Nat.reduceMul, Nat.reduceBEq, Int.reduceLT, Int.reduceAdd, Int.reduceMul, Int.reduceSub, Int.reduceToNat, Int.reduceLE, Int.reduceEq, ↓reduceIte, reduceCtorEq, Int.reduceNeg, Nat.reduceLeDiff,  hb66]
  refine callB_intro (g66 26 w4 _ _ _ (by simp only [go_sem, Nat.reduceEqDiff, Nat.reduceLT, Nat.reduceAdd, Nat.reduceSub, Nat.reduceMul, Nat.reduceBEq, Int.reduceLT, Int.reduceAdd, Int.reduceMul, Int.reduceSub, Int.reduceToNat, Int.reduceLE, Int.reduceEq, ↓reduceIte, reduceCtorEq, Int.reduceNeg, Nat.reduceLeDiff, Int.reduceAdd, Int.cast_ofNat_Int]) (by simp only [go_sem, Nat.reduceEqDiff, Nat.reduceLT, Nat.reduceAdd, Nat.reduceSub, Nat.reduceMul, Nat.reduceBEq, Int.reduceLT, Int.reduceAdd, Int.reduceMul, Int.reduceSub, Int.reduceToNat, Int.reduceLE, Int.reduceEq, ↓reduceIte, reduceCtorEq, Int.reduceNeg, Nat.reduceLeDiff]) (by omega) (by omega) (by rw [hW2]; rfl) (by omega)) ?_
  simp (maxSteps := 1000000) (disch := omega) only [go_sem, Nat.reduceEqDiff, Nat.reduceLT, Nat.reduceAdd, Nat.reduceSub, Nat.reduceMul, Nat.reduceBEq, Int.reduceLT, Int.reduceAdd, Int.reduceMul, Int.reduceSub, Int.reduceToNat, Int.reduceLE, Int.reduceEq, ↓reduceIte, reduceCtorEq, Int.reduceNeg, Nat.reduceLeDiff,  hb66]
  refine callB_intro (g66 27 w5 _ _ _ (by simp only [go_sem, Nat.reduceEqDiff, Nat.reduceLT, Nat.reduceAdd, Nat.reduceSub, Nat.reduceMul, Nat.reduceBEq, Int.reduceLT, Int.reduceAdd, Int.reduceMul, Int.reduceSub, Int.reduceToNat, Int.reduceLE, Int.reduceEq, ↓reduceIte, reduceCtorEq, Int.reduceNeg, Nat.reduceLeDiff, Int.reduceAdd, Int.cast_ofNat_Int]) (by simp only [go_sem, Nat.reduceEqDiff, Nat.reduceLT, Nat.reduceAdd, Nat.reduceSub, Nat.reduceMul, Nat.reduceBEq, Int.reduceLT, Int.reduceAdd, Int.reduceMul, Int.reduceSub, Int.reduceToNat, Int.reduceLE, Int.reduceEq, ↓reduceIte, reduceCtorEq, Int.reduceNeg, Nat.reduceLeDiff]) (by omega) (by omega) (by rw [hW2]; rfl) (by omega)) ?_
  simp (maxSteps := 1000000) (disch := omega) only [go_sem, Nat.reduceEqDiff, Nat.reduceLT, Nat.reduceAdd, Nat.reduceSub, Nat.reduceMul, Nat.reduceBEq, Int.reduceLT, Int.reduceAdd, Int.reduceMul, Int.reduceSub, Int.reduceToNat, Int.reduceLE, Int.reduceEq, ↓reduceIte, reduceCtorEq, Int.reduceNeg, Nat.reduceLeDiff,  hb66]
  refine callB_intro (g66 28 w6 _ _ _ (by simp only [go_sem, Nat.reduceEqDiff, Nat.reduceLT, Nat.reduceAdd, Nat.reduceSub, Nat.reduceMul, Nat.reduceBEq, Int.reduceLT, Int.reduceAdd, Int.reduceMul, Int.reduceSub, Int.reduceToNat, Int.reduceLE, Int.reduceEq, ↓reduceIte, reduceCtorEq, Int.reduceNeg, Nat.reduceLeDiff, Int.reduceAdd, Int.cast_ofNat_Int]) (by simp only [go_sem, Nat.reduceEqDiff, Nat.reduceLT, Nat.reduceAdd, Nat.reduceSub, Nat.reduceMul, Nat.reduceBEq, Int.reduceLT, Int.reduceAdd, Int.reduceMul, Int.reduceSub, Int.reduceToNat, Int.reduceLE, Int.reduceEq, ↓reduceIte, reduceCtorEq, Int.reduceNeg, Nat.reduceLeDiff]) (by omega) (by omega) (by rw [hW2]; rfl) (by omega)) ?_
  simp (maxSteps := 1000000) (disch := omega) only [go_sem, Nat.reduceEqDiff, Nat.reduceLT, Nat.reduceAdd, Nat.reduceSub, Nat.reduceMul, Nat.reduceBEq, Int.reduceLT, Int.reduceAdd, Int.reduceMul, Int.reduceSub, Int.reduceToNat, Int.reduceLE, Int.reduceEq, ↓reduceIte, reduceCtorEq, Int.reduceNeg, Nat.reduceLeDiff,  hb66]
  refine callB_intro (g66 29 w7 _ _ _ (by simp only [go_sem, Nat.reduceEqDiff, Nat.reduceLT, Nat.reduceAdd, Nat.reduceSub, Nat.reduceMul, Nat.reduceBEq, Int.reduceLT, Int.reduceAdd, Int.reduceMul, Int.reduceSub, Int.reduceToNat, Int.reduceLE, Int.reduceEq, ↓reduceIte, reduceCtorEq, Int.reduceNeg, Nat.reduceLeDiff, Int.reduceAdd, Int.cast_ofNat_Int]) (by simp only [go_sem, Nat.reduceEqDiff, Nat.reduceLT, Nat.reduceAdd, Nat.reduceSub, Nat.reduceMul, Nat.reduceBEq, Int.reduceLT, Int.reduceAdd, Int.reduceMul, Int.reduceSub, Int.reduceToNat, Int.reduceLE, Int.reduceEq, ↓reduceIte, reduceCtorEq, Int.reduceNeg, Nat.reduceLeDiff]) (by omega) (by omega) (by rw [hW2]; rfl) (by omega)) ?_
  simp (maxSteps := 1000000) (disch := omega) only [go_sem, Nat.reduceEqDiff, Nat.reduceLT, Nat.reduceAdd, Nat.reduceSub, Nat.reduceMul, Nat.reduceBEq, Int.reduceLT, Int.reduceAdd, Int.reduceMul, Int.reduceSub, Int.reduceToNat, Int.reduceLE, Int.reduceEq, ↓reduceIte, reduceCtorEq, Int.reduceNeg, Nat.reduceLeDiff,  hb66]
  refine callB_intro (g66 30 w8 _ _ _ (by simp only [go_sem, Nat.reduceEqDiff, Nat.reduceLT, Nat.reduceAdd, Nat.reduceSub, Nat.reduceMul, Nat.reduceBEq, Int.reduceLT, Int.reduceAdd, Int.reduceMul, Int.reduceSub, Int.reduceToNat, Int.reduceLE, Int.reduceEq, ↓reduceIte, reduceCtorEq, Int.reduceNeg, Nat.reduceLeDiff, Int.reduceAdd, Int.cast_ofNat_Int]) (by simp only [go_sem, Nat.reduceEqDiff, Nat.reduceLT, Nat.reduceAdd, Nat.reduceSub, Nat.reduceMul, Nat.reduceBEq, Int.reduceLT, Int.reduceAdd, Int.reduceMul, Int.reduceSub, Int.reduceToNat, Int.reduceLE, Int.reduceEq, ↓reduceIte, reduceCtorEq, Int.reduceNeg, Nat.reduceLeDiff]) (by omega) (by omega) (by rw [hW2]; rfl) (by omega)) ?_
  simp (maxSteps := 1000000) (disch := omega) only [go_sem, Nat.reduceEqDiff, Nat.reduceLT, Nat.reduceAdd, Nat.reduceSub, Nat.reduceMul, Nat.reduceBEq, Int.reduceLT, Int.reduceAdd, Int.reduceMul, Int.reduceSub, Int.reduceToNat, Int.reduceLE, Int.reduceEq, ↓reduceIte, reduceCtorEq, Int.reduceNeg, Nat.reduceLeDiff,  hb66]
  rw [acs_lp]; conv in Fr.code c45l1 => unfold c45l1
  simp (maxSteps := 1000000) (disch := omega) only [go_sem, Nat.reduceEqDiff, Nat.reduceLT, Nat.reduceAdd, Nat.reduceSub, Nat.reduceMul, Nat.reduceBEq, Int.reduceLT, Int.reduceAdd, Int.reduceMul, Int.reduceSub, Int.reduceToNat, Int.reduceLE, Int.reduceEq, ↓reduceIte, reduceCtorEq, Int.reduceNeg, Nat.reduceLeDiff,  hb66]
  refine callB_intro (g66 31 e.st _ _ _ (by simp only [go_sem, Nat.reduceEqDiff, Nat.reduceLT, Nat.reduceAdd, Nat.reduceSub, Nat.reduceMul, Nat.reduceBEq, Int.reduceLT, Int.reduceAdd, Int.reduceMul, Int.reduceSub, Int.reduceToNat, Int.reduceLE, Int.reduceEq, ↓reduceIte, reduceCtorEq, Int.reduceNeg, Nat.reduceLeDiff, Int.reduceAdd, Int.cast_ofNat_Int]) (by simp only [go_sem, Nat.reduceEqDiff, Nat.reduceLT, Nat.reduceAdd, Nat.reduceSub, Nat.reduceMul, Nat.reduceBEq, Int.reduceLT, Int.reduceAdd, Int.reduceMul, Int.reduceSub, Int.reduceToNat, Int.reduceLE, Int.reduceEq, ↓reduceIte, reduceCtorEq, Int.reduceNeg, Nat.reduceLeDiff]) (by omega) (by omega) (by rw [hW2]; rfl) (by omega)) ?_
  simp (maxSteps := 1000000) (disch := omega) only [go_sem, Nat.reduceEqDiff, Nat.reduceLT, Nat.reduceAdd, Nat.reduceSub, Nat.reduceMul, Nat.reduceBEq, Int.reduceLT, Int.reduceAdd, Int.reduceMul, Int.reduceSub, Int.reduceToNat, Int.reduceLE, Int.reduceEq, ↓reduceIte, reduceCtorEq, Int.reduceNeg, Nat.reduceLeDiff,  hb66]
  refine callB_intro (g66 32 e.co _ _ _ (by simp only [go_sem, Nat.reduceEqDiff, Nat.reduceLT, Nat.reduceAdd, Nat.reduceSub, Nat.reduceMul, Nat.reduceBEq, Int.reduceLT, Int.reduceAdd, Int.reduceMul, Int.reduceSub, Int.reduceToNat, Int.reduceLE, Int.reduceEq, ↓reduceIte, reduceCtorEq, Int.reduceNeg, Nat.reduceLeDiff, Int.reduceAdd, Int.cast_ofNat_Int]) (by simp only [go_sem, Nat.reduceEqDiff, Nat.reduceLT, Nat.reduceAdd, Nat.reduceSub, Nat.reduceMul, Nat.reduceBEq, Int.reduceLT, Int.reduceAdd, Int.reduceMul, Int.reduceSub, Int.reduceToNat, Int.reduceLE, Int.reduceEq, ↓reduceIte, reduceCtorEq, Int.reduceNeg, Nat.reduceLeDiff]) (by omega) (by omega) (by rw [hW2]; rfl) (by omega)) ?_
  simp (maxSteps := 1000000) (disch := omega) only [go_sem, Nat.reduceEqDiff, Nat.reduceLT, Nat.reduceAdd, Nat.reduceSub, Nat.reduceMul, Nat.reduceBEq, Int.reduceLT, Int.reduceAdd, Int.reduceMul, Int.reduceSub, Int.reduceToNat, Int.reduceLE, Int.reduceEq, ↓reduceIte, reduceCtorEq, Int.reduceNeg, Nat.reduceLeDiff,  hb66]
  rw [acs_lp]; conv in Fr.code c45l0 => unfold c45l0
  simp (maxSteps := 1000000) (disch := omega) only [go_sem, Nat.reduceEqDiff, Nat.reduceLT, Nat.reduceAdd, Nat.reduceSub, Nat.reduceMul, Nat.reduceBEq, Int.reduceLT, Int.reduceAdd, Int.reduceMul, Int.reduceSub, Int.reduceToNat, Int.reduceLE, Int.reduceEq, ↓reduceIte, reduceCtorEq, Int.reduceNeg, Nat.reduceLeDiff,  hb66]
  refine callB_intro (g66 33 e.o0 _ _ _ (by simp only [go_sem, Nat.reduceEqDiff, Nat.reduceLT, Nat.reduceAdd, Nat.reduceSub, Nat.reduceMul, Nat.reduceBEq, Int.reduceLT, Int.reduceAdd, Int.reduceMul, Int.reduceSub, Int.reduceToNat, Int.reduceLE, Int.reduceEq, ↓reduceIte, reduceCtorEq, Int.reduceNeg, Nat.reduceLeDiff, Int.reduceAdd, Int.cast_ofNat_Int]) (by simp only [go_sem, Nat.reduceEqDiff, Nat.reduceLT, Nat.reduceAdd, Nat.reduceSub, Nat.reduceMul, Nat.reduceBEq, Int.reduceLT, Int.reduceAdd, Int.reduceMul, Int.reduceSub, Int.reduceToNat, Int.reduceLE, Int.reduceEq, ↓reduceIte, reduceCtorEq, Int.reduceNeg, Nat.reduceLeDiff]) (by omega) (by omega) (by rw [hW2]; rfl) (by omega)) ?_
  simp (maxSteps := 1000000) (disch := omega) only [go_sem, Nat.reduceEqDiff, Nat.reduceLT, Nat.reduceAdd, Nat.reduceSub, Nat.reduceMul, Nat.reduceBEq, Int.reduceLT, Int.reduceAdd, Int.reduceMul, Int.reduceSub, Int.reduceToNat, Int.reduceLE, Int.reduceEq, ↓reduceIte, reduceCtorEq, Int.reduceNeg, Nat.reduceLeDiff,  hb66]
  rw [acs_lp]; conv in Fr.code c45l0 => unfold c45l0
  simp (maxSteps := 1000000) (disch := omega) only [go_sem, Nat.reduceEqDiff, Nat.reduceLT, Nat.reduceAdd, Nat.reduceSub, Nat.reduceMul, Nat.reduceBEq, Int.reduceLT, Int.reduceAdd, Int.reduceMul, Int.reduceSub, Int.reduceToNat, Int.reduceLE, Int.reduceEq, ↓reduceIte, reduceCtorEq, Int.reduceNeg, Nat.reduceLeDiff,  hb66]
  refine callB_intro (g66 34 e.o1 _ _ _ (by simp only [go_sem, Nat.reduceEqDiff, Nat.reduceLT, Nat.reduceAdd, Nat.reduceSub, Nat.reduceMul, Nat.reduceBEq, Int.reduceLT, Int.reduceAdd, Int.reduceMul, Int.reduceSub, Int.reduceToNat, Int.reduceLE, Int.reduceEq, ↓reduceIte, reduceCtorEq, Int.reduceNeg, Nat.reduceLeDiff, Int.reduceAdd, Int.cast_ofNat_Int]) (by simp only [go_sem, Nat.reduceEqDiff, Nat.reduceLT, Nat.reduceAdd, Nat.reduceSub, Nat.reduceMul, Nat.reduceBEq, Int.reduceLT, Int.reduceAdd, Int.reduceMul, Int.reduceSub, Int.reduceToNat, Int.reduceLE, Int.reduceEq, ↓reduceIte, reduceCtorEq, Int.reduceNeg, Nat.reduceLeDiff]) (by omega) (by omega) (by rw [hW2]; rfl) (by omega)) ?_
  simp (maxSteps := 1000000) (disch := omega) only [go_sem, Nat.reduceEqDiff, Nat.reduceLT, Nat.reduceAdd, Nat.reduceSub, Nat.reduceMul, Nat.reduceBEq, Int.reduceLT, Int.reduceAdd, Int.reduceMul, Int.reduceSub, Int.reduceToNat, Int.reduceLE, Int.reduceEq, ↓reduceIte, reduceCtorEq, Int.reduceNeg, Nat.reduceLeDiff,  hb66]
  rw [acs_lp]; conv in Fr.code c45l0 => unfold c45l0
  simp (maxSteps := 1000000) (disch := omega) only [go_sem, Nat.reduceEqDiff, Nat.reduceLT, Nat.reduceAdd, Nat.reduceSub, Nat.reduceMul, Nat.reduceBEq, Int.reduceLT, Int.reduceAdd, Int.reduceMul, Int.reduceSub, Int.reduceToNat, Int.reduceLE, Int.reduceEq, ↓reduceIte, reduceCtorEq, Int.reduceNeg, Nat.reduceLeDiff,  hb66]
  refine callB_intro (g66 35 e.o2 _ _ _ (by simp only [go_sem, Nat.reduceEqDiff, Nat.reduceLT, Nat.reduceAdd, Nat.reduceSub, Nat.reduceMul, Nat.reduceBEq, Int.reduceLT, Int.reduceAdd, Int.reduceMul, Int.reduceSub, Int.reduceToNat, Int.reduceLE, Int.reduceEq, ↓reduceIte, reduceCtorEq, Int.reduceNeg, Nat.reduceLeDiff, Int.reduceAdd, Int.cast_ofNat_Int]) (by simp only [go_sem, Nat.reduceEqDiff, Nat.reduceLT, Nat.reduceAdd, Nat.reduceSub, Nat.reduceMul, Nat.reduceBEq, Int.reduceLT, Int.reduceAdd, Int.reduceMul, Int.reduceSub, Int.reduceToNat, Int.reduceLE, Int.reduceEq, ↓reduceIte, reduceCtorEq, Int.reduceNeg, Nat.reduceLeDiff]) (by omega) (by omega) (by rw [hW2]; rfl) (by omega)) ?_
  simp (maxSteps := 1000000) (disch := omega) only [go_sem, Nat.reduceEqDiff, Nat.reduceLT, Nat.reduceAdd, Nat.reduceSub, Nat.reduceMul, Nat.reduceBEq, Int.reduceLT, Int.reduceAdd, Int.reduceMul, Int.reduceSub, Int.reduceToNat, Int.reduceLE, Int.reduceEq, ↓reduceIte, reduceCtorEq, Int.reduceNeg, Nat.reduceLeDiff,  hb66]
  rw [acs_lp]; conv in Fr.code c45l0 => unfold c45l0
  simp (maxSteps := 1000000) (disch := omega) only [go_sem, Nat.reduceEqDiff, Nat.reduceLT, Nat.reduceAdd, Nat.reduceSub, Nat.reduceMul, Nat.reduceBEq, Int.reduceLT, Int.reduceAdd, Int.reduceMul, Int.reduceSub, Int.reduceToNat, Int.reduceLE, Int.reduceEq, ↓reduceIte, reduceCtorEq, Int.reduceNeg, Nat.reduceLeDiff,  hb66]
  refine callB_intro (g66 36 e.o3 _ _ _ (by simp only [go_sem, Nat.reduceEqDiff, Nat.reduceLT, Nat.reduceAdd, Nat.reduceSub, Nat.reduceMul, Nat.reduceBEq, Int.reduceLT, Int.reduceAdd, Int.reduceMul, Int.reduceSub, Int.reduceToNat, Int.reduceLE, Int.reduceEq, ↓reduceIte, reduceCtorEq, Int.reduceNeg, Nat.reduceLeDiff, Int.reduceAdd, Int.cast_ofNat_Int]) (by simp only [go_sem, Nat.reduceEqDiff, Nat.reduceLT, Nat.reduceAdd, Nat.reduceSub, Nat.reduceMul, Nat.reduceBEq, Int.reduceLT, Int.reduceAdd, Int.reduceMul, Int.reduceSub, Int.reduceToNat, Int.reduceLE, Int.reduceEq, ↓reduceIte, reduceCtorEq, Int.reduceNeg, Nat.reduceLeDiff]) (by omega) (by omega) (by rw [hW2]; rfl) (by omega)) ?_
  simp (maxSteps := 1000000) (disch := omega) only [go_sem, Nat.reduceEqDiff, Nat.reduceLT, Nat.reduceAdd, Nat.reduceSub, Nat.reduceMul, Nat.reduceBEq, Int.reduceLT, Int.reduceAdd, Int.reduceMul, Int.reduceSub, Int.reduceToNat, Int.reduceLE, Int.reduceEq, ↓reduceIte, reduceCtorEq, Int.reduceNeg, Nat.reduceLeDiff,  hb66]
  rw [acs_lp]; conv in Fr.code c45l0 => unfold c45l0
  simp (maxSteps := 1000000) (disch := omega) only [go_sem, Nat.reduceEqDiff, Nat.reduceLT, Nat.reduceAdd, Nat.reduceSub, Nat.reduceMul, Nat.reduceBEq, Int.reduceLT, Int.reduceAdd, Int.reduceMul, Int.reduceSub, Int.reduceToNat, Int.reduceLE, Int.reduceEq, ↓reduceIte, reduceCtorEq, Int.reduceNeg, Nat.reduceLeDiff,  hb66]
  refine callB_intro (g66 37 sw _ _ _ (by simp only [go_sem, Nat.reduceEqDiff, Nat.reduceLT, Nat.reduceAdd, Nat.reduceSub, Nat.reduceMul, Nat.reduceBEq, Int.reduceLT, Int.reduceAdd, Int.reduceMul, Int.reduceSub, Int.reduceToNat, Int.reduceLE, Int.reduceEq, ↓reduceIte, reduceCtorEq, Int.reduceNeg, Nat.reduceLeDiff, Int.reduceAdd, Int.cast_ofNat_Int]) (by simp only [go_sem, Nat.reduceEqDiff, Nat.reduceLT, Nat.reduceAdd, Nat.reduceSub, Nat.reduceMul, Nat.reduceBEq, Int.reduceLT, Int.reduceAdd, Int.reduceMul, Int.reduceSub, Int.reduceToNat, Int.reduceLE, Int.reduceEq, ↓reduceIte, reduceCtorEq, Int.reduceNeg, Nat.reduceLeDiff]) (by omega) (by omega) (by rw [hW2]; rfl) (by omega)) ?_
  simp (maxSteps := 1000000) (disch := omega) only [go_sem, Nat.reduceEqDiff, Nat.reduceLT, Nat.reduceAdd, Nat.reduceSub, Nat.reduceMul, Nat.reduceBEq, Int.reduceLT, Int.reduceAdd, Int.reduceMul, Int.reduceSub, Int.reduceToNat, Int.reduceLE, Int.reduceEq, ↓reduceIte, reduceCtorEq, Int.reduceNeg, Nat.reduceLeDiff,  hb66]
  have fe : Es.eqv ⟨e.t0, e.t1, e.t2, e.t3, ⟨3, 1, [u0, u1, u2], H.length + 4, 0, some 3, 3, 3, [u3, u4, u5, u4, u6, u7, u5, u7, u8], H.length + 5, 0, some 9⟩, ⟨3, 1, [v0, v1, v2], H.length + 6, 0, some 3, 3, 3, [v3, v4, v5, v4, v6, v7, v5, v7, v8], H.length + 7, 0, some 9⟩, ⟨3, 1, [w0, w1, w2], H.length + 8, 0, some 3, 3, 3, [w3, w4, w5, w4, w6, w7, w5, w7, w8], H.length + 9, 0, some 9⟩, e.st, e.co, e.o0, e.o1, e.o2, e.o3, decide (sw = 1)⟩ e := ⟨⟨rfl, rfl, rfl, rfl⟩, ⟨qa.xr.symm, qa.xc.symm, qa.xl.symm, qa.pr.symm, qa.pc.symm, qa.pl.symm⟩, ⟨qb.xr.symm, qb.xc.symm, qb.xl.symm, qb.pr.symm, qb.pc.symm, qb.pl.symm⟩, ⟨qc.xr.symm, qc.xc.symm, qc.xl.symm, qc.pr.symm, qc.pc.symm, qc.pl.symm⟩, ⟨rfl, rfl, rfl, rfl, rfl, rfl, hsat⟩⟩
  have fr := fe.est.trans he
  have okf : ∀ X : Heap, Sl i64 X (H.length + 4) 0 [u0, u1, u2] → Sl i64 X (H.length + 5) 0 [u3, u4, u5, u4, u6, u7, u5, u7, u8] → Sl i64 X (H.length + 6) 0 [v0, v1, v2] → Sl i64 X (H.length + 7) 0 [v3, v4, v5, v4, v6, v7, v5, v7, v8] → Sl i64 X (H.length + 8) 0 [w0, w1, w2] → Sl i64 X (H.length + 9) 0 [w3, w4, w5, w4, w6, w7, w5, w7, w8] → Es.ok ⟨e.t0, e.t1, e.t2, e.t3, ⟨3, 1, [u0, u1, u2], H.length + 4, 0, some 3, 3, 3, [u3, u4, u5, u4, u6, u7, u5, u7, u8], H.length + 5, 0, some 9⟩, ⟨3, 1, [v0, v1, v2], H.length + 6, 0, some 3, 3, 3, [v3, v4, v5, v4, v6, v7, v5, v7, v8], H.length + 7, 0, some 9⟩, ⟨3, 1, [w0, w1, w2], H.length + 8, 0, some 3, 3, 3, [w3, w4, w5, w4, w6, w7, w5, w7, w8], H.length + 9, 0, some 9⟩, e.st, e.co, e.o0, e.o1, e.o2, e.o3, decide (sw = 1)⟩ X := fun X s0 s1 s2 s3 s4 s5 => ⟨⟨s0, s1, by simp, by simp⟩, ⟨s2, s3, by simp, by simp⟩, ⟨s4, s5, by simp, by simp⟩⟩
  refine callB_intro (f32 (okf _ (Sl.whole (o := true) (by first | (simp only [go_sem, Nat.reduceEqDiff, Nat.reduceLT, Nat.reduceAdd, Nat.reduceSub, Nat.reduceMul, Nat.reduceBEq, Int.reduceLT, Int.reduceAdd, Int.reduceMul, Int.reduceSub, Int.reduceToNat, Int.reduceLE, Int.reduceEq, ↓reduceIte, reduceCtorEq, Int.reduceNeg, Nat.reduceLeDiff]; done) | (simp only [go_sem, Nat.reduceEqDiff, Nat.reduceLT, Nat.reduceAdd, Nat.reduceSub, Nat.reduceMul, Nat.reduceBEq, Int.reduceLT, Int.reduceAdd, Int.reduceMul, Int.reduceSub, Int.reduceToNat, Int.reduceLE, Int.reduceEq, ↓reduceIte, reduceCtorEq, Int.reduceNeg, Nat.reduceLeDiff]; rfl))) (Sl.whole (o := true) (by first | (simp only [go_sem, Nat.reduceEqDiff, Nat.reduceLT, Nat.reduceAdd, Nat.reduceSub, Nat.reduceMul, Nat.reduceBEq, Int.reduceLT, Int.reduceAdd, Int.reduceMul, Int.reduceSub, Int.reduceToNat, Int.reduceLE, Int.reduceEq, ↓reduceIte, reduceCtorEq, Int.reduceNeg, Nat.reduceLeDiff]; done) | (simp only [go_sem, Nat.reduceEqDiff, Nat.reduceLT, Nat.reduceAdd, Nat.reduceSub, Nat.reduceMul, Nat.reduceBEq, Int.reduceLT, Int.reduceAdd, Int.reduceMul, Int.reduceSub, Int.reduceToNat, Int.reduceLE, Int.reduceEq, ↓reduceIte, reduceCtorEq, Int.reduceNeg, Nat.reduceLeDiff]; rfl))) (Sl.whole (o := true) (by first | (simp only [go_sem, Nat.reduceEqDiff, Nat.reduceLT, Nat.reduceAdd, Nat.reduceSub, Nat.reduceMul, Nat.reduceBEq, Int.reduceLT, Int.reduceAdd, Int.reduceMul, Int.reduceSub, Int.reduceToNat, Int.reduceLE, Int.reduceEq, ↓reduceIte, reduceCtorEq, Int.reduceNeg, Nat.reduceLeDiff]; done) | (simp only [go_sem, Nat.reduceEqDiff, Nat.reduceLT, Nat.reduceAdd, Nat.reduceSub, Nat.reduceMul, Nat.reduceBEq, Int.reduceLT, Int.reduceAdd, Int.reduceMul, Int.reduceSub, Int.reduceToNat, Int.reduceLE, Int.reduceEq, ↓reduceIte, reduceCtorEq, Int.reduceNeg, Nat.reduceLeDiff]; rfl))) (Sl.whole (o := true) (by first | (simp only [go_sem, Nat.reduceEqDiff, Nat.reduceLT, Nat.reduceAdd, Nat.reduceSub, Nat.reduceMul, Nat.reduceBEq, Int.reduceLT, Int.reduceAdd, Int.reduceMul, Int.reduceSub, Int.reduceToNat, Int.reduceLE, Int.reduceEq, ↓reduceIte, reduceCtorEq, Int.reduceNeg, Nat.reduceLeDiff]; done) | (simp only [go_sem, Nat.reduceEqDiff, Nat.reduceLT, Nat.reduceAdd, Nat.reduceSub, Nat.reduceMul, Nat.reduceBEq, Int.reduceLT, Int.reduceAdd, Int.reduceMul, Int.reduceSub, Int.reduceToNat, Int.reduceLE, Int.reduceEq, ↓reduceIte, reduceCtorEq, Int.reduceNeg, Nat.reduceLeDiff]; rfl))) (Sl.whole (o := true) (by first | (simp only [go_sem, Nat.reduceEqDiff, Nat.reduceLT, Nat.reduceAdd, Nat.reduceSub, Nat.reduceMul, Nat.reduceBEq, Int.reduceLT, Int.reduceAdd, Int.reduceMul, Int.reduceSub, Int.reduceToNat, Int.reduceLE, Int.reduceEq, ↓reduceIte, reduceCtorEq, Int.reduceNeg, Nat.reduceLeDiff]; done) | (simp only [go_sem, Nat.reduceEqDiff, Nat.reduceLT, Nat.reduceAdd, Nat.reduceSub, Nat.reduceMul, Nat.reduceBEq, Int.reduceLT, Int.reduceAdd, Int.reduceMul, Int.reduceSub, Int.reduceToNat, Int.reduceLE, Int.reduceEq, ↓reduceIte, reduceCtorEq, Int.reduceNeg, Nat.reduceLeDiff]; rfl))) (Sl.whole (o := true) (by first | (simp only [go_sem, Nat.reduceEqDiff, Nat.reduceLT, Nat.reduceAdd, Nat.reduceSub, Nat.reduceMul, Nat.reduceBEq, Int.reduceLT, Int.reduceAdd, Int.reduceMul, Int.reduceSub, Int.reduceToNat, Int.reduceLE, Int.reduceEq, ↓reduceIte, reduceCtorEq, Int.reduceNeg, Nat.reduceLeDiff]; done) | (simp only [go_sem, Nat.reduceEqDiff, Nat.reduceLT, Nat.reduceAdd, Nat.reduceSub, Nat.reduceMul, Nat.reduceBEq, Int.reduceLT, Int.reduceAdd, Int.reduceMul, Int.reduceSub, Int.reduceToNat, Int.reduceLE, Int.reduceEq, ↓reduceIte, reduceCtorEq, Int.reduceNeg, Nat.reduceLeDiff]; rfl))))) ?_
  rw [fr]
  simp (maxSteps := 1000000) (disch := omega) only [go_sem, Nat.reduceEqDiff, Nat.reduceLT, Nat.reduceAdd, Nat.reduceSub, Nat.reduceMul, Nat.reduceBEq, Int.reduceLT, Int.reduceAdd, Int.reduceMul, Int.reduceSub, Int.reduceToNat, Int.reduceLE, Int.reduceEq, ↓reduceIte, reduceCtorEq, Int.reduceNeg, Nat.reduceLeDiff]
  refine fin_e (by simp) (by simp (maxSteps := 1000000) (disch := omega) only [resVal, resAll, resOne, rs45, Env.get, go_sem, Nat.reduceEqDiff, Nat.reduceLT, Nat.reduceAdd, Nat.reduceSub, Nat.reduceMul, Nat.reduceBEq, Int.reduceLT, Int.reduceAdd, Int.reduceMul, Int.reduceSub, Int.reduceToNat, Int.reduceLE, Int.reduceEq, ↓reduceIte, reduceCtorEq, Int.reduceNeg, Nat.reduceLeDiff, ] <;> rfl) (Ext.app _ _) ⟨_, rfl, fe, okf _ (Sl.whole (o := true) (by first | (simp only [go_sem, Nat.reduceEqDiff, Nat.reduceLT, Nat.reduceAdd, Nat.reduceSub, Nat.reduceMul, Nat.reduceBEq, Int.reduceLT, Int.reduceAdd, Int.reduceMul, Int.reduceSub, Int.reduceToNat, Int.reduceLE, Int.reduceEq, ↓reduceIte, reduceCtorEq, Int.reduceNeg, Nat.reduceLeDiff]; done) | (simp only [go_sem, Nat.reduceEqDiff, Nat.reduceLT, Nat.reduceAdd, Nat.reduceSub, Nat.reduceMul, Nat.reduceBEq, Int.reduceLT, Int.reduceAdd, Int.reduceMul, Int.reduceSub, Int.reduceToNat, Int.reduceLE, Int.reduceEq, ↓reduceIte, reduceCtorEq, Int.reduceNeg, Nat.reduceLeDiff]; rfl))) (Sl.whole (o := true) (by first | (simp only [go_sem, Nat.reduceEqDiff, Nat.reduceLT, Nat.reduceAdd, Nat.reduceSub, Nat.reduceMul, Nat.reduceBEq, Int.reduceLT, Int.reduceAdd, Int.reduceMul, Int.reduceSub, Int.reduceToNat, Int.reduceLE, Int.reduceEq, ↓reduceIte, reduceCtorEq, Int.reduceNeg, Nat.reduceLeDiff]; done) | (simp only [go_sem, Nat.reduceEqDiff, Nat.reduceLT, Nat.reduceAdd, Nat.reduceSub, Nat.reduceMul, Nat.reduceBEq, Int.reduceLT, Int.reduceAdd, Int.reduceMul, Int.reduceSub, Int.reduceToNat, Int.reduceLE, Int.reduceEq, ↓reduceIte, reduceCtorEq, Int.reduceNeg, Nat.reduceLeDiff]; rfl))) (Sl.whole (o := true) (by first | (simp only [go_sem, Nat.reduceEqDiff, Nat.reduceLT, Nat.reduceAdd, Nat.reduceSub, Nat.reduceMul, Nat.reduceBEq, Int.reduceLT, Int.reduceAdd, Int.reduceMul, Int.reduceSub, Int.reduceToNat, Int.reduceLE, Int.reduceEq, ↓reduceIte, reduceCtorEq, Int.reduceNeg, Nat.reduceLeDiff]; done) | (simp only [go_sem, Nat.reduceEqDiff, Nat.reduceLT, Nat.reduceAdd, Nat.reduceSub, Nat.reduceMul, Nat.reduceBEq, Int.reduceLT, Int.reduceAdd, Int.reduceMul, Int.reduceSub, Int.reduceToNat, Int.reduceLE, Int.reduceEq, ↓reduceIte, reduceCtorEq, Int.reduceNeg, Nat.reduceLeDiff]; rfl))) (Sl.whole (o := true) (by first | (simp only [go_sem, Nat.reduceEqDiff, Nat.reduceLT, Nat.reduceAdd, Nat.reduceSub, Nat.reduceMul, Nat.reduceBEq, Int.reduceLT, Int.reduceAdd, Int.reduceMul, Int.reduceSub, Int.reduceToNat, Int.reduceLE, Int.reduceEq, ↓reduceIte, reduceCtorEq, Int.reduceNeg, Nat.reduceLeDiff]; done) | (simp only [go_sem, Nat.reduceEqDiff, Nat.reduceLT, Nat.reduceAdd, Nat.reduceSub, Nat.reduceMul, Nat.reduceBEq, Int.reduceLT, Int.reduceAdd, Int.reduceMul, Int.reduceSub, Int.reduceToNat, Int.reduceLE, Int.reduceEq, ↓reduceIte, reduceCtorEq, Int.reduceNeg, Nat.reduceLeDiff]; rfl))) (Sl.whole (o := true) (by first | (simp only [go_sem, Nat.reduceEqDiff, Nat.reduceLT, Nat.reduceAdd, Nat.reduceSub, Nat.reduceMul, Nat.reduceBEq, Int.reduceLT, Int.reduceAdd, Int.reduceMul, Int.reduceSub, Int.reduceToNat, Int.reduceLE, Int.reduceEq, ↓reduceIte, reduceCtorEq, Int.reduceNeg, Nat.reduceLeDiff]; done) | (simp only [go_sem, Nat.reduceEqDiff, Nat.reduceLT, Nat.reduceAdd, Nat.reduceSub, Nat.reduceMul, Nat.reduceBEq, Int.reduceLT, Int.reduceAdd, Int.reduceMul, Int.reduceSub, Int.reduceToNat, Int.reduceLE, Int.reduceEq, ↓reduceIte, reduceCtorEq, Int.reduceNeg, Nat.reduceLeDiff]; rfl))) (Sl.whole (o := true) (by first | (simp only [go_sem, Nat.reduceEqDiff, Nat.reduceLT, Nat.reduceAdd, Nat.reduceSub, Nat.reduceMul, Nat.reduceBEq, Int.reduceLT, Int.reduceAdd, Int.reduceMul, Int.reduceSub, Int.reduceToNat, Int.reduceLE, Int.reduceEq, ↓reduceIte, reduceCtorEq, Int.reduceNeg, Nat.reduceLeDiff]; done) | (simp only [go_sem, Nat.reduceEqDiff, Nat.reduceLT, Nat.reduceAdd, Nat.reduceSub, Nat.reduceMul, Nat.reduceBEq, Int.reduceLT, Int.reduceAdd, Int.reduceMul, Int.reduceSub, Int.reduceToNat, Int.reduceLE, Int.reduceEq, ↓reduceIte, reduceCtorEq, Int.reduceNeg, Nat.reduceLeDiff]; rfl))), ⟨Nat.le_add_right _ _, Nat.le_add_right _ _, Nat.le_add_right _ _, Nat.le_add_right _ _, Nat.le_add_right _ _, Nat.le_add_right _ _⟩⟩

/-! Whether all parts are there. -/
def fi (f : Nat → Bool) : Nat → Nat → Int
  | _, 0 => -1
  | k, r + 1 => if f k then fi f (k + 1) r else (k : Int)
theorem fi_all (f : Nat → Bool) : ∀ (r k : Nat), (∀ j, k ≤ j → j < k + r → f j = true) → fi f k r = -1
  | 0, _, _ => rfl
  | r + 1, k, h => by
    rw [fi, if_pos (h k (by omega) (by omega))]
    exact fi_all f r (k + 1) fun j h1 h2 => h j (by omega) (by omega)
theorem fi_some (f : Nat → Bool) : ∀ (r k : Nat), (∃ j, k ≤ j ∧ j < k + r ∧ f j = false) → 0 ≤ fi f k r
  | 0, k, ⟨j, h1, h2, _⟩ => by omega
  | r + 1, k, ⟨j, h1, h2, h3⟩ => by
    rw [fi]
    split
    · rename_i hk
      refine fi_some f r (k + 1) ⟨j, ?_, by omega, h3⟩
      rcases Nat.lt_or_ge k j with h | h
      · omega
      · obtain rfl : j = k := by omega
        rw [hk] at h3; cases h3
    · omega
def c64t : SC := tl2 (tl2 c64)
theorem f64_loop {b off n : Nat} {cp : Option Nat} {cs : List AV} {o : Bool} {f : Nat → Bool} {H : Heap} (hb : blkAt H b = some ⟨cs, o⟩) (hf : ∀ j, j < n → cs[off + j]? = some (.bool (f j))) (hn : n ≤ 1000) : ∀ (r k : Nat), k + r = n →
    acs Try.prog [.lp c64l0, .blk 0, .code c64t] [(0, .sl b off n 1 cp), (1, .bool false), (7, .int .i64 (n : Int)), (8, .int .i64 (k : Int))] H (Fin H rs64 (.int .i64 (fi f k r)) H) := by
  intro r
  induction r with
  | zero =>
    intro k hk
    have hge : ¬ (k : Int) < (n : Int) := by omega
    rw [show fi f k 0 = -1 from rfl]
    rw [acs_lp]; conv in Fr.code c64l0 => unfold c64l0
    simp (maxSteps := 1000000) (disch := omega) only [go_sem, Nat.reduceEqDiff, Nat.reduceLT, Nat.reduceAdd, Nat.reduceSub, Nat.reduceMul, Nat.reduceBEq, Int.reduceLT, Int.reduceAdd, Int.reduceMul, Int.reduceSub, Int.reduceToNat, Int.reduceLE, Int.reduceEq, ↓reduceIte, reduceCtorEq, Int.reduceNeg, Nat.reduceLeDiff,  hge]
    unfold c64t c64 tl2
    simp (maxSteps := 1000000) (disch := omega) only [go_sem, Nat.reduceEqDiff, Nat.reduceLT, Nat.reduceAdd, Nat.reduceSub, Nat.reduceMul, Nat.reduceBEq, Int.reduceLT, Int.reduceAdd, Int.reduceMul, Int.reduceSub, Int.reduceToNat, Int.reduceLE, Int.reduceEq, ↓reduceIte, reduceCtorEq, Int.reduceNeg, Nat.reduceLeDiff]
    exact fin_ext (by simp) (Ext.refl _) (by simp (maxSteps := 1000000) (disch := omega) only [resVal, resAll, resOne, rs64, Env.get, go_sem, Nat.reduceEqDiff, Nat.reduceLT, Nat.reduceAdd, Nat.reduceSub, Nat.reduceMul, Nat.reduceBEq, Int.reduceLT, Int.reduceAdd, Int.reduceMul, Int.reduceSub, Int.reduceToNat, Int.reduceLE, Int.reduceEq, ↓reduceIte, reduceCtorEq, Int.reduceNeg, Nat.reduceLeDiff]) (by simp only [AV.und, AV.unds, and_self])
  | succ r ih =>
    intro k hk
    have hlt : (k : Int) < (n : Int) := by omega
    have hlt2 : k < n := by omega
    have fk := hf k hlt2
    have k1 : (k : Int) + 1 = ((k + 1 : Nat) : Int) := by omega
    have next := ih (k + 1) (by omega)
    rw [fi]
    cases hv : f k with
    | true =>
      rw [hv] at fk
      simp only [if_true]
      rw [acs_lp]; conv in Fr.code c64l0 => unfold c64l0
      simp (maxSteps := 1000000) (disch := omega) only [go_sem, Nat.reduceEqDiff, Nat.reduceLT, Nat.reduceAdd, Nat.reduceSub, Nat.reduceMul, Nat.reduceBEq, Int.reduceLT, Int.reduceAdd, Int.reduceMul, Int.reduceSub, Int.reduceToNat, Int.reduceLE, Int.reduceEq, ↓reduceIte, reduceCtorEq, Int.reduceNeg, Nat.reduceLeDiff,  hlt, hlt2, hb, fk, k1, Bool.false_eq_true]
      exact next
    | false =>
      rw [hv] at fk
      simp only [Bool.false_eq_true, if_false]
      rw [acs_lp]; conv in Fr.code c64l0 => unfold c64l0
      simp (maxSteps := 1000000) (disch := omega) only [go_sem, Nat.reduceEqDiff, Nat.reduceLT, Nat.reduceAdd, Nat.reduceSub, Nat.reduceMul, Nat.reduceBEq, Int.reduceLT, Int.reduceAdd, Int.reduceMul, Int.reduceSub, Int.reduceToNat, Int.reduceLE, Int.reduceEq, ↓reduceIte, reduceCtorEq, Int.reduceNeg, Nat.reduceLeDiff,  hlt, hlt2, hb, fk]
      exact fin_ext (by simp) (Ext.refl _) (by simp (maxSteps := 1000000) (disch := omega) only [resVal, resAll, resOne, rs64, Env.get, go_sem, Nat.reduceEqDiff, Nat.reduceLT, Nat.reduceAdd, Nat.reduceSub, Nat.reduceMul, Nat.reduceBEq, Int.reduceLT, Int.reduceAdd, Int.reduceMul, Int.reduceSub, Int.reduceToNat, Int.reduceLE, Int.reduceEq, ↓reduceIte, reduceCtorEq, Int.reduceNeg, Nat.reduceLeDiff]) (by simp only [AV.und, AV.unds, and_self])
theorem f64 {b off n : Nat} {cp : Option Nat} {cs : List AV} {o : Bool} {f : Nat → Bool} {H : Heap} (hb : blkAt H b = some ⟨cs, o⟩) (hf : ∀ j, j < n → cs[off + j]? = some (.bool (f j))) (hn : n ≤ 1000) : ACall Try.prog 64 [.sl b off n 1 cp, .bool false] H (.int .i64 (fi f 0 n)) H := by
  refine acall64 (by simp) (acs_start ?_)
  have go := f64_loop (cp := cp) hb hf hn n 0 (by omega)
  unfold c64t c64 tl2 at go
  unfold c64
  simp (maxSteps := 1000000) (disch := omega) only [go_sem, Nat.reduceEqDiff, Nat.reduceLT, Nat.reduceAdd, Nat.reduceSub, Nat.reduceMul, Nat.reduceBEq, Int.reduceLT, Int.reduceAdd, Int.reduceMul, Int.reduceSub, Int.reduceToNat, Int.reduceLE, Int.reduceEq, ↓reduceIte, reduceCtorEq, Int.reduceNeg, Nat.reduceLeDiff]
  exact go
theorem f42_yes {b off n : Nat} {cp : Option Nat} {cs : List AV} {o : Bool} {f : Nat → Bool} {H : Heap} (hb : blkAt H b = some ⟨cs, o⟩) (hf : ∀ j, j < n → cs[off + j]? = some (.bool (f j))) (hn : n ≤ 1000) (ha : ∀ j, j < n → f j = true) : ACall Try.prog 42 [.sl b off n 1 cp, .bool false] H (.bool false) H := by
  refine acall42 (by simp) (acs_start ?_)
  have g := f64 (cp := cp) hb hf hn
  rw [fi_all f n 0 (fun j _ h => ha j (by omega))] at g
  unfold c42
  simp (maxSteps := 1000000) (disch := omega) only [go_sem, Nat.reduceEqDiff, Nat.reduceLT, Nat.reduceAdd, Nat.reduceSub, Nat.reduceMul, Nat.reduceBEq, Int.reduceLT, Int.reduceAdd, Int.reduceMul, Int.reduceSub, Int.reduceToNat, Int.reduceLE, Int.reduceEq, ↓reduceIte, reduceCtorEq, Int.reduceNeg, Nat.reduceLeDiff]
  first | refine callB_intro (g) ?_ | refine callD_intro (g) ?_ | refine callP_intro (fun _ => (g)) ?_ | refine callX_pure (g) ?_
  simp (maxSteps := 1000000) (disch := omega) only [go_sem, Nat.reduceEqDiff, Nat.reduceLT, Nat.reduceAdd, Nat.reduceSub, Nat.reduceMul, Nat.reduceBEq, Int.reduceLT, Int.reduceAdd, Int.reduceMul, Int.reduceSub, Int.reduceToNat, Int.reduceLE, Int.reduceEq, ↓reduceIte, reduceCtorEq, Int.reduceNeg, Nat.reduceLeDiff]
  exact fin_ext (by simp) (Ext.refl _) (by simp (maxSteps := 1000000) (disch := omega) only [resVal, resAll, resOne, rs42, Env.get, go_sem, Nat.reduceEqDiff, Nat.reduceLT, Nat.reduceAdd, Nat.reduceSub, Nat.reduceMul, Nat.reduceBEq, Int.reduceLT, Int.reduceAdd, Int.reduceMul, Int.reduceSub, Int.reduceToNat, Int.reduceLE, Int.reduceEq, ↓reduceIte, reduceCtorEq, Int.reduceNeg, Nat.reduceLeDiff]) (by simp only [AV.und, AV.unds, and_self])
theorem f42_no {b off n : Nat} {cp : Option Nat} {cs : List AV} {o : Bool} {f : Nat → Bool} {H : Heap} (hb : blkAt H b = some ⟨cs, o⟩) (hf : ∀ j, j < n → cs[off + j]? = some (.bool (f j))) (hn : n ≤ 1000) (ha : ∃ j, j < n ∧ f j = false) : ACall Try.prog 42 [.sl b off n 1 cp, .bool false] H (.bool true) H := by
  refine acall42 (by simp) (acs_start ?_)
  have g := f64 (cp := cp) hb hf hn
  have h0 : 0 ≤ fi f 0 n := by
    obtain ⟨j, h1, h2⟩ := ha
    exact fi_some f n 0 ⟨j, by omega, by omega, h2⟩
  generalize fi f 0 n = z at *
  unfold c42
  simp (maxSteps := 1000000) (disch := omega) only [go_sem, Nat.reduceEqDiff, Nat.reduceLT, Nat.reduceAdd, Nat.reduceSub, Nat.reduceMul, Nat.reduceBEq, Int.reduceLT, Int.reduceAdd, Int.reduceMul, Int.reduceSub, Int.reduceToNat, Int.reduceLE, Int.reduceEq, ↓reduceIte, reduceCtorEq, Int.reduceNeg, Nat.reduceLeDiff]
  first | refine callB_intro (g) ?_ | refine callD_intro (g) ?_ | refine callP_intro (fun _ => (g)) ?_ | refine callX_pure (g) ?_
  simp (maxSteps := 1000000) (disch := omega) only [go_sem, Nat.reduceEqDiff, Nat.reduceLT, Nat.reduceAdd, Nat.reduceSub, Nat.reduceMul, Nat.reduceBEq, Int.reduceLT, Int.reduceAdd, Int.reduceMul, Int.reduceSub, Int.reduceToNat, Int.reduceLE, Int.reduceEq, ↓reduceIte, reduceCtorEq, Int.reduceNeg, Nat.reduceLeDiff,  h0]
  exact fin_ext (by simp) (Ext.refl _) (by simp (maxSteps := 1000000) (disch := omega) only [resVal, resAll, resOne, rs42, Env.get, go_sem, Nat.reduceEqDiff, Nat.reduceLT, Nat.reduceAdd, Nat.reduceSub, Nat.reduceMul, Nat.reduceBEq, Int.reduceLT, Int.reduceAdd, Int.reduceMul, Int.reduceSub, Int.reduceToNat, Int.reduceLE, Int.reduceEq, ↓reduceIte, reduceCtorEq, Int.reduceNeg, Nat.reduceLeDiff]) (by simp only [AV.und, AV.unds, and_self])

/-! What is done. -/
def zEs : List AV := [.int .i64 0, .int .i64 0, .int .i64 0, .int .i64 0, .int .i64 0, .int .i64 0, .nils, .int .i64 0, .int .i64 0, .nils, .int .i64 0, .int .i64 0, .nils, .int .i64 0, .int .i64 0, .nils, .int .i64 0, .int .i64 0, .nils, .int .i64 0, .int .i64 0, .nils, .int .i64 0, .int .i64 0, .int .i64 0, .int .i64 0, .int .i64 0, .int .i64 0, .bool false]
theorem f21_no {c0 c1 c2 c3 c4 c5 : Int} {s : Sn} {H : Heap} (hm : mayB c0 c1 c2 c3 c4 c5 = true) (hs : s.ok) (hk : mrkB s.a s.b s.c s.d = true) (hn : ∃ j : Nat, (j : Int) < (s.d + 7) / 8 ∧ s.h.getD j false = false) :
    ACallE Try.prog 21 [.agg [.int .i64 c0, .int .i64 c1, .int .i64 c2, .int .i64 c3, .int .i64 c4, .int .i64 c5], .agg s.av] H fun v H' => v = .tup [.agg zEs, .bool false] := by
  refine acallE (fun v Hf h => acallK21 (by simp) h) (acs_start ?_)
  have len := Sn.len hs
  have full := s.full
  have all := s.all
  have tk := Sn.tk hs
  have drp := Sn.drp hs
  have t4 : List.take 4 s.av = [.int .i64 s.a, .int .i64 s.b, .int .i64 s.c, .int .i64 s.d] := rfl
  have d39 := mrkB_d39 hk
  obtain ⟨n, hnn⟩ : ∃ n : Nat, (s.d + 7) / 8 = (n : Int) := ⟨((s.d + 7) / 8).toNat, by omega⟩
  have n5 : n ≤ 5 := by omega
  have n5' : (n : Int) ≤ 5 := by omega
  have g17 := fun (G : Heap) => f17 (a := s.a) (b := s.b) (c := s.c) (d := s.d) (H := G)
  rw [hk] at g17
  have g38 := fun (G : Heap) => f38 (a := s.a) (b := s.b) (c := s.c) (d := s.d) (H := G) d39
  rw [hnn] at g38
  unfold c21
  simp (maxSteps := 1000000) (disch := omega) only [go_sem, Nat.reduceEqDiff, Nat.reduceLT, Nat.reduceAdd, Nat.reduceSub, Nat.reduceMul, Nat.reduceBEq, Int.reduceLT, Int.reduceAdd, Int.reduceMul, Int.reduceSub, Int.reduceToNat, Int.reduceLE, Int.reduceEq, ↓reduceIte, reduceCtorEq, Int.reduceNeg, Nat.reduceLeDiff,  full, len, all, tk, drp]
  first | refine callBE (f31 hm) ?_ | refine callDE (f31 hm) ?_ | refine callXE (f31 hm) ?_
  rintro v X hx ⟨q, rfl, hq, hql⟩
  have hX : Ext H X := (Ext.app _ _).trans hx
  have b1 : blkAt X (H.length + 1) = some ⟨s.av, true⟩ := hx.blk (by simp only [go_sem, Nat.reduceEqDiff, Nat.reduceLT, Nat.reduceAdd, Nat.reduceSub, Nat.reduceMul, Nat.reduceBEq, Int.reduceLT, Int.reduceAdd, Int.reduceMul, Int.reduceSub, Int.reduceToNat, Int.reduceLE, Int.reduceEq, ↓reduceIte, reduceCtorEq, Int.reduceNeg, Nat.reduceLeDiff])
  have b2 : blkAt X (H.length + 2) = some ⟨zEs, true⟩ := hx.blk (by simp only [go_sem, Nat.reduceEqDiff, Nat.reduceLT, Nat.reduceAdd, Nat.reduceSub, Nat.reduceMul, Nat.reduceBEq, Int.reduceLT, Int.reduceAdd, Int.reduceMul, Int.reduceSub, Int.reduceToNat, Int.reduceLE, Int.reduceEq, ↓reduceIte, reduceCtorEq, Int.reduceNeg, Nat.reduceLeDiff]; rfl)
  have l1 := blkAt_lt b1
  have l2 := blkAt_lt b2
  have g42 := fun (cp : Option Nat) => f42_no (b := H.length + 1) (off := 4) (n := n) (cp := cp) (cs := s.av) (o := true) (f := fun j => s.h.getD j false) (H := X) b1 (fun j hj => Sn.has hs (by omega)) (by omega) (by
    obtain ⟨j, h1, h2⟩ := hn
    exact ⟨j, by omega, h2⟩)
  simp (maxSteps := 1000000) (disch := omega) only [go_sem, Nat.reduceEqDiff, Nat.reduceLT, Nat.reduceAdd, Nat.reduceSub, Nat.reduceMul, Nat.reduceBEq, Int.reduceLT, Int.reduceAdd, Int.reduceMul, Int.reduceSub, Int.reduceToNat, Int.reduceLE, Int.reduceEq, ↓reduceIte, reduceCtorEq, Int.reduceNeg, Nat.reduceLeDiff,  b1, l1, len, t4, blkAt_lo]
  first | refine callB_intro (g17 _) ?_ | refine callD_intro (g17 _) ?_ | refine callP_intro (fun _ => (g17 _)) ?_ | refine callX_pure (g17 _) ?_
  simp (maxSteps := 1000000) (disch := omega) only [go_sem, Nat.reduceEqDiff, Nat.reduceLT, Nat.reduceAdd, Nat.reduceSub, Nat.reduceMul, Nat.reduceBEq, Int.reduceLT, Int.reduceAdd, Int.reduceMul, Int.reduceSub, Int.reduceToNat, Int.reduceLE, Int.reduceEq, ↓reduceIte, reduceCtorEq, Int.reduceNeg, Nat.reduceLeDiff,  b1, l1, len, t4, blkAt_lo]
  first | refine callB_intro (g38 _) ?_ | refine callD_intro (g38 _) ?_ | refine callP_intro (fun _ => (g38 _)) ?_ | refine callX_pure (g38 _) ?_
  simp (maxSteps := 1000000) (disch := omega) only [go_sem, Nat.reduceEqDiff, Nat.reduceLT, Nat.reduceAdd, Nat.reduceSub, Nat.reduceMul, Nat.reduceBEq, Int.reduceLT, Int.reduceAdd, Int.reduceMul, Int.reduceSub, Int.reduceToNat, Int.reduceLE, Int.reduceEq, ↓reduceIte, reduceCtorEq, Int.reduceNeg, Nat.reduceLeDiff,  b1, l1, len, t4, blkAt_lo, n5, n5']
  first | refine callB_intro (g42 _) ?_ | refine callD_intro (g42 _) ?_ | refine callP_intro (fun _ => (g42 _)) ?_ | refine callX_pure (g42 _) ?_
  have z29 : zEs.length = 29 := rfl
  have zd : List.drop 29 zEs = [] := rfl
  simp (maxSteps := 1000000) (disch := omega) only [go_sem, Nat.reduceEqDiff, Nat.reduceLT, Nat.reduceAdd, Nat.reduceSub, Nat.reduceMul, Nat.reduceBEq, Int.reduceLT, Int.reduceAdd, Int.reduceMul, Int.reduceSub, Int.reduceToNat, Int.reduceLE, Int.reduceEq, ↓reduceIte, reduceCtorEq, Int.reduceNeg, Nat.reduceLeDiff,  b1, l1, b2, l2, z29, zd]
  refine fin_e (by simp) (by simp (maxSteps := 1000000) (disch := omega) only [resVal, resAll, resOne, rs21, Env.get, go_sem, Nat.reduceEqDiff, Nat.reduceLT, Nat.reduceAdd, Nat.reduceSub, Nat.reduceMul, Nat.reduceBEq, Int.reduceLT, Int.reduceAdd, Int.reduceMul, Int.reduceSub, Int.reduceToNat, Int.reduceLE, Int.reduceEq, ↓reduceIte, reduceCtorEq, Int.reduceNeg, Nat.reduceLeDiff, blkAt_set_self l2] <;> rfl) (hX.set (by omega) _) rfl

/-! What is done, when all is there. -/
theorem pc_chunks {p D : List Int} {n : Nat} (hl : p.length = 40) (hn : n ≤ 5) (h : ∀ j, j < n → chunk p j = row8 D j) : p.take (8 * n) = pc D n := by
  apply List.ext_getElem?
  intro i
  by_cases hi : i < 8 * n
  · rw [List.getElem?_take_of_lt hi, pc_get D hi]
    have hj : i / 8 < n := by omega
    have h1 : (chunk p (i / 8))[i % 8]? = (row8 D (i / 8))[i % 8]? := by rw [h _ hj]
    unfold chunk row8 at h1
    rw [List.getElem?_take_of_lt (by omega), List.getElem?_drop, List.getElem?_map, List.getElem?_range (by omega)] at h1
    rw [show i / 8 * 8 + i % 8 = i by omega] at h1
    rw [h1]
    simp only [Option.map_some]
    rw [show 8 * (i / 8) + i % 8 = i by omega]
  · rw [List.getElem?_eq_none (by rw [List.length_take]; omega), List.getElem?_eq_none (by rw [pc_len]; omega)]
theorem pc_zero {D : List Int} {n : Nat} : ∀ z ∈ (pc D n).drop D.length, z = 0 := by
  intro z hz
  obtain ⟨i, hi⟩ := List.mem_iff_getElem?.1 hz
  rw [List.getElem?_drop] at hi
  rcases Nat.lt_or_ge (D.length + i) (8 * n) with h | h
  · rw [pc_get D h] at hi
    have : D.getD (D.length + i) 0 = 0 := by simp [List.getD]
    rw [this] at hi
    exact (Option.some.inj hi).symm
  · rw [List.getElem?_eq_none (by rw [pc_len]; omega)] at hi
    cases hi
theorem pc_row {D : List Int} {n : Nat} (h : D.length ≤ 8 * n) : (pc D n).take D.length = D := by
  apply List.ext_getElem?
  intro i
  by_cases hi : i < D.length
  · rw [List.getElem?_take_of_lt hi, pc_get D (by omega)]
    simp [List.getD, List.getElem?_eq_getElem hi]
  · rw [List.getElem?_eq_none (by rw [List.length_take]; omega), List.getElem?_eq_none (by omega)]
theorem Sn.parts {s : Sn} (h : s.ok) {D : List Int} {n : Nat} (hn : n ≤ 5) (hc : ∀ j, j < n → chunk s.p j = row8 D j) : (s.av.drop 9).take (8 * n) = (pc D n).map (AV.int .i64) := by
  unfold Sn.av
  have hl : (s.h.map AV.bool).length = 5 := by simp [h.h]
  rw [show (9 : Nat) = 5 + 1 + 1 + 1 + 1 from rfl]
  simp only [List.drop_succ_cons]
  rw [← hl, List.drop_left, ← List.map_take, pc_chunks h.p hn hc]
theorem f21_yes {c0 c1 c2 c3 c4 c5 : Int} {e : Es} {s : Sn} {n : Nat} {H : Heap} (hm : mayB c0 c1 c2 c3 c4 c5 = true) (he : estB e = true) (hs : s.ok) (hk : mrkB s.a s.b s.c s.d = true) (hd : s.d = ((dlt e).length : Int)) (hn : ((dlt e).length + 7) / 8 = n) (hh : ∀ j, j < n → s.h.getD j false = true) (hc : ∀ j, j < n → chunk s.p j = row8 (dlt e) j) :
    ACallE Try.prog 21 [.agg [.int .i64 c0, .int .i64 c1, .int .i64 c2, .int .i64 c3, .int .i64 c4, .int .i64 c5], .agg s.av] H fun v H' => ∃ f : Es, v = .tup [.agg f.av, .bool true] ∧ f.eqv e ∧ f.ok H' := by
  refine acallE (fun v Hf h => acallK21 (by simp) h) (acs_start ?_)
  have len := Sn.len hs
  have full := s.full
  have all := s.all
  have tk := Sn.tk hs
  have drp := Sn.drp hs
  have t4 : List.take 4 s.av = [.int .i64 s.a, .int .i64 s.b, .int .i64 s.c, .int .i64 s.d] := rfl
  have z3 : s.av[3]? = some (.int .i64 s.d) := rfl
  have d39 := mrkB_d39 hk
  obtain ⟨D0, D1⟩ := dlt_len he
  have hnn : (s.d + 7) / 8 = (n : Int) := by omega
  have n5 : n ≤ 5 := by omega
  have n5' : (n : Int) ≤ 5 := by omega
  have n0 : 0 < n := by omega
  have hp := Sn.parts hs n5 hc
  have g17 := fun (G : Heap) => f17 (a := s.a) (b := s.b) (c := s.c) (d := s.d) (H := G)
  rw [hk] at g17
  have g38 := fun (G : Heap) => f38 (a := s.a) (b := s.b) (c := s.c) (d := s.d) (H := G) d39
  rw [hnn] at g38
  have lw := wds_len he
  have ad : aspec w0 (dlt e) = (wds e, 0) := aspec_diff (by rw [lw]; rfl) (by decide)
  unfold c21
  simp (maxSteps := 1000000) (disch := omega) only [go_sem, Nat.reduceEqDiff, Nat.reduceLT, Nat.reduceAdd, Nat.reduceSub, Nat.reduceMul, Nat.reduceBEq, Int.reduceLT, Int.reduceAdd, Int.reduceMul, Int.reduceSub, Int.reduceToNat, Int.reduceLE, Int.reduceEq, ↓reduceIte, reduceCtorEq, Int.reduceNeg, Nat.reduceLeDiff,  full, len, all, tk, drp]
  first | refine callBE (f31 hm) ?_ | refine callDE (f31 hm) ?_ | refine callXE (f31 hm) ?_
  rintro v X hx ⟨q, rfl, hq, hql⟩
  have hX : Ext H X := (Ext.app _ _).trans hx
  have b1 : blkAt X (H.length + 1) = some ⟨s.av, true⟩ := hx.blk (by simp only [go_sem, Nat.reduceEqDiff, Nat.reduceLT, Nat.reduceAdd, Nat.reduceSub, Nat.reduceMul, Nat.reduceBEq, Int.reduceLT, Int.reduceAdd, Int.reduceMul, Int.reduceSub, Int.reduceToNat, Int.reduceLE, Int.reduceEq, ↓reduceIte, reduceCtorEq, Int.reduceNeg, Nat.reduceLeDiff])
  have b2 : blkAt X (H.length + 2) = some ⟨zEs, true⟩ := hx.blk (by simp only [go_sem, Nat.reduceEqDiff, Nat.reduceLT, Nat.reduceAdd, Nat.reduceSub, Nat.reduceMul, Nat.reduceBEq, Int.reduceLT, Int.reduceAdd, Int.reduceMul, Int.reduceSub, Int.reduceToNat, Int.reduceLE, Int.reduceEq, ↓reduceIte, reduceCtorEq, Int.reduceNeg, Nat.reduceLeDiff]; rfl)
  have l1 := blkAt_lt b1
  have l2 := blkAt_lt b2
  have g42 := fun (cp : Option Nat) => f42_yes (b := H.length + 1) (off := 4) (n := n) (cp := cp) (cs := s.av) (o := true) (f := fun j => s.h.getD j false) (H := X) b1 (fun j hj => Sn.has hs (by omega)) (by omega) hh
  have g43 := fun (cp : Option Nat) => f43 (H := X) (ws := pc (dlt e) n) (K := n) (p := H.length + 1) (N := (dlt e).length) (off := 9) (cs := s.av) (cp := cp) (o := true) b1 hp (pc_len _ _) (by omega) hn D0 pc_zero
  rw [← hd, pc_row (by omega)] at g43
  simp (maxSteps := 1000000) (disch := omega) only [go_sem, Nat.reduceEqDiff, Nat.reduceLT, Nat.reduceAdd, Nat.reduceSub, Nat.reduceMul, Nat.reduceBEq, Int.reduceLT, Int.reduceAdd, Int.reduceMul, Int.reduceSub, Int.reduceToNat, Int.reduceLE, Int.reduceEq, ↓reduceIte, reduceCtorEq, Int.reduceNeg, Nat.reduceLeDiff,  b1, l1, len, t4, blkAt_lo]
  first | refine callB_intro (g17 _) ?_ | refine callD_intro (g17 _) ?_ | refine callP_intro (fun _ => (g17 _)) ?_ | refine callX_pure (g17 _) ?_
  simp (maxSteps := 1000000) (disch := omega) only [go_sem, Nat.reduceEqDiff, Nat.reduceLT, Nat.reduceAdd, Nat.reduceSub, Nat.reduceMul, Nat.reduceBEq, Int.reduceLT, Int.reduceAdd, Int.reduceMul, Int.reduceSub, Int.reduceToNat, Int.reduceLE, Int.reduceEq, ↓reduceIte, reduceCtorEq, Int.reduceNeg, Nat.reduceLeDiff,  b1, l1, len, t4, blkAt_lo]
  first | refine callB_intro (g38 _) ?_ | refine callD_intro (g38 _) ?_ | refine callP_intro (fun _ => (g38 _)) ?_ | refine callX_pure (g38 _) ?_
  simp (maxSteps := 1000000) (disch := omega) only [go_sem, Nat.reduceEqDiff, Nat.reduceLT, Nat.reduceAdd, Nat.reduceSub, Nat.reduceMul, Nat.reduceBEq, Int.reduceLT, Int.reduceAdd, Int.reduceMul, Int.reduceSub, Int.reduceToNat, Int.reduceLE, Int.reduceEq, ↓reduceIte, reduceCtorEq, Int.reduceNeg, Nat.reduceLeDiff,  b1, l1, len, t4, blkAt_lo, n5, n5']
  first | refine callB_intro (g42 _) ?_ | refine callD_intro (g42 _) ?_ | refine callP_intro (fun _ => (g42 _)) ?_ | refine callX_pure (g42 _) ?_
  simp (maxSteps := 1000000) (disch := omega) only [go_sem, Nat.reduceEqDiff, Nat.reduceLT, Nat.reduceAdd, Nat.reduceSub, Nat.reduceMul, Nat.reduceBEq, Int.reduceLT, Int.reduceAdd, Int.reduceMul, Int.reduceSub, Int.reduceToNat, Int.reduceLE, Int.reduceEq, ↓reduceIte, reduceCtorEq, Int.reduceNeg, Nat.reduceLeDiff,  b1, l1, len, t4, z3, blkAt_lo, n5, n5']
  first | refine callBE (g43 _) ?_ | refine callDE (g43 _) ?_ | refine callXE (g43 _) ?_
  rintro v Y hy ⟨w, rfl, r, off, cp, rfl, hr⟩
  have c1 := hy.blk b1
  have c2 := hy.blk b2
  have hqY := hy.blk hq
  simp (maxSteps := 1000000) (disch := omega) only [go_sem, Nat.reduceEqDiff, Nat.reduceLT, Nat.reduceAdd, Nat.reduceSub, Nat.reduceMul, Nat.reduceBEq, Int.reduceLT, Int.reduceAdd, Int.reduceMul, Int.reduceSub, Int.reduceToNat, Int.reduceLE, Int.reduceEq, ↓reduceIte, reduceCtorEq, Int.reduceNeg, Nat.reduceLeDiff,  c1, c2, len]
  have g44 := f44_any (c1 := none) (c2 := cp) (Sl.whole (o := true) hqY) hr (by omega) (by rw [w0_len]; omega)
  rw [ad, w0_len] at g44
  unfold rowres rowheap at g44
  simp only [lw] at g44
  first | refine callB_intro (g44) ?_ | refine callD_intro (g44) ?_ | refine callP_intro (fun _ => (g44)) ?_ | refine callX_pure (g44) ?_
  simp (maxSteps := 1000000) (disch := omega) only [go_sem, Nat.reduceEqDiff, Nat.reduceLT, Nat.reduceAdd, Nat.reduceSub, Nat.reduceMul, Nat.reduceBEq, Int.reduceLT, Int.reduceAdd, Int.reduceMul, Int.reduceSub, Int.reduceToNat, Int.reduceLE, Int.reduceEq, ↓reduceIte, reduceCtorEq, Int.reduceNeg, Nat.reduceLeDiff,  c1, c2, len]
  have l3 := blkAt_lt c2
  first | refine callBE (f45 he rfl (Sl.whole (o := false) (by rw [blkAt_app0]; rfl))) ?_ | refine callDE (f45 he rfl (Sl.whole (o := false) (by rw [blkAt_app0]; rfl))) ?_ | refine callXE (f45 he rfl (Sl.whole (o := false) (by rw [blkAt_app0]; rfl))) ?_
  rintro v Z hz ⟨f, rfl, hf, hfo, hff⟩
  have fullF : (AV.agg f.av).full = true := rfl
  have lenF : f.av.length = 29 := rfl
  have allF : f.av.all AV.cell = true := rfl
  have tkF : List.take 29 f.av = f.av := rfl
  have drpF : List.drop 29 f.av = [] := rfl
  have hYZ : Ext Y Z := (Ext.app _ _).trans hz
  have d2 := hYZ.blk c2
  have l4 := blkAt_lt d2
  have z29 : zEs.length = 29 := rfl
  have zd : List.drop 29 zEs = [] := rfl
  simp (maxSteps := 1000000) (disch := omega) only [go_sem, Nat.reduceEqDiff, Nat.reduceLT, Nat.reduceAdd, Nat.reduceSub, Nat.reduceMul, Nat.reduceBEq, Int.reduceLT, Int.reduceAdd, Int.reduceMul, Int.reduceSub, Int.reduceToNat, Int.reduceLE, Int.reduceEq, ↓reduceIte, reduceCtorEq, Int.reduceNeg, Nat.reduceLeDiff,  d2, l4, fullF, lenF, allF, tkF, drpF, z29, zd, blkAt_lo, set_lo]
  rw [List.length_append] at hff
  have lYX := hy.len
  refine fin_e (by simp) (by simp (maxSteps := 1000000) (disch := omega) only [resVal, resAll, resOne, rs21, Env.get, go_sem, Nat.reduceEqDiff, Nat.reduceLT, Nat.reduceAdd, Nat.reduceSub, Nat.reduceMul, Nat.reduceBEq, Int.reduceLT, Int.reduceAdd, Int.reduceMul, Int.reduceSub, Int.reduceToNat, Int.reduceLE, Int.reduceEq, ↓reduceIte, reduceCtorEq, Int.reduceNeg, Nat.reduceLeDiff, blkAt_set_self l4, blkAt_los] <;> rfl) ((((hX.trans hy).trans hYZ).set (b := H.length + 2) (by omega) _).to _) ⟨f, rfl, hf, (hfo.setF (b := H.length + 2) hff (by omega) _).app _⟩

/-! Parts that come: what is there. -/
theorem row8_len (D : List Int) (k : Nat) : (row8 D k).length = 8 := by simp [row8]
theorem pc_row8 (D : List Int) {n k : Nat} (hk : k < n) : List.take 8 (List.drop (k * 8) ((pc D n).map (AV.int .i64))) = (row8 D k).map (AV.int .i64) := by
  rw [← List.map_drop, ← List.map_take]
  congr 1
  apply List.ext_getElem?
  intro i
  by_cases hi : i < 8
  · rw [List.getElem?_take_of_lt hi, List.getElem?_drop, pc_get D (by omega)]
    unfold row8
    rw [List.getElem?_map, List.getElem?_range hi]
    simp only [Option.map_some]
    rw [show k * 8 + i = 8 * k + i by omega]
  · rw [List.getElem?_eq_none (by rw [List.length_take]; omega), List.getElem?_eq_none (by rw [row8_len]; omega)]
structure Got (a b c : Int) (D : List Int) (n : Nat) (A : Nat → Bool) (s : Sn) : Prop where
  ok : s.ok
  mrk : ((∀ j, j < n → A j = false) ∧ s = Sn.new 0 0 0 0) ∨ (s.a = a ∧ s.b = b ∧ s.c = c ∧ s.d = (D.length : Int))
  has : ∀ j, j < 5 → s.h.getD j false = A j
  part : ∀ j, j < n → A j = true → chunk s.p j = row8 D j
theorem Got.zero (a b c : Int) (D : List Int) (n : Nat) : Got a b c D n (fun _ => false) (Sn.new 0 0 0 0) :=
  ⟨Sn.new_ok _ _ _ _, .inl ⟨fun _ _ => rfl, rfl⟩, fun j _ => Sn.new_has 0 0 0 0 j, fun _ _ h => by cases h⟩
theorem mrkB_c0 {a b c d : Int} (h : mrkB a b c d = true) : 0 ≤ c := by
  unfold mrkB okM at h
  simp only [Bool.and_eq_true, decide_eq_true_eq] at h
  exact h.1.2.1
theorem Got.put {a b c : Int} {D : List Int} {n : Nat} {A : Nat → Bool} {s : Sn} (h : s.ok) (hn5 : n ≤ 5) {i : Nat} (hi : i < n) (ha : s.a = a ∧ s.b = b ∧ s.c = c ∧ s.d = (D.length : Int)) (hh : ∀ j, j < 5 → s.h.getD j false = A j) (hp : ∀ j, j < n → A j = true → chunk s.p j = row8 D j) :
    Got a b c D n (fun j => A j || decide (j = i)) (s.put i (row8 D i)) := by
  refine ⟨Sn.put_ok h (by omega) (row8_len D i), .inr ha, fun j hj => ?_, fun j hj hA => ?_⟩
  · rw [put_has h hj (by omega), hh j hj]
    by_cases e : j = i
    · simp [e]
    · simp [e]
  · have e1 : chunk (s.put i (row8 D i)).p j = if j = i then row8 D i else chunk s.p j := chunk_put h.p (row8_len D i) (by omega) (by omega)
    rw [e1]
    by_cases e : j = i
    · rw [if_pos e, e]
    · rw [if_neg e]
      exact hp j hj (by simpa [e] using hA)
theorem Got.step {a b c : Int} {D : List Int} {n : Nat} {A : Nat → Bool} {s : Sn} (h : Got a b c D n A s) (hm : mrkB a b c (D.length : Int) = true) (hn : (D.length + 7) / 8 = n) {i : Nat} (hi : i < n) :
    Got a b c D n (fun j => A j || decide (j = i)) (takeS s a b c (D.length : Int) (i : Int) (row8 D i)) := by
  have d39 := mrkB_d39 hm
  have c0 := mrkB_c0 hm
  have n5 : n ≤ 5 := by omega
  unfold takeS
  rw [if_pos ⟨hm, by omega, by omega⟩, Int.toNat_natCast]
  rcases h.mrk with ⟨h1, h2⟩ | h1
  · have z : s.a = 0 ∧ s.b = 0 ∧ s.c = 0 ∧ s.d = 0 := by rw [h2]; exact ⟨rfl, rfl, rfl, rfl⟩
    obtain ⟨z1, z2, z3, z4⟩ := z
    rw [if_neg (by rw [z4]; omega), if_neg (by rw [z3]; omega)]
    have hA : ∀ j, j < 5 → A j = false := fun j hj => by rw [← h.has j hj, h2]; exact Sn.new_has 0 0 0 0 j
    refine Got.put (Sn.new_ok _ _ _ _) n5 hi ⟨rfl, rfl, rfl, rfl⟩ (fun j hj => ?_) (fun j hj hj2 => ?_)
    · rw [Sn.new_has, hA j hj]
    · rw [hA j (by omega)] at hj2; cases hj2
  · obtain ⟨z1, z2, z3, z4⟩ := h1
    rw [if_pos ⟨z1.symm, z2.symm, z3.symm, z4.symm⟩]
    exact Got.put h.ok n5 hi ⟨z1, z2, z3, z4⟩ h.has h.part
theorem Got.congr {a b c : Int} {D : List Int} {n : Nat} {A B : Nat → Bool} {s : Sn} (h : Got a b c D n A s) (hAB : ∀ j, A j = B j) : Got a b c D n B s := by
  have : A = B := funext hAB
  rw [← this]
  exact h
theorem f21_bad {c0 c1 c2 c3 c4 c5 : Int} {s : Sn} {H : Heap} (hm : mayB c0 c1 c2 c3 c4 c5 = true) (hs : s.ok) (hk : mrkB s.a s.b s.c s.d = false) :
    ACallE Try.prog 21 [.agg [.int .i64 c0, .int .i64 c1, .int .i64 c2, .int .i64 c3, .int .i64 c4, .int .i64 c5], .agg s.av] H fun v H' => v = .tup [.agg zEs, .bool false] := by
  refine acallE (fun v Hf h => acallK21 (by simp) h) (acs_start ?_)
  have len := Sn.len hs
  have full := s.full
  have all := s.all
  have tk := Sn.tk hs
  have drp := Sn.drp hs
  have t4 : List.take 4 s.av = [.int .i64 s.a, .int .i64 s.b, .int .i64 s.c, .int .i64 s.d] := rfl
  have g17 := fun (G : Heap) => f17 (a := s.a) (b := s.b) (c := s.c) (d := s.d) (H := G)
  rw [hk] at g17
  unfold c21
  simp (maxSteps := 1000000) (disch := omega) only [go_sem, Nat.reduceEqDiff, Nat.reduceLT, Nat.reduceAdd, Nat.reduceSub, Nat.reduceMul, Nat.reduceBEq, Int.reduceLT, Int.reduceAdd, Int.reduceMul, Int.reduceSub, Int.reduceToNat, Int.reduceLE, Int.reduceEq, ↓reduceIte, reduceCtorEq, Int.reduceNeg, Nat.reduceLeDiff,  full, len, all, tk, drp]
  first | refine callBE (f31 hm) ?_ | refine callDE (f31 hm) ?_ | refine callXE (f31 hm) ?_
  rintro v X hx ⟨q, rfl, hq, hql⟩
  have hX : Ext H X := (Ext.app _ _).trans hx
  have b1 : blkAt X (H.length + 1) = some ⟨s.av, true⟩ := hx.blk (by simp only [go_sem, Nat.reduceEqDiff, Nat.reduceLT, Nat.reduceAdd, Nat.reduceSub, Nat.reduceMul, Nat.reduceBEq, Int.reduceLT, Int.reduceAdd, Int.reduceMul, Int.reduceSub, Int.reduceToNat, Int.reduceLE, Int.reduceEq, ↓reduceIte, reduceCtorEq, Int.reduceNeg, Nat.reduceLeDiff])
  have b2 : blkAt X (H.length + 2) = some ⟨zEs, true⟩ := hx.blk (by simp only [go_sem, Nat.reduceEqDiff, Nat.reduceLT, Nat.reduceAdd, Nat.reduceSub, Nat.reduceMul, Nat.reduceBEq, Int.reduceLT, Int.reduceAdd, Int.reduceMul, Int.reduceSub, Int.reduceToNat, Int.reduceLE, Int.reduceEq, ↓reduceIte, reduceCtorEq, Int.reduceNeg, Nat.reduceLeDiff]; rfl)
  have l1 := blkAt_lt b1
  have l2 := blkAt_lt b2
  simp (maxSteps := 1000000) (disch := omega) only [go_sem, Nat.reduceEqDiff, Nat.reduceLT, Nat.reduceAdd, Nat.reduceSub, Nat.reduceMul, Nat.reduceBEq, Int.reduceLT, Int.reduceAdd, Int.reduceMul, Int.reduceSub, Int.reduceToNat, Int.reduceLE, Int.reduceEq, ↓reduceIte, reduceCtorEq, Int.reduceNeg, Nat.reduceLeDiff,  b1, l1, len, t4, blkAt_lo]
  first | refine callB_intro (g17 _) ?_ | refine callD_intro (g17 _) ?_ | refine callP_intro (fun _ => (g17 _)) ?_ | refine callX_pure (g17 _) ?_
  have z29 : zEs.length = 29 := rfl
  have zd : List.drop 29 zEs = [] := rfl
  simp (maxSteps := 1000000) (disch := omega) only [go_sem, Nat.reduceEqDiff, Nat.reduceLT, Nat.reduceAdd, Nat.reduceSub, Nat.reduceMul, Nat.reduceBEq, Int.reduceLT, Int.reduceAdd, Int.reduceMul, Int.reduceSub, Int.reduceToNat, Int.reduceLE, Int.reduceEq, ↓reduceIte, reduceCtorEq, Int.reduceNeg, Nat.reduceLeDiff,  b1, l1, b2, l2, z29, zd]
  refine fin_e (by simp) (by simp (maxSteps := 1000000) (disch := omega) only [resVal, resAll, resOne, rs21, Env.get, go_sem, Nat.reduceEqDiff, Nat.reduceLT, Nat.reduceAdd, Nat.reduceSub, Nat.reduceMul, Nat.reduceBEq, Int.reduceLT, Int.reduceAdd, Int.reduceMul, Int.reduceSub, Int.reduceToNat, Int.reduceLE, Int.reduceEq, ↓reduceIte, reduceCtorEq, Int.reduceNeg, Nat.reduceLeDiff, blkAt_set_self l2] <;> rfl) (hX.set (by omega) _) rfl
/-- What is done with parts that came: nothing, or all. -/
theorem f21_got {c0 c1 c2 c3 c4 c5 a b c : Int} {e : Es} {s : Sn} {n : Nat} {A : Nat → Bool} {H : Heap} (hm : mayB c0 c1 c2 c3 c4 c5 = true) (he : estB e = true) (hk : mrkB a b c ((dlt e).length : Int) = true) (hn : ((dlt e).length + 7) / 8 = n) (hg : Got a b c (dlt e) n A s) (hA : ∃ j, j < n ∧ A j = false) :
    ACallE Try.prog 21 [.agg [.int .i64 c0, .int .i64 c1, .int .i64 c2, .int .i64 c3, .int .i64 c4, .int .i64 c5], .agg s.av] H fun v H' => v = .tup [.agg zEs, .bool false] := by
  have d39 := mrkB_d39 hk
  rcases hg.mrk with ⟨h1, h2⟩ | ⟨z1, z2, z3, z4⟩
  · refine f21_bad hm hg.ok ?_
    rw [h2]
    rfl
  · rw [← z1, ← z2, ← z3, ← z4] at hk
    obtain ⟨j, j1, j2⟩ := hA
    exact f21_no hm hg.ok hk ⟨j, by omega, by rw [hg.has j (by omega)]; exact j2⟩
theorem f21_all {c0 c1 c2 c3 c4 c5 a b c : Int} {e : Es} {s : Sn} {n : Nat} {A : Nat → Bool} {H : Heap} (hm : mayB c0 c1 c2 c3 c4 c5 = true) (he : estB e = true) (hk : mrkB a b c ((dlt e).length : Int) = true) (hn : ((dlt e).length + 7) / 8 = n) (hg : Got a b c (dlt e) n A s) (hA : ∀ j, j < n → A j = true) :
    ACallE Try.prog 21 [.agg [.int .i64 c0, .int .i64 c1, .int .i64 c2, .int .i64 c3, .int .i64 c4, .int .i64 c5], .agg s.av] H fun v H' => ∃ f : Es, v = .tup [.agg f.av, .bool true] ∧ f.eqv e ∧ f.ok H' := by
  have d39 := mrkB_d39 hk
  rcases hg.mrk with ⟨h1, h2⟩ | ⟨z1, z2, z3, z4⟩
  · have := h1 0 (by omega)
    rw [hA 0 (by omega)] at this
    cases this
  · rw [← z1, ← z2, ← z3, ← z4] at hk
    exact f21_yes hm he hg.ok hk z4 hn (fun j hj => by rw [hg.has j (by omega)]; exact hA j hj) (fun j hj => hg.part j hj (hA j hj))

/-! The law SnapMissing. -/

/-! The law SnapMissing, joined. -/
theorem Es.ok.fill {e : Es} {H : Heap} {b : Nat} (h : e.ok H) (hb : H[b]? = some none) (x : Option Blk) : e.ok (H.set b x) :=
  ⟨⟨h.ha.hx.fill hb x, h.ha.hp.fill hb x, h.ha.lx, h.ha.lp⟩, ⟨h.hb.hx.fill hb x, h.hb.hp.fill hb x, h.hb.lx, h.hb.lp⟩, ⟨h.hc.hx.fill hb x, h.hc.hp.fill hb x, h.hc.lx, h.hc.lp⟩⟩
def p9 (y0 y1 y2 y3 y4 y5 : Int) (e : Es) (l : List AV) : List AV := [.int .i64 y0, .int .i64 y1, .int .i64 y2, .int .i64 y3, .int .i64 y4, .int .i64 y5] ++ (e.av ++ l)
theorem p9_t6 (y0 y1 y2 y3 y4 y5 : Int) (e : Es) (l : List AV) : List.take 6 (p9 y0 y1 y2 y3 y4 y5 e l) = [.int .i64 y0, .int .i64 y1, .int .i64 y2, .int .i64 y3, .int .i64 y4, .int .i64 y5] := rfl
theorem p9_t29 (y0 y1 y2 y3 y4 y5 : Int) (e : Es) (l : List AV) : List.take 29 (List.drop 6 (p9 y0 y1 y2 y3 y4 y5 e l)) = e.av := rfl
theorem p9_d35 (y0 y1 y2 y3 y4 y5 : Int) (e : Es) (l : List AV) : List.drop 35 (p9 y0 y1 y2 y3 y4 y5 e l) = l := rfl
theorem p9_len (y0 y1 y2 y3 y4 y5 : Int) (e : Es) (l : List AV) : (p9 y0 y1 y2 y3 y4 y5 e l).length = 35 + l.length := by
  have : e.av.length = 29 := rfl
  unfold p9
  simp [this]
  omega

/-! The law SnapComes: a part that comes. -/
def cn (A : Nat → Bool) : Nat → Nat
  | 0 => 0
  | n + 1 => cn A n + (if A n then 1 else 0)
theorem cn_le (A : Nat → Bool) : ∀ n, cn A n ≤ n
  | 0 => Nat.le_refl _
  | n + 1 => by
    have := cn_le A n
    rw [cn]
    split <;> omega
theorem cn_all (A : Nat → Bool) : ∀ n, cn A n = n ↔ ∀ j, j < n → A j = true
  | 0 => by simp [cn]
  | n + 1 => by
    have h1 := cn_le A n
    have h2 := cn_all A n
    rw [cn]
    constructor
    · intro h j hj
      have hn : A n = true := by
        cases ha : A n with
        | true => rfl
        | false => rw [ha] at h; simp at h; omega
      rw [hn] at h
      simp at h
      rcases Nat.lt_or_ge j n with h3 | h3
      · exact h2.1 h j h3
      · obtain rfl : j = n := by omega
        exact hn
    · intro h
      rw [h n (by omega), h2.2 fun j hj => h j (by omega)]
      rfl
theorem cn_step (A : Nat → Bool) (k : Nat) : ∀ n, cn (fun j => A j || decide (j = k)) n = cn A n + (if k < n ∧ A k = false then 1 else 0)
  | 0 => by simp [cn]
  | n + 1 => by
    have ih := cn_step A k n
    rw [cn, cn, ih]
    by_cases e : n = k
    · subst e
      rw [if_neg (by omega)]
      cases A n <;> simp
    · have e2 : ¬ k = n := fun x => e x.symm
      have e3 : (k < n + 1) ↔ (k < n) := by omega
      simp only [e, decide_false, Bool.or_false, e3]
      omega
def hb (A : Nat → Bool) : List AV := [.bool (A 0), .bool (A 1), .bool (A 2), .bool (A 3), .bool (A 4)]
theorem hb_get (A : Nat → Bool) {k : Nat} (hk : k < 5) : (hb A)[k]? = some (.bool (A k)) := by
  match k, hk with
  | 0, _ => rfl
  | 1, _ => rfl
  | 2, _ => rfl
  | 3, _ => rfl
  | 4, _ => rfl
theorem hb_set (A : Nat → Bool) {k : Nat} (hk : k < 5) : List.take k (hb A) ++ AV.bool true :: List.drop (k + 1) (hb A) = hb (fun j => A j || decide (j = k)) := by
  match k, hk with
  | 0, _ => simp [hb]
  | 1, _ => simp [hb]
  | 2, _ => simp [hb]
  | 3, _ => simp [hb]
  | 4, _ => simp [hb]
structure CI (H : Heap) (b3 b4 b5 b11 b12 q n : Nat) (y0 y1 y2 y3 y4 y5 a b c : Int) (e : Es) (A : Nat → Bool) (s : Sn) (X : Heap) : Prop where
  h3 : blkAt X b3 = some ⟨[.int .i64 y0, .int .i64 y1, .int .i64 y2, .int .i64 y3, .int .i64 y4, .int .i64 y5], true⟩
  h4 : blkAt X b4 = some ⟨e.av, true⟩
  h5 : blkAt X b5 = some ⟨[.int .i64 a, .int .i64 b, .int .i64 c, .int .i64 ((dlt e).length : Int)], true⟩
  hq : blkAt X q = some ⟨(pc (dlt e) n).map (AV.int .i64), true⟩
  h11 : blkAt X b11 = some ⟨s.av, true⟩
  h12 : blkAt X b12 = some ⟨hb A, true⟩
  got : Got a b c (dlt e) n A s
  ext : Ext H X
theorem CI.next {H : Heap} {b3 b4 b5 b11 b12 q n : Nat} {y0 y1 y2 y3 y4 y5 a b c : Int} {e : Es} {A A' : Nat → Bool} {s s' : Sn} {X : Heap} (h : CI H b3 b4 b5 b11 b12 q n y0 y1 y2 y3 y4 y5 a b c e A s X) (hg : Got a b c (dlt e) n A' s')
    (n3 : b3 < b11 ∧ b4 < b11 ∧ b5 < b11 ∧ q < b11 ∧ b11 < b12) (hH : H.length ≤ b11) : CI H b3 b4 b5 b11 b12 q n y0 y1 y2 y3 y4 y5 a b c e A' s' ((X.set b11 (some ⟨s'.av, true⟩)).set b12 (some ⟨hb A', true⟩)) := by
  obtain ⟨m3, m4, m5, mq, m12⟩ := n3
  have l11 := blkAt_lt h.h11
  have l12 := blkAt_lt h.h12
  have lo : ∀ (b : Nat) (k : Blk), b < b11 → blkAt X b = some k → blkAt ((X.set b11 (some ⟨s'.av, true⟩)).set b12 (some ⟨hb A', true⟩)) b = some k := fun b k hlt hb => by
    rw [blkAt_set_ne (by omega), blkAt_set_ne (by omega)]
    exact hb
  exact ⟨lo _ _ m3 h.h3, lo _ _ m4 h.h4, lo _ _ m5 h.h5, lo _ _ mq h.hq, by rw [blkAt_set_ne (by omega), blkAt_set_self l11], by rw [blkAt_set_self (by rw [List.length_set]; exact l12)], hg, (h.ext.set hH _).set (by omega) _⟩
theorem CI.grow {H : Heap} {b3 b4 b5 b11 b12 q n : Nat} {y0 y1 y2 y3 y4 y5 a b c : Int} {e : Es} {A : Nat → Bool} {s : Sn} {X Y : Heap} (h : CI H b3 b4 b5 b11 b12 q n y0 y1 y2 y3 y4 y5 a b c e A s X) (hx : Ext X Y) : CI H b3 b4 b5 b11 b12 q n y0 y1 y2 y3 y4 y5 a b c e A s Y :=
  ⟨hx.blk h.h3, hx.blk h.h4, hx.blk h.h5, hx.blk h.hq, hx.blk h.h11, hx.blk h.h12, h.got, h.ext.trans hx⟩

/-! The law SnapComes: a round. -/
def e8 (b3 b4 b5 b11 b12 q n p off m : Nat) (cp : Option Nat) (many i : Nat) : Env := [(3, .ptr b3 0), (4, .ptr b4 0), (5, .ptr b5 0), (6, .sl p off m 1 cp), (7, .bool true), (8, .sl q 0 n 8 none), (11, .ptr b11 0), (12, .ptr b12 0), (13, .int .i64 (many : Int)), (14, .int .i64 (i : Int))]
theorem f8_round {H X : Heap} {b3 b4 b5 b11 b12 q n p off m i many : Nat} {cp : Option Nat} {y0 y1 y2 y3 y4 y5 a b c z : Int} {e : Es} {ord : List Int} {A : Nat → Bool} {s : Sn} {fs : List Fr} {Q : Post} (d : CI H b3 b4 b5 b11 b12 q n y0 y1 y2 y3 y4 y5 a b c e A s X)
    (hok : e.ok H) (ho : Sl i64 H p off ord) (hz : ord[i]? = some z) (hlen : m = ord.length) (hm40 : m ≤ 40) (hmy : mayB y0 y1 y2 y3 y4 y5 = true) (he : estB e = true) (hk : mrkB a b c ((dlt e).length : Int) = true) (hn : ((dlt e).length + 7) / 8 = n) (nb : b3 < b11 ∧ b4 < b11 ∧ b5 < b11 ∧ q < b11 ∧ b11 < b12) (hH : H.length ≤ b11) (hmn : many = cn A n)
    (hq : ∀ A' s' X' many', CI H b3 b4 b5 b11 b12 q n y0 y1 y2 y3 y4 y5 a b c e A' s' X' → many' = cn A' n → acs Try.prog (.lp c8l0 :: fs) (e8 b3 b4 b5 b11 b12 q n p off m cp many' (i + 1)) X' Q) :
    acs Try.prog (.lp c8l0 :: fs) (e8 b3 b4 b5 b11 b12 q n p off m cp many i) X Q := by
  have d39 := mrkB_d39 hk
  have hiL : i < ord.length := by
    rcases Nat.lt_or_ge i ord.length with h | h
    · exact h
    · rw [List.getElem?_eq_none h] at hz; cases hz
  have hi : (i : Int) < (m : Int) := by omega
  have im : i < m := by omega
  have i1 : (i : Int) + 1 = ((i + 1 : Nat) : Int) := by omega
  obtain ⟨cs, o, hp, hle, hcs⟩ := d.ext.sl ho
  have fz : cs[off + i]? = some (.int .i64 z) := sl_get hcs hz
  have skip := hq A s X many d hmn
  unfold e8 at *
  by_cases z0 : z < 0
  · rw [acs_lp]; conv in Fr.code c8l0 => unfold c8l0
    simp (maxSteps := 1000000) (disch := omega) only [go_sem, Nat.reduceEqDiff, Nat.reduceLT, Nat.reduceAdd, Nat.reduceSub, Nat.reduceMul, Nat.reduceBEq, Int.reduceLT, Int.reduceAdd, Int.reduceMul, Int.reduceSub, Int.reduceToNat, Int.reduceLE, Int.reduceEq, ↓reduceIte, reduceCtorEq, Int.reduceNeg, Nat.reduceLeDiff,  hi, im, hp, fz, z0, i1]
    exact skip
  by_cases z1 : (n : Int) ≤ z
  · rw [acs_lp]; conv in Fr.code c8l0 => unfold c8l0
    simp (maxSteps := 1000000) (disch := omega) only [go_sem, Nat.reduceEqDiff, Nat.reduceLT, Nat.reduceAdd, Nat.reduceSub, Nat.reduceMul, Nat.reduceBEq, Int.reduceLT, Int.reduceAdd, Int.reduceMul, Int.reduceSub, Int.reduceToNat, Int.reduceLE, Int.reduceEq, ↓reduceIte, reduceCtorEq, Int.reduceNeg, Nat.reduceLeDiff,  hi, im, hp, fz, z0, z1, i1]
    exact skip
  obtain ⟨k, rfl⟩ : ∃ k : Nat, z = (k : Int) := ⟨z.toNat, by omega⟩
  have kn : k < n := by omega
  have k5 : k < 5 := by omega
  have z5 : (k : Int) < 5 := by omega
  have zn : (k : Int) < (n : Int) := by omega
  have z5' : ¬ (5 : Int) ≤ (k : Int) := by omega
  have hs := d.got.ok
  have len := Sn.len hs
  have all := s.all
  have tk := Sn.tk hs
  have drp := Sn.drp hs
  have hg2 := d.got.step hk hn kn
  have lenT := Sn.len hg2.ok
  have fullT := (takeS s a b c ((dlt e).length : Int) (k : Int) (row8 (dlt e) k)).full
  have allT := (takeS s a b c ((dlt e).length : Int) (k : Int) (row8 (dlt e) k)).all
  have tkT := Sn.tk hg2.ok
  have hrow := pc_row8 (dlt e) (n := n) (k := k) kn
  have hle2 : k * 8 + 8 ≤ 8 * n := by omega
  have lpc : ((pc (dlt e) n).map (AV.int .i64)).length = 8 * n := by rw [List.length_map, pc_len]
  have allr := all_int (row8 (dlt e) k)
  have d2 := d.next hg2 nb hH
  have g18 := fun (G : Heap) => f18 (a := a) (b := b) (c := c) (d := ((dlt e).length : Int)) (i := (k : Int)) (q := row8 (dlt e) k) (H := G) hs (row8_len (dlt e) k)
  have hst := cn_step A k n
  have hbs := hb_set A k5
  have hbg := hb_get A k5
  have lhb : ∀ B, (hb B).length = 5 := fun _ => rfl
  have k51 : k + 1 ≤ 5 := by omega
  obtain ⟨h3, h4, h5, hQ, h11, h12, _, _⟩ := d
  obtain ⟨m3, m4, m5, mq, m12⟩ := nb
  have l11 := blkAt_lt h11
  have e5 : ∀ x, blkAt (X.set b11 x) b5 = some ⟨[.int .i64 a, .int .i64 b, .int .i64 c, .int .i64 ((dlt e).length : Int)], true⟩ := fun x => (blkAt_set_ne (by omega) x).trans h5
  have e12 : ∀ x, blkAt (X.set b11 x) b12 = some ⟨hb A, true⟩ := fun x => (blkAt_set_ne (by omega) x).trans h12
  have hall := cn_all (fun j => A j || decide (j = k)) n
  generalize takeS s a b c ((dlt e).length : Int) (k : Int) (row8 (dlt e) k) = s2 at *
  have dH := d2.ext
  have w3 := d2.h3
  have w4 := d2.h4
  have w11 := d2.h11
  have w12 := d2.h12
  have okE := hok.ext dH
  have fullE : (AV.agg e.av).full = true := rfl
  have lenE : e.av.length = 29 := rfl
  have allE : e.av.all AV.cell = true := rfl
  have tkE : List.take 29 e.av = e.av := rfl
  have drpE : List.drop 29 e.av = [] := rfl
  have fullZ : (AV.agg zEs).full = true := rfl
  have lenZ : zEs.length = 29 := rfl
  have allZ : zEs.all AV.cell = true := rfl
  have fullF : ∀ f : Es, (AV.agg f.av).full = true := fun _ => rfl
  have lenF : ∀ f : Es, f.av.length = 29 := fun _ => rfl
  have allF : ∀ f : Es, f.av.all AV.cell = true := fun _ => rfl
  have tkF : ∀ f : Es, List.take 29 f.av = f.av := fun _ => rfl
  have drpF : ∀ f : Es, List.drop 29 f.av = [] := fun _ => rfl
  cases hA : A k with
  | true =>
    rw [if_neg (by rw [hA]; simp)] at hst
    rw [hA] at hbg
    rw [acs_lp]; conv in Fr.code c8l0 => unfold c8l0
    simp (maxSteps := 1000000) (disch := omega) only [go_sem, Nat.reduceEqDiff, Nat.reduceLT, Nat.reduceAdd, Nat.reduceSub, Nat.reduceMul, Nat.reduceBEq, Int.reduceLT, Int.reduceAdd, Int.reduceMul, Int.reduceSub, Int.reduceToNat, Int.reduceLE, Int.reduceEq, ↓reduceIte, reduceCtorEq, Int.reduceNeg, Nat.reduceLeDiff,  hi, im, hp, fz, z0, z1, z5, z5', zn, h11, h5, hQ, lpc, len, tk, all, hrow, hle2, allr]
    first | refine callB_intro (g18 _) ?_ | refine callD_intro (g18 _) ?_ | refine callP_intro (fun _ => (g18 _)) ?_ | refine callX_pure (g18 _) ?_
    simp (maxSteps := 1000000) (disch := omega) only [go_sem, Nat.reduceEqDiff, Nat.reduceLT, Nat.reduceAdd, Nat.reduceSub, Nat.reduceMul, Nat.reduceBEq, Int.reduceLT, Int.reduceAdd, Int.reduceMul, Int.reduceSub, Int.reduceToNat, Int.reduceLE, Int.reduceEq, ↓reduceIte, reduceCtorEq, Int.reduceNeg, Nat.reduceLeDiff,  h11, len, lenT, fullT, allT, drp, e12, hbg, lhb, hbs, z5, k51]
    generalize (X.set b11 (some ⟨s2.av, true⟩)).set b12 (some ⟨hb fun j => A j || decide (j = k), true⟩) = Y at *
    by_cases ha : ∀ j, j < n → (A j || decide (j = k)) = true
    · have mny := eq_true (show ((many : Int) : Int) = (n : Int) by
        have := hall.2 ha
        omega)
      simp (maxSteps := 1000000) (disch := omega) only [go_sem, Nat.reduceEqDiff, Nat.reduceLT, Nat.reduceAdd, Nat.reduceSub, Nat.reduceMul, Nat.reduceBEq, Int.reduceLT, Int.reduceAdd, Int.reduceMul, Int.reduceSub, Int.reduceToNat, Int.reduceLE, Int.reduceEq, ↓reduceIte, reduceCtorEq, Int.reduceNeg, Nat.reduceLeDiff,  w3, w11, lenT, tkT, allT]
      first | refine callBE (f21_all hmy he hk hn hg2 ha) ?_ | refine callDE (f21_all hmy he hk hn hg2 ha) ?_ | refine callXE (f21_all hmy he hk hn hg2 ha) ?_
      rintro v Z hz ⟨f, rfl, hf, hfo⟩
      have x4 := hz.blk w4
      have lx4 := blkAt_lt x4
      have okZ := okE.ext hz
      have g13 := fun (G2 : Heap) => f13 (H := Z ++ G2) (hfo.app G2) (okZ.app G2) hf
      simp (maxSteps := 1000000) (disch := omega) only [go_sem, Nat.reduceEqDiff, Nat.reduceLT, Nat.reduceAdd, Nat.reduceSub, Nat.reduceMul, Nat.reduceBEq, Int.reduceLT, Int.reduceAdd, Int.reduceMul, Int.reduceSub, Int.reduceToNat, Int.reduceLE, Int.reduceEq, ↓reduceIte, reduceCtorEq, Int.reduceNeg, Nat.reduceLeDiff,  fullF, lenF, allF, tkF, drpF, x4, lx4, lenE, tkE, allE, mny, blkAt_lo, i1]
      first | refine callB_intro (g13 _) ?_ | refine callD_intro (g13 _) ?_ | refine callP_intro (fun _ => (g13 _)) ?_ | refine callX_pure (g13 _) ?_
      simp (maxSteps := 1000000) (disch := omega) only [go_sem, Nat.reduceEqDiff, Nat.reduceLT, Nat.reduceAdd, Nat.reduceSub, Nat.reduceMul, Nat.reduceBEq, Int.reduceLT, Int.reduceAdd, Int.reduceMul, Int.reduceSub, Int.reduceToNat, Int.reduceLE, Int.reduceEq, ↓reduceIte, reduceCtorEq, Int.reduceNeg, Nat.reduceLeDiff,  mny, i1]
      refine (hq _ s2 _ many (d2.grow (hz.to _)) (by omega))
    · have mny : ¬ (((many : Int) : Int) = (n : Int)) := fun hh => ha (hall.1 (by omega))
      have hno : ∃ j, j < n ∧ (A j || decide (j = k)) = false := by
        apply Classical.byContradiction
        intro hno
        refine ha fun j hj => ?_
        cases hv : (A j || decide (j = k)) with
        | true => rfl
        | false => exact (hno ⟨j, hj, hv⟩).elim
      simp (maxSteps := 1000000) (disch := omega) only [go_sem, Nat.reduceEqDiff, Nat.reduceLT, Nat.reduceAdd, Nat.reduceSub, Nat.reduceMul, Nat.reduceBEq, Int.reduceLT, Int.reduceAdd, Int.reduceMul, Int.reduceSub, Int.reduceToNat, Int.reduceLE, Int.reduceEq, ↓reduceIte, reduceCtorEq, Int.reduceNeg, Nat.reduceLeDiff,  w3, w11, lenT, tkT, allT]
      first | refine callBE (f21_got hmy he hk hn hg2 hno) ?_ | refine callDE (f21_got hmy he hk hn hg2 hno) ?_ | refine callXE (f21_got hmy he hk hn hg2 hno) ?_
      rintro v Z hz rfl
      simp (maxSteps := 1000000) (disch := omega) only [go_sem, Nat.reduceEqDiff, Nat.reduceLT, Nat.reduceAdd, Nat.reduceSub, Nat.reduceMul, Nat.reduceBEq, Int.reduceLT, Int.reduceAdd, Int.reduceMul, Int.reduceSub, Int.reduceToNat, Int.reduceLE, Int.reduceEq, ↓reduceIte, reduceCtorEq, Int.reduceNeg, Nat.reduceLeDiff,  fullZ, lenZ, allZ, mny, i1]
      refine (hq _ s2 _ many (d2.grow (hz.to _)) (by omega))
  | false =>
    rw [if_pos ⟨kn, hA⟩] at hst
    rw [hA] at hbg
    have mle := cn_le A n
    have mw : IntKind.i64.wrap ((many : Int) + 1) = ((many + 1 : Nat) : Int) := by rw [i64_in _ (by omega)]; omega
    rw [acs_lp]; conv in Fr.code c8l0 => unfold c8l0
    simp (maxSteps := 1000000) (disch := omega) only [go_sem, Nat.reduceEqDiff, Nat.reduceLT, Nat.reduceAdd, Nat.reduceSub, Nat.reduceMul, Nat.reduceBEq, Int.reduceLT, Int.reduceAdd, Int.reduceMul, Int.reduceSub, Int.reduceToNat, Int.reduceLE, Int.reduceEq, ↓reduceIte, reduceCtorEq, Int.reduceNeg, Nat.reduceLeDiff,  hi, im, hp, fz, z0, z1, z5, z5', zn, h11, h5, hQ, lpc, len, tk, all, hrow, hle2, allr]
    first | refine callB_intro (g18 _) ?_ | refine callD_intro (g18 _) ?_ | refine callP_intro (fun _ => (g18 _)) ?_ | refine callX_pure (g18 _) ?_
    simp (maxSteps := 1000000) (disch := omega) only [go_sem, Nat.reduceEqDiff, Nat.reduceLT, Nat.reduceAdd, Nat.reduceSub, Nat.reduceMul, Nat.reduceBEq, Int.reduceLT, Int.reduceAdd, Int.reduceMul, Int.reduceSub, Int.reduceToNat, Int.reduceLE, Int.reduceEq, ↓reduceIte, reduceCtorEq, Int.reduceNeg, Nat.reduceLeDiff,  h11, len, lenT, fullT, allT, drp, e12, hbg, lhb, hbs, z5, k51, mw]
    generalize (X.set b11 (some ⟨s2.av, true⟩)).set b12 (some ⟨hb fun j => A j || decide (j = k), true⟩) = Y at *
    by_cases ha : ∀ j, j < n → (A j || decide (j = k)) = true
    · have mny := eq_true (show ((many + 1 : Nat) : Int) = (n : Int) by
        have := hall.2 ha
        omega)
      simp (maxSteps := 1000000) (disch := omega) only [go_sem, Nat.reduceEqDiff, Nat.reduceLT, Nat.reduceAdd, Nat.reduceSub, Nat.reduceMul, Nat.reduceBEq, Int.reduceLT, Int.reduceAdd, Int.reduceMul, Int.reduceSub, Int.reduceToNat, Int.reduceLE, Int.reduceEq, ↓reduceIte, reduceCtorEq, Int.reduceNeg, Nat.reduceLeDiff,  w3, w11, lenT, tkT, allT]
      first | refine callBE (f21_all hmy he hk hn hg2 ha) ?_ | refine callDE (f21_all hmy he hk hn hg2 ha) ?_ | refine callXE (f21_all hmy he hk hn hg2 ha) ?_
      rintro v Z hz ⟨f, rfl, hf, hfo⟩
      have x4 := hz.blk w4
      have lx4 := blkAt_lt x4
      have okZ := okE.ext hz
      have g13 := fun (G2 : Heap) => f13 (H := Z ++ G2) (hfo.app G2) (okZ.app G2) hf
      simp (maxSteps := 1000000) (disch := omega) only [go_sem, Nat.reduceEqDiff, Nat.reduceLT, Nat.reduceAdd, Nat.reduceSub, Nat.reduceMul, Nat.reduceBEq, Int.reduceLT, Int.reduceAdd, Int.reduceMul, Int.reduceSub, Int.reduceToNat, Int.reduceLE, Int.reduceEq, ↓reduceIte, reduceCtorEq, Int.reduceNeg, Nat.reduceLeDiff,  fullF, lenF, allF, tkF, drpF, x4, lx4, lenE, tkE, allE, mny, mw, blkAt_lo, i1]
      first | refine callB_intro (g13 _) ?_ | refine callD_intro (g13 _) ?_ | refine callP_intro (fun _ => (g13 _)) ?_ | refine callX_pure (g13 _) ?_
      simp (maxSteps := 1000000) (disch := omega) only [go_sem, Nat.reduceEqDiff, Nat.reduceLT, Nat.reduceAdd, Nat.reduceSub, Nat.reduceMul, Nat.reduceBEq, Int.reduceLT, Int.reduceAdd, Int.reduceMul, Int.reduceSub, Int.reduceToNat, Int.reduceLE, Int.reduceEq, ↓reduceIte, reduceCtorEq, Int.reduceNeg, Nat.reduceLeDiff,  mny, mw, i1]
      refine (hq _ s2 _ (many + 1) (d2.grow (hz.to _)) (by omega))
    · have mny : ¬ (((many + 1 : Nat) : Int) = (n : Int)) := fun hh => ha (hall.1 (by omega))
      have hno : ∃ j, j < n ∧ (A j || decide (j = k)) = false := by
        apply Classical.byContradiction
        intro hno
        refine ha fun j hj => ?_
        cases hv : (A j || decide (j = k)) with
        | true => rfl
        | false => exact (hno ⟨j, hj, hv⟩).elim
      simp (maxSteps := 1000000) (disch := omega) only [go_sem, Nat.reduceEqDiff, Nat.reduceLT, Nat.reduceAdd, Nat.reduceSub, Nat.reduceMul, Nat.reduceBEq, Int.reduceLT, Int.reduceAdd, Int.reduceMul, Int.reduceSub, Int.reduceToNat, Int.reduceLE, Int.reduceEq, ↓reduceIte, reduceCtorEq, Int.reduceNeg, Nat.reduceLeDiff,  w3, w11, lenT, tkT, allT]
      first | refine callBE (f21_got hmy he hk hn hg2 hno) ?_ | refine callDE (f21_got hmy he hk hn hg2 hno) ?_ | refine callXE (f21_got hmy he hk hn hg2 hno) ?_
      rintro v Z hz rfl
      simp (maxSteps := 1000000) (disch := omega) only [go_sem, Nat.reduceEqDiff, Nat.reduceLT, Nat.reduceAdd, Nat.reduceSub, Nat.reduceMul, Nat.reduceBEq, Int.reduceLT, Int.reduceAdd, Int.reduceMul, Int.reduceSub, Int.reduceToNat, Int.reduceLE, Int.reduceEq, ↓reduceIte, reduceCtorEq, Int.reduceNeg, Nat.reduceLeDiff,  fullZ, lenZ, allZ, mny, mw, i1]
      refine (hq _ s2 _ (many + 1) (d2.grow (hz.to _)) (by omega))

/-! The law SnapComes, joined. -/
theorem cn0 : ∀ n, cn (fun _ => false) n = 0
  | 0 => rfl
  | n + 1 => by rw [cn, cn0 n]; rfl
theorem f8_loop {H : Heap} {b3 b4 b5 b11 b12 q n p off m : Nat} {cp : Option Nat} {y0 y1 y2 y3 y4 y5 a b c : Int} {e : Es} {ord : List Int} {fs : List Fr} {Q : Post}
    (hok : e.ok H) (ho : Sl i64 H p off ord) (hlen : m = ord.length) (hm40 : m ≤ 40) (hmy : mayB y0 y1 y2 y3 y4 y5 = true) (he : estB e = true) (hk : mrkB a b c ((dlt e).length : Int) = true) (hn : ((dlt e).length + 7) / 8 = n) (nb : b3 < b11 ∧ b4 < b11 ∧ b5 < b11 ∧ q < b11 ∧ b11 < b12) (hH : H.length ≤ b11)
    (hQ : ∀ A s X, CI H b3 b4 b5 b11 b12 q n y0 y1 y2 y3 y4 y5 a b c e A s X → leave Try.prog 0 fs [(7, .bool true)] X Q) :
    ∀ (r i : Nat) (A : Nat → Bool) (s : Sn) (X : Heap) (many : Nat), i + r = m → CI H b3 b4 b5 b11 b12 q n y0 y1 y2 y3 y4 y5 a b c e A s X → many = cn A n → acs Try.prog (.lp c8l0 :: fs) (e8 b3 b4 b5 b11 b12 q n p off m cp many i) X Q := by
  intro r
  induction r with
  | zero =>
    intro i A s X many hi d hmn
    have hge : ¬ (i : Int) < (m : Int) := by omega
    unfold e8
    rw [acs_lp]; conv in Fr.code c8l0 => unfold c8l0
    simp (maxSteps := 1000000) (disch := omega) only [go_sem, Nat.reduceEqDiff, Nat.reduceLT, Nat.reduceAdd, Nat.reduceSub, Nat.reduceMul, Nat.reduceBEq, Int.reduceLT, Int.reduceAdd, Int.reduceMul, Int.reduceSub, Int.reduceToNat, Int.reduceLE, Int.reduceEq, ↓reduceIte, reduceCtorEq, Int.reduceNeg, Nat.reduceLeDiff,  hge]
    exact hQ A s X d
  | succ r ih =>
    intro i A s X many hi d hmn
    exact f8_round d hok ho (z := ord[i]'(by omega)) (List.getElem?_eq_getElem (by omega)) hlen hm40 hmy he hk hn nb hH hmn fun A' s' X' many' d' hm' => ih (i + 1) A' s' X' many' (by omega) d' hm'
theorem f8 {y0 y1 y2 y3 y4 y5 a b c d : Int} {e : Es} {ord : List Int} {p off : Nat} {cp : Option Nat} {H : Heap} (hok : e.ok H) (ho : Sl i64 H p off ord) (hol : ord.length ≤ 4611686018427387904) : ACall Try.prog 8 [.agg (p9 y0 y1 y2 y3 y4 y5 e [.int .i64 a, .int .i64 b, .int .i64 c, .int .i64 d, .sl p off ord.length 1 cp])] H (.bool true) H := by
  refine acall8 (by simp) (acs_start ?_)
  have full : (AV.agg e.av).full = true := rfl
  have len : e.av.length = 29 := rfl
  have all : e.av.all AV.cell = true := rfl
  have tk : List.take 29 e.av = e.av := rfl
  have drp : List.drop 29 e.av = [] := rfl
  have t6 := p9_t6 y0 y1 y2 y3 y4 y5 e [.int .i64 a, .int .i64 b, .int .i64 c, .int .i64 d, .sl p off ord.length 1 cp]
  have t29 := p9_t29 y0 y1 y2 y3 y4 y5 e [.int .i64 a, .int .i64 b, .int .i64 c, .int .i64 d, .sl p off ord.length 1 cp]
  have d35 := p9_d35 y0 y1 y2 y3 y4 y5 e [.int .i64 a, .int .i64 b, .int .i64 c, .int .i64 d, .sl p off ord.length 1 cp]
  have lp : (p9 y0 y1 y2 y3 y4 y5 e [.int .i64 a, .int .i64 b, .int .i64 c, .int .i64 d, .sl p off ord.length 1 cp]).length = 40 := p9_len _ _ _ _ _ _ _ _
  have ap : (p9 y0 y1 y2 y3 y4 y5 e [.int .i64 a, .int .i64 b, .int .i64 c, .int .i64 d, .sl p off ord.length 1 cp]).all AV.cell = true := by unfold p9; rw [List.all_append, List.all_append, all]; rfl
  have fp : (AV.agg (p9 y0 y1 y2 y3 y4 y5 e [.int .i64 a, .int .i64 b, .int .i64 c, .int .i64 d, .sl p off ord.length 1 cp])).full = true := ap
  have z39 : (p9 y0 y1 y2 y3 y4 y5 e [.int .i64 a, .int .i64 b, .int .i64 c, .int .i64 d, .sl p off ord.length 1 cp])[39]? = some (.sl p off ord.length 1 cp) := rfl
  have g14 := fun G => f14 (a := y0) (b := y1) (c := y2) (d := y3) (e := y4) (f := y5) (H := H ++ G)
  have g11 := fun G => f11 (hok.app G)
  generalize p9 y0 y1 y2 y3 y4 y5 e [.int .i64 a, .int .i64 b, .int .i64 c, .int .i64 d, .sl p off ord.length 1 cp] = P9 at *
  unfold c8
  simp (maxSteps := 1000000) (disch := omega) only [go_sem, Nat.reduceEqDiff, Nat.reduceLT, Nat.reduceAdd, Nat.reduceSub, Nat.reduceMul, Nat.reduceBEq, Int.reduceLT, Int.reduceAdd, Int.reduceMul, Int.reduceSub, Int.reduceToNat, Int.reduceLE, Int.reduceEq, ↓reduceIte, reduceCtorEq, Int.reduceNeg, Nat.reduceLeDiff,  lp, ap, fp, t6, t29, d35, z39, full, len, all, tk, drp]
  first | refine callB_intro (f10) ?_ | refine callD_intro (f10) ?_ | refine callP_intro (fun _ => (f10)) ?_ | refine callX_pure (f10) ?_
  simp (maxSteps := 1000000) (disch := omega) only [go_sem, Nat.reduceEqDiff, Nat.reduceLT, Nat.reduceAdd, Nat.reduceSub, Nat.reduceMul, Nat.reduceBEq, Int.reduceLT, Int.reduceAdd, Int.reduceMul, Int.reduceSub, Int.reduceToNat, Int.reduceLE, Int.reduceEq, ↓reduceIte, reduceCtorEq, Int.reduceNeg, Nat.reduceLeDiff,  full, len, all, tk, drp]
  first | refine callB_intro (g14 _) ?_ | refine callD_intro (g14 _) ?_ | refine callP_intro (fun _ => (g14 _)) ?_ | refine callX_pure (g14 _) ?_
  cases hm : mayB y0 y1 y2 y3 y4 y5 with
  | false =>
    simp (maxSteps := 1000000) (disch := omega) only [go_sem, Nat.reduceEqDiff, Nat.reduceLT, Nat.reduceAdd, Nat.reduceSub, Nat.reduceMul, Nat.reduceBEq, Int.reduceLT, Int.reduceAdd, Int.reduceMul, Int.reduceSub, Int.reduceToNat, Int.reduceLE, Int.reduceEq, ↓reduceIte, reduceCtorEq, Int.reduceNeg, Nat.reduceLeDiff]
    exact fin_ext (by simp) (Ext.app _ _) (by simp (maxSteps := 1000000) (disch := omega) only [resVal, resAll, resOne, rs8, Env.get, go_sem, Nat.reduceEqDiff, Nat.reduceLT, Nat.reduceAdd, Nat.reduceSub, Nat.reduceMul, Nat.reduceBEq, Int.reduceLT, Int.reduceAdd, Int.reduceMul, Int.reduceSub, Int.reduceToNat, Int.reduceLE, Int.reduceEq, ↓reduceIte, reduceCtorEq, Int.reduceNeg, Nat.reduceLeDiff]) (by simp only [AV.und, AV.unds, and_self])
  | true =>
    simp (maxSteps := 1000000) (disch := omega) only [go_sem, Nat.reduceEqDiff, Nat.reduceLT, Nat.reduceAdd, Nat.reduceSub, Nat.reduceMul, Nat.reduceBEq, Int.reduceLT, Int.reduceAdd, Int.reduceMul, Int.reduceSub, Int.reduceToNat, Int.reduceLE, Int.reduceEq, ↓reduceIte, reduceCtorEq, Int.reduceNeg, Nat.reduceLeDiff,  full, len, all, tk, drp]
    first | refine callB_intro (g11 _) ?_ | refine callD_intro (g11 _) ?_ | refine callP_intro (fun _ => (g11 _)) ?_ | refine callX_pure (g11 _) ?_
    cases he : estB e with
    | false =>
      simp (maxSteps := 1000000) (disch := omega) only [go_sem, Nat.reduceEqDiff, Nat.reduceLT, Nat.reduceAdd, Nat.reduceSub, Nat.reduceMul, Nat.reduceBEq, Int.reduceLT, Int.reduceAdd, Int.reduceMul, Int.reduceSub, Int.reduceToNat, Int.reduceLE, Int.reduceEq, ↓reduceIte, reduceCtorEq, Int.reduceNeg, Nat.reduceLeDiff]
      exact fin_ext (by simp) (Ext.app _ _) (by simp (maxSteps := 1000000) (disch := omega) only [resVal, resAll, resOne, rs8, Env.get, go_sem, Nat.reduceEqDiff, Nat.reduceLT, Nat.reduceAdd, Nat.reduceSub, Nat.reduceMul, Nat.reduceBEq, Int.reduceLT, Int.reduceAdd, Int.reduceMul, Int.reduceSub, Int.reduceToNat, Int.reduceLE, Int.reduceEq, ↓reduceIte, reduceCtorEq, Int.reduceNeg, Nat.reduceLeDiff]) (by simp only [AV.und, AV.unds, and_self])
    | true =>
      by_cases m40 : (40 : Int) < (ord.length : Int)
      · simp (maxSteps := 1000000) (disch := omega) only [go_sem, Nat.reduceEqDiff, Nat.reduceLT, Nat.reduceAdd, Nat.reduceSub, Nat.reduceMul, Nat.reduceBEq, Int.reduceLT, Int.reduceAdd, Int.reduceMul, Int.reduceSub, Int.reduceToNat, Int.reduceLE, Int.reduceEq, ↓reduceIte, reduceCtorEq, Int.reduceNeg, Nat.reduceLeDiff,  m40]
        exact fin_ext (by simp) (Ext.app _ _) (by simp (maxSteps := 1000000) (disch := omega) only [resVal, resAll, resOne, rs8, Env.get, go_sem, Nat.reduceEqDiff, Nat.reduceLT, Nat.reduceAdd, Nat.reduceSub, Nat.reduceMul, Nat.reduceBEq, Int.reduceLT, Int.reduceAdd, Int.reduceMul, Int.reduceSub, Int.reduceToNat, Int.reduceLE, Int.reduceEq, ↓reduceIte, reduceCtorEq, Int.reduceNeg, Nat.reduceLeDiff]) (by simp only [AV.und, AV.unds, and_self])
      have m40' : ord.length ≤ 40 := by omega
      simp (maxSteps := 1000000) (disch := omega) only [go_sem, Nat.reduceEqDiff, Nat.reduceLT, Nat.reduceAdd, Nat.reduceSub, Nat.reduceMul, Nat.reduceBEq, Int.reduceLT, Int.reduceAdd, Int.reduceMul, Int.reduceSub, Int.reduceToNat, Int.reduceLE, Int.reduceEq, ↓reduceIte, reduceCtorEq, Int.reduceNeg, Nat.reduceLeDiff,  m40, full, len, all, tk, drp]
      first | refine callBE (f16 hm he (hok.app _)) ?_ | refine callDE (f16 hm he (hok.app _)) ?_ | refine callXE (f16 hm he (hok.app _)) ?_
      rintro v Y hy ⟨q, rfl, hq, hl⟩
      obtain ⟨D0, D1⟩ := dlt_len he
      obtain ⟨n, hn⟩ : ∃ n, ((dlt e).length + 7) / 8 = n := ⟨_, rfl⟩
      rw [hn] at hq ⊢
      have hHY : Ext H Y := (Ext.app _ _).trans hy
      have b3 : blkAt Y (H.length + 1) = some ⟨[.int .i64 y0, .int .i64 y1, .int .i64 y2, .int .i64 y3, .int .i64 y4, .int .i64 y5], true⟩ := hy.blk (by simp only [go_sem, Nat.reduceEqDiff, Nat.reduceLT, Nat.reduceAdd, Nat.reduceSub, Nat.reduceMul, Nat.reduceBEq, Int.reduceLT, Int.reduceAdd, Int.reduceMul, Int.reduceSub, Int.reduceToNat, Int.reduceLE, Int.reduceEq, ↓reduceIte, reduceCtorEq, Int.reduceNeg, Nat.reduceLeDiff])
      have b4 : blkAt Y (H.length + 2) = some ⟨e.av, true⟩ := hy.blk (by simp only [go_sem, Nat.reduceEqDiff, Nat.reduceLT, Nat.reduceAdd, Nat.reduceSub, Nat.reduceMul, Nat.reduceBEq, Int.reduceLT, Int.reduceAdd, Int.reduceMul, Int.reduceSub, Int.reduceToNat, Int.reduceLE, Int.reduceEq, ↓reduceIte, reduceCtorEq, Int.reduceNeg, Nat.reduceLeDiff])
      have b5 : blkAt Y (H.length + 3) = some ⟨[.int .i64 a, .int .i64 b, .int .i64 c, .int .i64 d], true⟩ := hy.blk (by simp only [go_sem, Nat.reduceEqDiff, Nat.reduceLT, Nat.reduceAdd, Nat.reduceSub, Nat.reduceMul, Nat.reduceBEq, Int.reduceLT, Int.reduceAdd, Int.reduceMul, Int.reduceSub, Int.reduceToNat, Int.reduceLE, Int.reduceEq, ↓reduceIte, reduceCtorEq, Int.reduceNeg, Nat.reduceLeDiff])
      have l5 := blkAt_lt b5
      have lq := blkAt_lt hq
      simp only [List.length_append, List.length_cons, List.length_nil] at hl
      have n0 : ¬ n = 0 := by omega
      have n0i : ¬ (n : Int) = 0 := by omega
      have D2 : ¬ ((dlt e).length : Int) < 1 := by omega
      have D3 : ¬ (39 : Int) < ((dlt e).length : Int) := by omega
      simp (maxSteps := 1000000) (disch := omega) only [go_sem, Nat.reduceEqDiff, Nat.reduceLT, Nat.reduceAdd, Nat.reduceSub, Nat.reduceMul, Nat.reduceBEq, Int.reduceLT, Int.reduceAdd, Int.reduceMul, Int.reduceSub, Int.reduceToNat, Int.reduceLE, Int.reduceEq, ↓reduceIte, reduceCtorEq, Int.reduceNeg, Nat.reduceLeDiff,  b3, b4, b5, l5, len, tk, n0, n0i, D2, D3]
      have hY5 : ∀ x, blkAt (Y.set (H.length + 3) x) (H.length + 3) = x := fun x => blkAt_set_self l5 x
      simp (maxSteps := 1000000) (disch := omega) only [go_sem, Nat.reduceEqDiff, Nat.reduceLT, Nat.reduceAdd, Nat.reduceSub, Nat.reduceMul, Nat.reduceBEq, Int.reduceLT, Int.reduceAdd, Int.reduceMul, Int.reduceSub, Int.reduceToNat, Int.reduceLE, Int.reduceEq, ↓reduceIte, reduceCtorEq, Int.reduceNeg, Nat.reduceLeDiff,  hY5]
      have hZ : Ext H (Y.set (H.length + 3) (some ⟨[.int .i64 a, .int .i64 b, .int .i64 c, .int .i64 ((dlt e).length : Int)], true⟩)) := hHY.set (by omega) _
      have c3 := (blkAt_set_ne (H := Y) (b := H.length + 3) (c := H.length + 1) (by omega) (some ⟨[.int .i64 a, .int .i64 b, .int .i64 c, .int .i64 ((dlt e).length : Int)], true⟩)).trans b3
      have c4 := (blkAt_set_ne (H := Y) (b := H.length + 3) (c := H.length + 2) (by omega) (some ⟨[.int .i64 a, .int .i64 b, .int .i64 c, .int .i64 ((dlt e).length : Int)], true⟩)).trans b4
      have c5 := hY5 (some ⟨[.int .i64 a, .int .i64 b, .int .i64 c, .int .i64 ((dlt e).length : Int)], true⟩)
      have cq := (blkAt_set_ne (H := Y) (b := H.length + 3) (c := q) (by omega) (some ⟨[.int .i64 a, .int .i64 b, .int .i64 c, .int .i64 ((dlt e).length : Int)], true⟩)).trans hq
      generalize Y.set (H.length + 3) (some ⟨[.int .i64 a, .int .i64 b, .int .i64 c, .int .i64 ((dlt e).length : Int)], true⟩) = Z at *
      have g19 := fun (G : Heap) => f19 (a := a) (b := b) (c := c) (d := ((dlt e).length : Int)) (H := G)
      first | refine callB_intro (g19 _) ?_ | refine callD_intro (g19 _) ?_ | refine callP_intro (fun _ => (g19 _)) ?_ | refine callX_pure (g19 _) ?_
      cases hk : mrkB a b c ((dlt e).length : Int) with
      | false =>
        simp (maxSteps := 1000000) (disch := omega) only [go_sem, Nat.reduceEqDiff, Nat.reduceLT, Nat.reduceAdd, Nat.reduceSub, Nat.reduceMul, Nat.reduceBEq, Int.reduceLT, Int.reduceAdd, Int.reduceMul, Int.reduceSub, Int.reduceToNat, Int.reduceLE, Int.reduceEq, ↓reduceIte, reduceCtorEq, Int.reduceNeg, Nat.reduceLeDiff]
        exact fin_ext (by simp) hZ (by simp (maxSteps := 1000000) (disch := omega) only [resVal, resAll, resOne, rs8, Env.get, go_sem, Nat.reduceEqDiff, Nat.reduceLT, Nat.reduceAdd, Nat.reduceSub, Nat.reduceMul, Nat.reduceBEq, Int.reduceLT, Int.reduceAdd, Int.reduceMul, Int.reduceSub, Int.reduceToNat, Int.reduceLE, Int.reduceEq, ↓reduceIte, reduceCtorEq, Int.reduceNeg, Nat.reduceLeDiff]) (by simp only [AV.und, AV.unds, and_self])
      | true =>
        have m3 := blkAt_lt c3
        have m4 := blkAt_lt c4
        have m5 := blkAt_lt c5
        have mq := blkAt_lt cq
        simp (maxSteps := 1000000) (disch := omega) only [go_sem, Nat.reduceEqDiff, Nat.reduceLT, Nat.reduceAdd, Nat.reduceSub, Nat.reduceMul, Nat.reduceBEq, Int.reduceLT, Int.reduceAdd, Int.reduceMul, Int.reduceSub, Int.reduceToNat, Int.reduceLE, Int.reduceEq, ↓reduceIte, reduceCtorEq, Int.reduceNeg, Nat.reduceLeDiff]
        refine f8_loop (H := H) (n := n) (a := a) (b := b) (c := c) (y0 := y0) (y1 := y1) (y2 := y2) (y3 := y3) (y4 := y4) (y5 := y5) (e := e) (ord := ord) hok ho rfl m40' hm he hk hn ⟨by omega, by omega, by omega, by omega, by omega⟩ (by have := hZ.len; omega) ?_ ord.length 0 (fun _ => false) (Sn.new 0 0 0 0) _ 0 (by omega) ⟨by rw [blkAt_lo _ m3]; exact c3, by rw [blkAt_lo _ m4]; exact c4, by rw [blkAt_lo _ m5]; exact c5, by rw [blkAt_lo _ mq]; exact cq, by simp only [go_sem, Nat.reduceEqDiff, Nat.reduceLT, Nat.reduceAdd, Nat.reduceSub, Nat.reduceMul, Nat.reduceBEq, Int.reduceLT, Int.reduceAdd, Int.reduceMul, Int.reduceSub, Int.reduceToNat, Int.reduceLE, Int.reduceEq, ↓reduceIte, reduceCtorEq, Int.reduceNeg, Nat.reduceLeDiff]; rfl, by simp only [go_sem, Nat.reduceEqDiff, Nat.reduceLT, Nat.reduceAdd, Nat.reduceSub, Nat.reduceMul, Nat.reduceBEq, Int.reduceLT, Int.reduceAdd, Int.reduceMul, Int.reduceSub, Int.reduceToNat, Int.reduceLE, Int.reduceEq, ↓reduceIte, reduceCtorEq, Int.reduceNeg, Nat.reduceLeDiff]; rfl, Got.zero a b c (dlt e) n, hZ.to _⟩ (cn0 n).symm
        intro A s X d
        simp (maxSteps := 1000000) (disch := omega) only [go_sem, Nat.reduceEqDiff, Nat.reduceLT, Nat.reduceAdd, Nat.reduceSub, Nat.reduceMul, Nat.reduceBEq, Int.reduceLT, Int.reduceAdd, Int.reduceMul, Int.reduceSub, Int.reduceToNat, Int.reduceLE, Int.reduceEq, ↓reduceIte, reduceCtorEq, Int.reduceNeg, Nat.reduceLeDiff]
        exact fin_ext (by simp) d.ext (by simp (maxSteps := 1000000) (disch := omega) only [resVal, resAll, resOne, rs8, Env.get, go_sem, Nat.reduceEqDiff, Nat.reduceLT, Nat.reduceAdd, Nat.reduceSub, Nat.reduceMul, Nat.reduceBEq, Int.reduceLT, Int.reduceAdd, Int.reduceMul, Int.reduceSub, Int.reduceToNat, Int.reduceLE, Int.reduceEq, ↓reduceIte, reduceCtorEq, Int.reduceNeg, Nat.reduceLeDiff]) (by simp only [AV.und, AV.unds, and_self])
end Go.Proofs.Ytbjlbcihhleclaa.Ah
