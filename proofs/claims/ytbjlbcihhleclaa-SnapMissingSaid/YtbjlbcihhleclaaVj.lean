/- Vj: a part of the proof: contracts of functions, or plain laws. Conditions: none. -/
import Derived.Test.YtbjlbcihhleclaaVi
namespace Go.Proofs.Ytbjlbcihhleclaa.Ah
open Go Go.WideShapes
attribute [local irreducible] acs aopsK drawK leave condK bindR bindD bindX guardK guardD callB callD callX callP callPv rfunG rfunK yldB yldD
attribute [local go_sem] mop mget mfind mput mres keyed AV.isAgg beq_self_eq_true Bool.true_and Option.isSome_some List.set_cons_zero acs_nil acs_blk acs_skip acs_reg acs_dreg acs_freg acs_nam0 acs_nam nones acs_seq acs_cond acs_block acs_exit acs_ret acs_kl acs_loop leave_nil leave_code leave_lp leave_blk aopsK_nil aopsK_cons aopsK_guard bindR_val bindR_need bindR_br bindR_call bindR_ycall acs_rfun rfunG_fn bindR_bad drawK_nil drawK_cons drawK_wat bindW_val bindW_need bindW_br WatL_nil WatL_cons isP_ptr drawK_ext drawK_pur drawK_guard callPv_fn drawK_purv bindD_val bindD_need bindD_br bindD_call bindD_ycall bindD_bad bindX_val bindX_need bindX_br bindX_call guardD_bool guardD_tup grows grows0 List.append_cancel_left_eq List.cons.injEq exists_eq' exists_eq condK_bool guardK_bool guardK_tup sor r0 r1 r2 r3 rC rB rI rP rA rT rS rF rSl rO rbin rcut run1 Env.evals Env.eval Env.get Env.put Env.ins Env.del Env.dels argEnv AV.full AV.cells AV.cell eqCells decide_true decide_false decide_eq_true_eq decide_eq_false_iff_not Bool.not_eq_true' Bool.not_eq_false' true_and and_true false_implies true_implies forall_const Bool.not_true Bool.not_false Bool.false_eq_true Bool.true_eq_false List.getElem?_cons_zero List.getElem?_cons_succ List.length_cons List.length_nil List.length_append List.all_cons List.all_nil Bool.and_true Bool.and_self implies_true List.append_assoc List.cons_append List.nil_append List.append_nil i64_in imin_eq imax_eq cast3 cast0 cast1 cast2 Option.map_none ite_self and_false false_and Option.isSome_some or_true true_or Int.sub_zero Int.mul_one Nat.sub_zero Nat.zero_le Int.cast_ofNat_Int Int.natCast_nonneg Int.toNat_natCast ne_eq not_false_eq_true not_true_eq_false strC blkAt_app blkAt_app0 blkAt_zero blkAt_succ List.set_cons_zero List.set_cons_succ set_app set_app0 Option.map_some Option.bind_some rd setCells lay rdS szOk rapp ownAt lenAt Option.any_some Option.getD_some List.drop_zero List.drop_succ_cons List.take_succ_cons List.take_zero List.drop_nil List.take_nil Nat.lt_irrefl Nat.zero_add Nat.add_zero Nat.mul_one Nat.one_mul Nat.add_assoc Option.some.injEq eq_self
set_option maxHeartbeats 4000000
set_option linter.unusedSimpArgs false
set_option linter.unusedVariables false
/-! Bits, as numbers. -/
def cb (u : Nat) : Nat → Nat
  | 0 => 0
  | n + 1 => u % 2 + cb (u / 2) n
theorem cb_add : ∀ (a u b : Nat), cb u (a + b) = cb u a + cb (u / 2 ^ a) b
  | 0, u, b => by simp [cb]
  | a + 1, u, b => by
    rw [show a + 1 + b = (a + b) + 1 by omega, cb, cb, cb_add a, Nat.div_div_eq_div_mul, show 2 * 2 ^ a = 2 ^ (a + 1) by rw [Nat.pow_succ]; omega]
    omega
theorem pop8_cb (v : Nat) : pop8 (v % 256) = cb v 8 := by
  simp only [cb, pop8, Nat.div_div_eq_div_mul, Nat.reduceMul]
  omega
theorem dig_cb : ∀ (k x : Nat), ((dig x k).map pop8).sum = cb x (8 * k)
  | 0, x => rfl
  | k + 1, x => by
    rw [dig, List.map_cons, List.sum_cons, dig_cb k, show 8 * (k + 1) = 8 + 8 * k by omega, cb_add, pop8_cb]
theorem pop_cb (u : Nat) : pop u = cb u 64 := dig_cb 8 u
/-- A bit of a word. -/
def wb (n : Int) (t : Nat) : Bool := decide (u64 n / 2 ^ t % 2 = 1)
theorem u64_bit (n : Int) (t : Nat) (ht : t < 64) : ((u64 n / 2 ^ t % 2 : Nat) : Int) = n / 2 ^ t % 2 := by
  have h := u64_mod n
  have e : (18446744073709551616 : Int) = 2 ^ t * (2 ^ (63 - t) * 2) := by
    rw [show (2 : Int) ^ (63 - t) * 2 = 2 ^ (64 - t) by rw [← Int.pow_succ]; congr 1; omega, ← Int.pow_add, show t + (64 - t) = 64 by omega]
    rfl
  have hn : n = (u64 n : Int) + 2 ^ t * (2 ^ (63 - t) * 2 * (n / 18446744073709551616)) := by
    rw [h, ← Int.mul_assoc, ← e]
    omega
  have hp : (2 : Int) ^ t ≠ 0 := Int.pow_ne_zero (by decide)
  have h2 : n / 2 ^ t = (u64 n : Int) / 2 ^ t + (2 ^ (63 - t) * 2 * (n / 18446744073709551616)) := by
    conv => lhs; rw [hn]
    rw [Int.add_mul_ediv_left _ _ hp]
  have h3 : 2 ^ (63 - t) * 2 * (n / 18446744073709551616) = 2 * (2 ^ (63 - t) * (n / 18446744073709551616)) := by
    rw [Int.mul_comm (2 ^ (63 - t)) 2, Int.mul_assoc]
  rw [h2, h3]
  have h4 : ((u64 n / 2 ^ t % 2 : Nat) : Int) = (u64 n : Int) / 2 ^ t % 2 := by push_cast; rfl
  rw [h4]
  omega
theorem bit_wb (d : List Int) (j : Nat) : bit d j = wb (d.getD (j / 60) 0) (j % 60) := by
  have h := u64_bit (d.getD (j / 60) 0) (j % 60) (by omega)
  unfold bit wb
  rw [← h]
  exact decide_eq_decide.2 (by omega)
theorem wb_if (n : Int) (t : Nat) : (if wb n t then 1 else 0) = u64 n / 2 ^ t % 2 := by
  unfold wb
  have := Nat.mod_two_eq_zero_or_one (u64 n / 2 ^ t)
  split <;> simp at * <;> omega
theorem pl_add (d : List Int) : ∀ (a j b : Nat), pl d j (a + b) = pl d j a + pl d (j + a) b
  | 0, j, b => by simp [pl]
  | a + 1, j, b => by
    rw [show a + 1 + b = (a + b) + 1 by omega, pl, pl, pl_add d a, show j + 1 + a = j + (a + 1) by omega]
    omega
theorem pl_word (d : List Int) (i : Nat) : ∀ (m t : Nat), t + m ≤ 60 → pl d (60 * i + t) m = cb (u64 (d.getD i 0) / 2 ^ t) m
  | 0, _, _ => rfl
  | m + 1, t, h => by
    rw [pl, cb, show 60 * i + t + 1 = 60 * i + (t + 1) by omega, pl_word d i m (t + 1) (by omega), bit_wb, show (60 * i + t) / 60 = i by omega, show (60 * i + t) % 60 = t by omega, wb_if, Nat.div_div_eq_div_mul, ← Nat.pow_succ]
theorem ones_take (d : List Int) (n : Nat) (h : n < d.length) : ones (d.take (n + 1)) = ones (d.take n) + pop (u64 (d.getD n 0)) := by
  rw [List.take_add_one, List.getElem?_eq_getElem h, ones_app]
  simp [ones, List.getD_eq_getElem?_getD, List.getElem?_eq_getElem h]
theorem pl_ones (d : List Int) : ∀ (n : Nat), n ≤ d.length → pl d 0 (60 * n) ≤ ones (d.take n)
  | 0, _ => by simp [pl]
  | n + 1, h => by
    have ih := pl_ones d n (by omega)
    have hw := pl_word d n 60 0 (by omega)
    rw [Nat.add_zero, Nat.pow_zero, Nat.div_one] at hw
    rw [show 60 * (n + 1) = 60 * n + 60 by omega, pl_add, ones_take d n (by omega), Nat.zero_add, hw, pop_cb, show 64 = 60 + 4 from rfl, cb_add]
    omega
theorem pl_le (d : List Int) (j : Nat) {a b : Nat} (h : a ≤ b) : pl d j a ≤ pl d j b := by
  obtain ⟨k, rfl⟩ := Nat.le.dest h
  rw [pl_add]
  omega
theorem f44_any {bs d : List Int} {p q oq : Nat} {c1 c2 : Option Nat} {H : Heap} (hp : Sl i64 H p 0 bs) (hq : Sl i64 H q oq d) (hdl : d.length ≤ 100000) (hbl : bs.length ≤ 100000) :
    ACall Try.prog 44 [.sl p 0 bs.length 1 c1, .sl q oq d.length 1 c2] H (rowres (aspec bs d) H) (rowheap (aspec bs d) H) := by
  unfold aspec rowres rowheap
  have g := fun H => f59 bs.length H (by omega)
  by_cases h1 : 600 < bs.length
  · rw [if_pos h1]
    refine call_nilres2 (acall44 (by simp) (acs_start ?_))
    have h1' : (600 : Int) < (bs.length : Int) := by omega
    unfold c44
    simp (maxSteps := 1000000) (disch := omega) only [go_sem, Nat.reduceEqDiff, Nat.reduceLT, Nat.reduceAdd, Nat.reduceSub, Nat.reduceMul, Nat.reduceBEq, Int.reduceLT, Int.reduceAdd, Int.reduceMul, Int.reduceSub, Int.reduceToNat, Int.reduceLE, Int.reduceEq, ↓reduceIte, reduceCtorEq, Int.reduceNeg, Nat.reduceLeDiff,  h1']
    first | refine callB_intro (g _) ?_ | refine callD_intro (g _) ?_ | refine callP_intro (fun _ => (g _)) ?_ | refine callX_pure (g _) ?_
    simp (maxSteps := 1000000) (disch := omega) only [go_sem, Nat.reduceEqDiff, Nat.reduceLT, Nat.reduceAdd, Nat.reduceSub, Nat.reduceMul, Nat.reduceBEq, Int.reduceLT, Int.reduceAdd, Int.reduceMul, Int.reduceSub, Int.reduceToNat, Int.reduceLE, Int.reduceEq, ↓reduceIte, reduceCtorEq, Int.reduceNeg, Nat.reduceLeDiff,  h1']
    exact fin_same (by simp) _ (by first | exact (List.append_nil _).symm | rfl) (by simp (maxSteps := 1000000) (disch := omega) only [resVal, resAll, resOne, rs44, Env.get, go_sem, Nat.reduceEqDiff, Nat.reduceLT, Nat.reduceAdd, Nat.reduceSub, Nat.reduceMul, Nat.reduceBEq, Int.reduceLT, Int.reduceAdd, Int.reduceMul, Int.reduceSub, Int.reduceToNat, Int.reduceLE, Int.reduceEq, ↓reduceIte, reduceCtorEq, Int.reduceNeg, Nat.reduceLeDiff]) (by simp only [AV.und, AV.unds, and_self])
  rw [if_neg h1]
  by_cases h2 : d.length < (bs.length + 59) / 60
  · rw [if_pos h2]
    refine call_nilres2 (acall44 (by simp) (acs_start ?_))
    have h1' : ¬ (600 : Int) < (bs.length : Int) := by omega
    have h2' : (d.length : Int) < ((bs.length : Int) + 59) / 60 := by omega
    unfold c44
    simp (maxSteps := 1000000) (disch := omega) only [go_sem, Nat.reduceEqDiff, Nat.reduceLT, Nat.reduceAdd, Nat.reduceSub, Nat.reduceMul, Nat.reduceBEq, Int.reduceLT, Int.reduceAdd, Int.reduceMul, Int.reduceSub, Int.reduceToNat, Int.reduceLE, Int.reduceEq, ↓reduceIte, reduceCtorEq, Int.reduceNeg, Nat.reduceLeDiff,  h1']
    first | refine callB_intro (g _) ?_ | refine callD_intro (g _) ?_ | refine callP_intro (fun _ => (g _)) ?_ | refine callX_pure (g _) ?_
    simp (maxSteps := 1000000) (disch := omega) only [go_sem, Nat.reduceEqDiff, Nat.reduceLT, Nat.reduceAdd, Nat.reduceSub, Nat.reduceMul, Nat.reduceBEq, Int.reduceLT, Int.reduceAdd, Int.reduceMul, Int.reduceSub, Int.reduceToNat, Int.reduceLE, Int.reduceEq, ↓reduceIte, reduceCtorEq, Int.reduceNeg, Nat.reduceLeDiff,  h1', h2']
    exact fin_same (by simp) _ (by first | exact (List.append_nil _).symm | rfl) (by simp (maxSteps := 1000000) (disch := omega) only [resVal, resAll, resOne, rs44, Env.get, go_sem, Nat.reduceEqDiff, Nat.reduceLT, Nat.reduceAdd, Nat.reduceSub, Nat.reduceMul, Nat.reduceBEq, Int.reduceLT, Int.reduceAdd, Int.reduceMul, Int.reduceSub, Int.reduceToNat, Int.reduceLE, Int.reduceEq, ↓reduceIte, reduceCtorEq, Int.reduceNeg, Nat.reduceLeDiff]) (by simp only [AV.und, AV.unds, and_self])
  rw [if_neg h2]
  have hn : ((bs.length : Int) + 59) / 60 = (((bs.length + 59) / 60 : Nat) : Int) := by omega
  have body := fun h h' => f44_body (c1 := c1) (c2 := c2) hp hq (by omega) hdl (by omega) h h'
  have hpo := Nat.le_trans (pl_le d 0 (show bs.length ≤ 60 * ((bs.length + 59) / 60) by omega)) (pl_ones d ((bs.length + 59) / 60) (by omega))
  have gq := hq.take ((bs.length + 59) / 60)
  have gt : (d.take ((bs.length + 59) / 60)).length = (bs.length + 59) / 60 := by simp; omega
  generalize hN : (bs.length + 59) / 60 = N at *
  have g20 := fun c => f65 (c := c) gq (by omega)
  rw [gt] at g20
  by_cases h3 : ones (d.take N) = d.length - N
  · rw [if_neg (by simp [h3])]
    have body := body h3 (by omega)
    generalize ap d bs 0 (d.drop N) [] = R at *
    cases R with
    | none => exact call_nilres2 (acall44 (by simp) body)
    | some R => exact acallW (fun v' h => acall44 (by simp) h) body
  · rw [if_pos h3]
    have h1' : ¬ (600 : Int) < (bs.length : Int) := by omega
    have h2' : ¬ (d.length : Int) < (N : Int) := by omega
    have hNd : (N : Int) ≤ (d.length : Int) := by omega
    have hNs : ((d.length : Int) - (N : Int)).toNat = d.length - N := by omega
    have h3' : ¬ ((ones (d.take N) : Nat) : Int) = ((d.length - N : Nat) : Int) := by omega
    refine call_nilres2 (acall44 (by simp) (acs_start ?_))
    generalize ones (d.take N) = O at *
    unfold c44
    rw [hn] at g
    simp (maxSteps := 1000000) (disch := omega) only [go_sem, Nat.reduceEqDiff, Nat.reduceLT, Nat.reduceAdd, Nat.reduceSub, Nat.reduceMul, Nat.reduceBEq, Int.reduceLT, Int.reduceAdd, Int.reduceMul, Int.reduceSub, Int.reduceToNat, Int.reduceLE, Int.reduceEq, ↓reduceIte, reduceCtorEq, Int.reduceNeg, Nat.reduceLeDiff,  h1']
    first | refine callB_intro (g _) ?_ | refine callD_intro (g _) ?_ | refine callP_intro (fun _ => (g _)) ?_ | refine callX_pure (g _) ?_
    simp (maxSteps := 1000000) (disch := omega) only [go_sem, Nat.reduceEqDiff, Nat.reduceLT, Nat.reduceAdd, Nat.reduceSub, Nat.reduceMul, Nat.reduceBEq, Int.reduceLT, Int.reduceAdd, Int.reduceMul, Int.reduceSub, Int.reduceToNat, Int.reduceLE, Int.reduceEq, ↓reduceIte, reduceCtorEq, Int.reduceNeg, Nat.reduceLeDiff,  h1', h2', hNd]
    refine ⟨Int.le_refl _, ?_⟩
    first | refine callB_intro (g20 _) ?_ | refine callD_intro (g20 _) ?_ | refine callP_intro (fun _ => (g20 _)) ?_ | refine callX_pure (g20 _) ?_
    simp (maxSteps := 1000000) (disch := omega) only [go_sem, Nat.reduceEqDiff, Nat.reduceLT, Nat.reduceAdd, Nat.reduceSub, Nat.reduceMul, Nat.reduceBEq, Int.reduceLT, Int.reduceAdd, Int.reduceMul, Int.reduceSub, Int.reduceToNat, Int.reduceLE, Int.reduceEq, ↓reduceIte, reduceCtorEq, Int.reduceNeg, Nat.reduceLeDiff,  hNs, h3']
    exact fin_same (by simp) _ (by first | exact (List.append_nil _).symm | rfl) (by simp (maxSteps := 1000000) (disch := omega) only [resVal, resAll, resOne, rs44, Env.get, go_sem, Nat.reduceEqDiff, Nat.reduceLT, Nat.reduceAdd, Nat.reduceSub, Nat.reduceMul, Nat.reduceBEq, Int.reduceLT, Int.reduceAdd, Int.reduceMul, Int.reduceSub, Int.reduceToNat, Int.reduceLE, Int.reduceEq, ↓reduceIte, reduceCtorEq, Int.reduceNeg, Nat.reduceLeDiff]) (by simp only [AV.und, AV.unds, and_self])
end Go.Proofs.Ytbjlbcihhleclaa.Ah
