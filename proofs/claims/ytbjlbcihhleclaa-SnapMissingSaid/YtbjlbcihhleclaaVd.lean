/- Vd: a part of the proof: contracts of functions, or plain laws. Conditions: none. -/
import Derived.Test.YtbjlbcihhleclaaVc
namespace Go.Proofs.Ytbjlbcihhleclaa.Ah
open Go
attribute [local irreducible] acs aopsK drawK leave condK bindR bindD bindX guardK guardD callB callD callX callP callPv rfunG rfunK yldB yldD
attribute [local go_sem] mop mget mfind mput mres keyed AV.isAgg beq_self_eq_true Bool.true_and Option.isSome_some List.set_cons_zero acs_nil acs_blk acs_skip acs_reg acs_dreg acs_freg acs_nam0 acs_nam nones acs_seq acs_cond acs_block acs_exit acs_ret acs_kl acs_loop leave_nil leave_code leave_lp leave_blk aopsK_nil aopsK_cons aopsK_guard bindR_val bindR_need bindR_br bindR_call bindR_ycall acs_rfun rfunG_fn bindR_bad drawK_nil drawK_cons drawK_wat bindW_val bindW_need bindW_br WatL_nil WatL_cons isP_ptr drawK_ext drawK_pur drawK_guard callPv_fn drawK_purv bindD_val bindD_need bindD_br bindD_call bindD_ycall bindD_bad bindX_val bindX_need bindX_br bindX_call guardD_bool guardD_tup grows grows0 List.append_cancel_left_eq List.cons.injEq exists_eq' exists_eq condK_bool guardK_bool guardK_tup sor r0 r1 r2 r3 rC rB rI rP rA rT rS rF rSl rO rbin rcut run1 Env.evals Env.eval Env.get Env.put Env.ins Env.del Env.dels argEnv AV.full AV.cells AV.cell eqCells decide_true decide_false decide_eq_true_eq decide_eq_false_iff_not Bool.not_eq_true' Bool.not_eq_false' true_and and_true false_implies true_implies forall_const Bool.not_true Bool.not_false Bool.false_eq_true Bool.true_eq_false List.getElem?_cons_zero List.getElem?_cons_succ List.length_cons List.length_nil List.length_append List.all_cons List.all_nil Bool.and_true Bool.and_self implies_true List.append_assoc List.cons_append List.nil_append List.append_nil i64_in imin_eq imax_eq cast3 cast0 cast1 cast2 Option.map_none ite_self and_false false_and Option.isSome_some or_true true_or Int.sub_zero Int.mul_one Nat.sub_zero Nat.zero_le Int.cast_ofNat_Int Int.natCast_nonneg Int.toNat_natCast ne_eq not_false_eq_true not_true_eq_false strC blkAt_app blkAt_app0 blkAt_zero blkAt_succ List.set_cons_zero List.set_cons_succ set_app set_app0 Option.map_some Option.bind_some rd setCells lay rdS szOk rapp ownAt lenAt Option.any_some Option.getD_some List.drop_zero List.drop_succ_cons List.take_succ_cons List.take_zero List.drop_nil List.take_nil Nat.lt_irrefl Nat.zero_add Nat.add_zero Nat.mul_one Nat.one_mul Nat.add_assoc Option.some.injEq eq_self
set_option maxHeartbeats 4000000
set_option linter.unusedSimpArgs false
set_option linter.unusedVariables false
/-! Deltas: how long. -/
theorem f63 (n : Int) (H : Heap) (h : 0 ≤ n ∧ n ≤ 4611686018427387904) : ACall Try.prog 63 [.int .i64 n] H (.int .i64 ((n + 7) / 8)) H := by
  refine acall63 (by simp) (acs_start ?_)
  unfold c63
  simp (maxSteps := 1000000) (disch := omega) only [go_sem, Nat.reduceEqDiff, Nat.reduceLT, Nat.reduceAdd, Nat.reduceSub, Nat.reduceMul, Nat.reduceBEq, Int.reduceLT, Int.reduceAdd, Int.reduceMul, Int.reduceSub, Int.reduceToNat, Int.reduceLE, Int.reduceEq, ↓reduceIte, reduceCtorEq, Int.reduceNeg, Nat.reduceLeDiff]
  repeat' (first | intro _ | (with_reducible refine And.intro ?_ ?_))
  · have e : (n + 7) / 8 = 0 := by omega
    rw [e]
    exact fin_same (by simp) _ (by first | exact (List.append_nil _).symm | rfl) (by simp (maxSteps := 1000000) (disch := omega) only [resVal, resAll, resOne, rs63, Env.get, go_sem, Nat.reduceEqDiff, Nat.reduceLT, Nat.reduceAdd, Nat.reduceSub, Nat.reduceMul, Nat.reduceBEq, Int.reduceLT, Int.reduceAdd, Int.reduceMul, Int.reduceSub, Int.reduceToNat, Int.reduceLE, Int.reduceEq, ↓reduceIte, reduceCtorEq, Int.reduceNeg, Nat.reduceLeDiff]) (by simp only [AV.und, AV.unds, and_self])
  · have e : (n - 1).tdiv 8 = (n - 1) / 8 := Int.tdiv_eq_ediv_of_nonneg (by omega)
    have e2 : (n + 7) / 8 = (n - 1) / 8 + 1 := by omega
    simp (maxSteps := 1000000) (disch := omega) only [go_sem, Nat.reduceEqDiff, Nat.reduceLT, Nat.reduceAdd, Nat.reduceSub, Nat.reduceMul, Nat.reduceBEq, Int.reduceLT, Int.reduceAdd, Int.reduceMul, Int.reduceSub, Int.reduceToNat, Int.reduceLE, Int.reduceEq, ↓reduceIte, reduceCtorEq, Int.reduceNeg, Nat.reduceLeDiff,  e]
    exact fin_i _ (by first | exact (List.append_nil _).symm | rfl) (by simp) (by simp (maxSteps := 1000000) (disch := omega) only [resVal, resAll, resOne, rs63, Env.get, go_sem, Nat.reduceEqDiff, Nat.reduceLT, Nat.reduceAdd, Nat.reduceSub, Nat.reduceMul, Nat.reduceBEq, Int.reduceLT, Int.reduceAdd, Int.reduceMul, Int.reduceSub, Int.reduceToNat, Int.reduceLE, Int.reduceEq, ↓reduceIte, reduceCtorEq, Int.reduceNeg, Nat.reduceLeDiff] <;> rfl) (by ((repeat' split) <;> omega))
def cnt : List Int → List Int → Nat
  | b :: bs, n :: ns => (if b = n then 0 else 1) + cnt bs ns
  | _, _ => 0
theorem dif_length : ∀ (bs ns : List Int) (cur : List Int) (j : Nat), (dif (cur, j) bs ns).length = cur.length + cnt bs ns
  | [], [], cur, j => by simp [dif, cnt]
  | [], _ :: _, cur, j => by simp [dif, cnt]
  | _ :: _, [], cur, j => by simp [dif, cnt]
  | b :: bs, n :: ns, cur, j => by
    rw [dif, dif_length, cnt]
    by_cases h : n = b
    · simp [h]
    · have h' : ¬ b = n := fun e => h e.symm
      simp [h, h']
      omega
theorem cnt_le : ∀ (bs ns : List Int), cnt bs ns ≤ ns.length
  | [], [] => by simp [cnt]
  | [], _ :: _ => by simp [cnt]
  | _ :: _, [] => by simp [cnt]
  | b :: bs, n :: ns => by
    have := cnt_le bs ns
    rw [cnt]
    split <;> simp <;> omega
theorem dif_same : ∀ (l : List Int) (cur : List Int) (j : Nat), dif (cur, j) l l = cur
  | [], cur, j => by simp [dif]
  | x :: l, cur, j => by rw [dif, if_pos rfl, dif_same l]
theorem diff_same (l : List Int) : diff l l = List.replicate ((l.length + 59) / 60) 0 := dif_same l _ _
theorem diff_pos {bs ns : List Int} (h : 0 < ns.length) : 0 < (diff bs ns).length := by
  unfold diff
  rw [dif_length, List.length_replicate]
  omega
theorem diff_le {bs ns : List Int} (h : ns.length ≤ 600) : (diff bs ns).length ≤ 1000 := by
  unfold diff
  rw [dif_length, List.length_replicate]
  have := cnt_le bs ns
  omega
end Go.Proofs.Ytbjlbcihhleclaa.Ah
