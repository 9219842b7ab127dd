/- Vb: a part of the proof: contracts of functions, or plain laws. Conditions: none. -/
import Derived.Test.YtbjlbcihhleclaaVa
namespace Go.Proofs.Ytbjlbcihhleclaa.Ah
open Go Go.WideShapes
attribute [local irreducible] acs aopsK drawK leave condK bindR bindD bindX guardK guardD callB callD callX callP callPv rfunG rfunK yldB yldD
attribute [local go_sem] mop mget mfind mput mres keyed AV.isAgg beq_self_eq_true Bool.true_and Option.isSome_some List.set_cons_zero acs_nil acs_blk acs_skip acs_reg acs_dreg acs_freg acs_nam0 acs_nam nones acs_seq acs_cond acs_block acs_exit acs_ret acs_kl acs_loop leave_nil leave_code leave_lp leave_blk aopsK_nil aopsK_cons aopsK_guard bindR_val bindR_need bindR_br bindR_call bindR_ycall acs_rfun rfunG_fn bindR_bad drawK_nil drawK_cons drawK_wat bindW_val bindW_need bindW_br WatL_nil WatL_cons isP_ptr drawK_ext drawK_pur drawK_guard callPv_fn drawK_purv bindD_val bindD_need bindD_br bindD_call bindD_ycall bindD_bad bindX_val bindX_need bindX_br bindX_call guardD_bool guardD_tup grows grows0 List.append_cancel_left_eq List.cons.injEq exists_eq' exists_eq condK_bool guardK_bool guardK_tup sor r0 r1 r2 r3 rC rB rI rP rA rT rS rF rSl rO rbin rcut run1 Env.evals Env.eval Env.get Env.put Env.ins Env.del Env.dels argEnv AV.full AV.cells AV.cell eqCells decide_true decide_false decide_eq_true_eq decide_eq_false_iff_not Bool.not_eq_true' Bool.not_eq_false' true_and and_true false_implies true_implies forall_const Bool.not_true Bool.not_false Bool.false_eq_true Bool.true_eq_false List.getElem?_cons_zero List.getElem?_cons_succ List.length_cons List.length_nil List.length_append List.all_cons List.all_nil Bool.and_true Bool.and_self implies_true List.append_assoc List.cons_append List.nil_append List.append_nil i64_in imin_eq imax_eq cast3 cast0 cast1 cast2 Option.map_none ite_self and_false false_and Option.isSome_some or_true true_or Int.sub_zero Int.mul_one Nat.sub_zero Nat.zero_le Int.cast_ofNat_Int Int.natCast_nonneg Int.toNat_natCast ne_eq not_false_eq_true not_true_eq_false strC blkAt_app blkAt_app0 blkAt_zero blkAt_succ List.set_cons_zero List.set_cons_succ set_app set_app0 Option.map_some Option.bind_some rd setCells lay rdS szOk rapp ownAt lenAt Option.any_some Option.getD_some List.drop_zero List.drop_succ_cons List.take_succ_cons List.take_zero List.drop_nil List.take_nil Nat.lt_irrefl Nat.zero_add Nat.add_zero Nat.mul_one Nat.one_mul Nat.add_assoc Option.some.injEq eq_self
set_option maxHeartbeats 8000000
set_option linter.unusedSimpArgs false
set_option linter.unusedVariables false
/-! Which estimators are right. -/
structure Es where
  t0 : Int
  t1 : Int
  t2 : Int
  t3 : Int
  a : Tk
  b : Tk
  c : Tk
  st : Int
  co : Int
  o0 : Int
  o1 : Int
  o2 : Int
  o3 : Int
  sat : Bool
def Es.av (e : Es) : List AV := [.int .i64 e.t0, .int .i64 e.t1, .int .i64 e.t2, .int .i64 e.t3, .int .i64 e.a.xr, .int .i64 e.a.xc, .sl e.a.xp e.a.xo e.a.xl.length 1 e.a.xk, .int .i64 e.a.pr, .int .i64 e.a.pc, .sl e.a.pp e.a.po e.a.pl.length 1 e.a.pk, .int .i64 e.b.xr, .int .i64 e.b.xc, .sl e.b.xp e.b.xo e.b.xl.length 1 e.b.xk, .int .i64 e.b.pr, .int .i64 e.b.pc, .sl e.b.pp e.b.po e.b.pl.length 1 e.b.pk, .int .i64 e.c.xr, .int .i64 e.c.xc, .sl e.c.xp e.c.xo e.c.xl.length 1 e.c.xk, .int .i64 e.c.pr, .int .i64 e.c.pc, .sl e.c.pp e.c.po e.c.pl.length 1 e.c.pk, .int .i64 e.st, .int .i64 e.co, .int .i64 e.o0, .int .i64 e.o1, .int .i64 e.o2, .int .i64 e.o3, .bool e.sat]
structure Es.ok (e : Es) (H : Heap) : Prop where
  ha : e.a.ok H
  hb : e.b.ok H
  hc : e.c.ok H
theorem Es.ok.ext {e : Es} {H H' : Heap} (h : e.ok H) (hx : Ext H H') : e.ok H' := ⟨h.ha.ext hx, h.hb.ext hx, h.hc.ext hx⟩
theorem Es.ok.app {e : Es} {H : Heap} (h : e.ok H) (G : Heap) : e.ok (H ++ G) := h.ext (.app _ _)
def estB (e : Es) : Bool := decide (0 ≤ e.st) && decide (e.st ≤ 1099511627776) && okO e.co && okO e.o0 && okO e.o1 && okO e.o2 && okO e.o3 && (trkB e.a && decide (e.a.xr = 3)) && (trkB e.b && decide (e.b.xr = 3)) && (trkB e.c && decide (e.c.xr = 3)) && q4B e.t0 e.t1 e.t2 e.t3
theorem okO_lo {n : Int} (h : n < 0) : okO n = false := by unfold okO; rw [decide_eq_false (by omega)]; rfl
theorem okO_hi {n : Int} (h : 1000 < n) : okO n = false := by unfold okO; rw [Bool.and_comm, decide_eq_false (by omega)]; rfl
theorem okO_ok {n : Int} (h : ¬ n < 0) (h2 : ¬ 1000 < n) : okO n = true := by unfold okO; rw [decide_eq_true (by omega), decide_eq_true (by omega)]; rfl
theorem f11 {e : Es} {H : Heap} (h : e.ok H) : ACall Try.prog 11 [.agg e.av] H (.bool (estB e)) H := by
  refine acall11 (by simp) (acs_start ?_)
  have ga := fun G => f26 (h.app G).ha
  have gb := fun G => f26 (h.app G).hb
  have gc := fun G => f26 (h.app G).hc
  unfold Tk.av at ga gb gc
  unfold c11 estB Es.av
  by_cases s1 : e.st < 0
  · try simp only [show decide (0 ≤ e.st) = false from decide_eq_false (by omega), Bool.false_and, Bool.and_false]
    simp (maxSteps := 1000000) (disch := omega) only [go_sem, Nat.reduceEqDiff, Nat.reduceLT, Nat.reduceAdd, Nat.reduceSub, Nat.reduceMul, Nat.reduceBEq, Int.reduceLT, Int.reduceAdd, Int.reduceMul, Int.reduceSub, Int.reduceToNat, Int.reduceLE, Int.reduceEq, ↓reduceIte, reduceCtorEq, Int.reduceNeg, Nat.reduceLeDiff,  s1]
    exact fin_ext (by simp) (Ext.app _ _) (by simp (maxSteps := 1000000) (disch := omega) only [resVal, resAll, resOne, rs11, Env.get, go_sem, Nat.reduceEqDiff, Nat.reduceLT, Nat.reduceAdd, Nat.reduceSub, Nat.reduceMul, Nat.reduceBEq, Int.reduceLT, Int.reduceAdd, Int.reduceMul, Int.reduceSub, Int.reduceToNat, Int.reduceLE, Int.reduceEq, ↓reduceIte, reduceCtorEq, Int.reduceNeg, Nat.reduceLeDiff]) (by simp only [AV.und, AV.unds, and_self])
  by_cases s2 : 1099511627776 < e.st
  · try simp only [show decide (e.st ≤ 1099511627776) = false from decide_eq_false (by omega), Bool.false_and, Bool.and_false]
    simp (maxSteps := 1000000) (disch := omega) only [go_sem, Nat.reduceEqDiff, Nat.reduceLT, Nat.reduceAdd, Nat.reduceSub, Nat.reduceMul, Nat.reduceBEq, Int.reduceLT, Int.reduceAdd, Int.reduceMul, Int.reduceSub, Int.reduceToNat, Int.reduceLE, Int.reduceEq, ↓reduceIte, reduceCtorEq, Int.reduceNeg, Nat.reduceLeDiff,  s1, s2]
    exact fin_ext (by simp) (Ext.app _ _) (by simp (maxSteps := 1000000) (disch := omega) only [resVal, resAll, resOne, rs11, Env.get, go_sem, Nat.reduceEqDiff, Nat.reduceLT, Nat.reduceAdd, Nat.reduceSub, Nat.reduceMul, Nat.reduceBEq, Int.reduceLT, Int.reduceAdd, Int.reduceMul, Int.reduceSub, Int.reduceToNat, Int.reduceLE, Int.reduceEq, ↓reduceIte, reduceCtorEq, Int.reduceNeg, Nat.reduceLeDiff]) (by simp only [AV.und, AV.unds, and_self])
  by_cases s3 : e.co < 0
  · try simp only [okO_lo s3, Bool.false_and, Bool.and_false]
    simp (maxSteps := 1000000) (disch := omega) only [go_sem, Nat.reduceEqDiff, Nat.reduceLT, Nat.reduceAdd, Nat.reduceSub, Nat.reduceMul, Nat.reduceBEq, Int.reduceLT, Int.reduceAdd, Int.reduceMul, Int.reduceSub, Int.reduceToNat, Int.reduceLE, Int.reduceEq, ↓reduceIte, reduceCtorEq, Int.reduceNeg, Nat.reduceLeDiff,  s1, s2, s3]
    exact fin_ext (by simp) (Ext.app _ _) (by simp (maxSteps := 1000000) (disch := omega) only [resVal, resAll, resOne, rs11, Env.get, go_sem, Nat.reduceEqDiff, Nat.reduceLT, Nat.reduceAdd, Nat.reduceSub, Nat.reduceMul, Nat.reduceBEq, Int.reduceLT, Int.reduceAdd, Int.reduceMul, Int.reduceSub, Int.reduceToNat, Int.reduceLE, Int.reduceEq, ↓reduceIte, reduceCtorEq, Int.reduceNeg, Nat.reduceLeDiff]) (by simp only [AV.und, AV.unds, and_self])
  by_cases s4 : 1000 < e.co
  · try simp only [okO_hi s4, Bool.false_and, Bool.and_false]
    simp (maxSteps := 1000000) (disch := omega) only [go_sem, Nat.reduceEqDiff, Nat.reduceLT, Nat.reduceAdd, Nat.reduceSub, Nat.reduceMul, Nat.reduceBEq, Int.reduceLT, Int.reduceAdd, Int.reduceMul, Int.reduceSub, Int.reduceToNat, Int.reduceLE, Int.reduceEq, ↓reduceIte, reduceCtorEq, Int.reduceNeg, Nat.reduceLeDiff,  s1, s2, s3, s4]
    exact fin_ext (by simp) (Ext.app _ _) (by simp (maxSteps := 1000000) (disch := omega) only [resVal, resAll, resOne, rs11, Env.get, go_sem, Nat.reduceEqDiff, Nat.reduceLT, Nat.reduceAdd, Nat.reduceSub, Nat.reduceMul, Nat.reduceBEq, Int.reduceLT, Int.reduceAdd, Int.reduceMul, Int.reduceSub, Int.reduceToNat, Int.reduceLE, Int.reduceEq, ↓reduceIte, reduceCtorEq, Int.reduceNeg, Nat.reduceLeDiff]) (by simp only [AV.und, AV.unds, and_self])
  simp only [show decide (0 ≤ e.st) = true from decide_eq_true (by omega), show decide (e.st ≤ 1099511627776) = true from decide_eq_true (by omega), okO_ok s3 s4, Bool.true_and]
  simp (maxSteps := 1000000) (disch := omega) only [go_sem, Nat.reduceEqDiff, Nat.reduceLT, Nat.reduceAdd, Nat.reduceSub, Nat.reduceMul, Nat.reduceBEq, Int.reduceLT, Int.reduceAdd, Int.reduceMul, Int.reduceSub, Int.reduceToNat, Int.reduceLE, Int.reduceEq, ↓reduceIte, reduceCtorEq, Int.reduceNeg, Nat.reduceLeDiff,  s1, s2, s3, s4]
  rw [acs_lp]; conv in Fr.code c11l1 => unfold c11l1
  by_cases l0 : e.o0 < 0
  · try simp only [okO_lo l0, Bool.false_and, Bool.and_false]
    simp (maxSteps := 1000000) (disch := omega) only [go_sem, Nat.reduceEqDiff, Nat.reduceLT, Nat.reduceAdd, Nat.reduceSub, Nat.reduceMul, Nat.reduceBEq, Int.reduceLT, Int.reduceAdd, Int.reduceMul, Int.reduceSub, Int.reduceToNat, Int.reduceLE, Int.reduceEq, ↓reduceIte, reduceCtorEq, Int.reduceNeg, Nat.reduceLeDiff,  l0]
    exact fin_ext (by simp) (Ext.app _ _) (by simp (maxSteps := 1000000) (disch := omega) only [resVal, resAll, resOne, rs11, Env.get, go_sem, Nat.reduceEqDiff, Nat.reduceLT, Nat.reduceAdd, Nat.reduceSub, Nat.reduceMul, Nat.reduceBEq, Int.reduceLT, Int.reduceAdd, Int.reduceMul, Int.reduceSub, Int.reduceToNat, Int.reduceLE, Int.reduceEq, ↓reduceIte, reduceCtorEq, Int.reduceNeg, Nat.reduceLeDiff]) (by simp only [AV.und, AV.unds, and_self])
  by_cases g0 : 1000 < e.o0
  · try simp only [okO_hi g0, Bool.false_and, Bool.and_false]
    simp (maxSteps := 1000000) (disch := omega) only [go_sem, Nat.reduceEqDiff, Nat.reduceLT, Nat.reduceAdd, Nat.reduceSub, Nat.reduceMul, Nat.reduceBEq, Int.reduceLT, Int.reduceAdd, Int.reduceMul, Int.reduceSub, Int.reduceToNat, Int.reduceLE, Int.reduceEq, ↓reduceIte, reduceCtorEq, Int.reduceNeg, Nat.reduceLeDiff,  l0, g0]
    exact fin_ext (by simp) (Ext.app _ _) (by simp (maxSteps := 1000000) (disch := omega) only [resVal, resAll, resOne, rs11, Env.get, go_sem, Nat.reduceEqDiff, Nat.reduceLT, Nat.reduceAdd, Nat.reduceSub, Nat.reduceMul, Nat.reduceBEq, Int.reduceLT, Int.reduceAdd, Int.reduceMul, Int.reduceSub, Int.reduceToNat, Int.reduceLE, Int.reduceEq, ↓reduceIte, reduceCtorEq, Int.reduceNeg, Nat.reduceLeDiff]) (by simp only [AV.und, AV.unds, and_self])
  try simp only [okO_ok l0 g0, Bool.true_and]
  simp (maxSteps := 1000000) (disch := omega) only [go_sem, Nat.reduceEqDiff, Nat.reduceLT, Nat.reduceAdd, Nat.reduceSub, Nat.reduceMul, Nat.reduceBEq, Int.reduceLT, Int.reduceAdd, Int.reduceMul, Int.reduceSub, Int.reduceToNat, Int.reduceLE, Int.reduceEq, ↓reduceIte, reduceCtorEq, Int.reduceNeg, Nat.reduceLeDiff,  l0, g0]
  rw [acs_lp]; conv in Fr.code c11l1 => unfold c11l1
  by_cases l1 : e.o1 < 0
  · try simp only [okO_lo l1, Bool.false_and, Bool.and_false]
    simp (maxSteps := 1000000) (disch := omega) only [go_sem, Nat.reduceEqDiff, Nat.reduceLT, Nat.reduceAdd, Nat.reduceSub, Nat.reduceMul, Nat.reduceBEq, Int.reduceLT, Int.reduceAdd, Int.reduceMul, Int.reduceSub, Int.reduceToNat, Int.reduceLE, Int.reduceEq, ↓reduceIte, reduceCtorEq, Int.reduceNeg, Nat.reduceLeDiff,  l1]
    exact fin_ext (by simp) (Ext.app _ _) (by simp (maxSteps := 1000000) (disch := omega) only [resVal, resAll, resOne, rs11, Env.get, go_sem, Nat.reduceEqDiff, Nat.reduceLT, Nat.reduceAdd, Nat.reduceSub, Nat.reduceMul, Nat.reduceBEq, Int.reduceLT, Int.reduceAdd, Int.reduceMul, Int.reduceSub, Int.reduceToNat, Int.reduceLE, Int.reduceEq, ↓reduceIte, reduceCtorEq, Int.reduceNeg, Nat.reduceLeDiff]) (by simp only [AV.und, AV.unds, and_self])
  by_cases g1 : 1000 < e.o1
  · try simp only [okO_hi g1, Bool.false_and, Bool.and_false]
    simp (maxSteps := 1000000) (disch := omega) only [go_sem, Nat.reduceEqDiff, Nat.reduceLT, Nat.reduceAdd, Nat.reduceSub, Nat.reduceMul, Nat.reduceBEq, Int.reduceLT, Int.reduceAdd, Int.reduceMul, Int.reduceSub, Int.reduceToNat, Int.reduceLE, Int.reduceEq, ↓reduceIte, reduceCtorEq, Int.reduceNeg, Nat.reduceLeDiff,  l1, g1]
    exact fin_ext (by simp) (Ext.app _ _) (by simp (maxSteps := 1000000) (disch := omega) only [resVal, resAll, resOne, rs11, Env.get, go_sem, Nat.reduceEqDiff, Nat.reduceLT, Nat.reduceAdd, Nat.reduceSub, Nat.reduceMul, Nat.reduceBEq, Int.reduceLT, Int.reduceAdd, Int.reduceMul, Int.reduceSub, Int.reduceToNat, Int.reduceLE, Int.reduceEq, ↓reduceIte, reduceCtorEq, Int.reduceNeg, Nat.reduceLeDiff]) (by simp only [AV.und, AV.unds, and_self])
  try simp only [okO_ok l1 g1, Bool.true_and]
  simp (maxSteps := 1000000) (disch := omega) only [go_sem, Nat.reduceEqDiff, Nat.reduceLT, Nat.reduceAdd, Nat.reduceSub, Nat.reduceMul, Nat.reduceBEq, Int.reduceLT, Int.reduceAdd, Int.reduceMul, Int.reduceSub, Int.reduceToNat, Int.reduceLE, Int.reduceEq, ↓reduceIte, reduceCtorEq, Int.reduceNeg, Nat.reduceLeDiff,  l1, g1]
  rw [acs_lp]; conv in Fr.code c11l1 => unfold c11l1
  by_cases l2 : e.o2 < 0
  · try simp only [okO_lo l2, Bool.false_and, Bool.and_false]
    simp (maxSteps := 1000000) (disch := omega) only [go_sem, Nat.reduceEqDiff, Nat.reduceLT, Nat.reduceAdd, Nat.reduceSub, Nat.reduceMul, Nat.reduceBEq, Int.reduceLT, Int.reduceAdd, Int.reduceMul, Int.reduceSub, Int.reduceToNat, Int.reduceLE, Int.reduceEq, ↓reduceIte, reduceCtorEq, Int.reduceNeg, Nat.reduceLeDiff,  l2]
    exact fin_ext (by simp) (Ext.app _ _) (by simp (maxSteps := 1000000) (disch := omega) only [resVal, resAll, resOne, rs11, Env.get, go_sem, Nat.reduceEqDiff, Nat.reduceLT, Nat.reduceAdd, Nat.reduceSub, Nat.reduceMul, Nat.reduceBEq, Int.reduceLT, Int.reduceAdd, Int.reduceMul, Int.reduceSub, Int.reduceToNat, Int.reduceLE, Int.reduceEq, ↓reduceIte, reduceCtorEq, Int.reduceNeg, Nat.reduceLeDiff]) (by simp only [AV.und, AV.unds, and_self])
  by_cases g2 : 1000 < e.o2
  · try simp only [okO_hi g2, Bool.false_and, Bool.and_false]
    simp (maxSteps := 1000000) (disch := omega) only [go_sem, Nat.reduceEqDiff, Nat.reduceLT, Nat.reduceAdd, Nat.reduceSub, Nat.reduceMul, Nat.reduceBEq, Int.reduceLT, Int.reduceAdd, Int.reduceMul, Int.reduceSub, Int.reduceToNat, Int.reduceLE, Int.reduceEq, ↓reduceIte, reduceCtorEq, Int.reduceNeg, Nat.reduceLeDiff,  l2, g2]
    exact fin_ext (by simp) (Ext.app _ _) (by simp (maxSteps := 1000000) (disch := omega) only [resVal, resAll, resOne, rs11, Env.get, go_sem, Nat.reduceEqDiff, Nat.reduceLT, Nat.reduceAdd, Nat.reduceSub, Nat.reduceMul, Nat.reduceBEq, Int.reduceLT, Int.reduceAdd, Int.reduceMul, Int.reduceSub, Int.reduceToNat, Int.reduceLE, Int.reduceEq, ↓reduceIte, reduceCtorEq, Int.reduceNeg, Nat.reduceLeDiff]) (by simp only [AV.und, AV.unds, and_self])
  try simp only [okO_ok l2 g2, Bool.true_and]
  simp (maxSteps := 1000000) (disch := omega) only [go_sem, Nat.reduceEqDiff, Nat.reduceLT, Nat.reduceAdd, Nat.reduceSub, Nat.reduceMul, Nat.reduceBEq, Int.reduceLT, Int.reduceAdd, Int.reduceMul, Int.reduceSub, Int.reduceToNat, Int.reduceLE, Int.reduceEq, ↓reduceIte, reduceCtorEq, Int.reduceNeg, Nat.reduceLeDiff,  l2, g2]
  rw [acs_lp]; conv in Fr.code c11l1 => unfold c11l1
  by_cases l3 : e.o3 < 0
  · try simp only [okO_lo l3, Bool.false_and, Bool.and_false]
    simp (maxSteps := 1000000) (disch := omega) only [go_sem, Nat.reduceEqDiff, Nat.reduceLT, Nat.reduceAdd, Nat.reduceSub, Nat.reduceMul, Nat.reduceBEq, Int.reduceLT, Int.reduceAdd, Int.reduceMul, Int.reduceSub, Int.reduceToNat, Int.reduceLE, Int.reduceEq, ↓reduceIte, reduceCtorEq, Int.reduceNeg, Nat.reduceLeDiff,  l3]
    exact fin_ext (by simp) (Ext.app _ _) (by simp (maxSteps := 1000000) (disch := omega) only [resVal, resAll, resOne, rs11, Env.get, go_sem, Nat.reduceEqDiff, Nat.reduceLT, Nat.reduceAdd, Nat.reduceSub, Nat.reduceMul, Nat.reduceBEq, Int.reduceLT, Int.reduceAdd, Int.reduceMul, Int.reduceSub, Int.reduceToNat, Int.reduceLE, Int.reduceEq, ↓reduceIte, reduceCtorEq, Int.reduceNeg, Nat.reduceLeDiff]) (by simp only [AV.und, AV.unds, and_self])
  by_cases g3 : 1000 < e.o3
  · try simp only [okO_hi g3, Bool.false_and, Bool.and_false]
    simp (maxSteps := 1000000) (disch := omega) only [go_sem, Nat.reduceEqDiff, Nat.reduceLT, Nat.reduceAdd, Nat.reduceSub, Nat.reduceMul, Nat.reduceBEq, Int.reduceLT, Int.reduceAdd, Int.reduceMul, Int.reduceSub, Int.reduceToNat, Int.reduceLE, Int.reduceEq, ↓reduceIte, reduceCtorEq, Int.reduceNeg, Nat.reduceLeDiff,  l3, g3]
    exact fin_ext (by simp) (Ext.app _ _) (by simp (maxSteps := 1000000) (disch := omega) only [resVal, resAll, resOne, rs11, Env.get, go_sem, Nat.reduceEqDiff, Nat.reduceLT, Nat.reduceAdd, Nat.reduceSub, Nat.reduceMul, Nat.reduceBEq, Int.reduceLT, Int.reduceAdd, Int.reduceMul, Int.reduceSub, Int.reduceToNat, Int.reduceLE, Int.reduceEq, ↓reduceIte, reduceCtorEq, Int.reduceNeg, Nat.reduceLeDiff]) (by simp only [AV.und, AV.unds, and_self])
  try simp only [okO_ok l3 g3, Bool.true_and]
  simp (maxSteps := 1000000) (disch := omega) only [go_sem, Nat.reduceEqDiff, Nat.reduceLT, Nat.reduceAdd, Nat.reduceSub, Nat.reduceMul, Nat.reduceBEq, Int.reduceLT, Int.reduceAdd, Int.reduceMul, Int.reduceSub, Int.reduceToNat, Int.reduceLE, Int.reduceEq, ↓reduceIte, reduceCtorEq, Int.reduceNeg, Nat.reduceLeDiff,  l3, g3]
  rw [acs_lp]; conv in Fr.code c11l1 => unfold c11l1
  simp (maxSteps := 1000000) (disch := omega) only [go_sem, Nat.reduceEqDiff, Nat.reduceLT, Nat.reduceAdd, Nat.reduceSub, Nat.reduceMul, Nat.reduceBEq, Int.reduceLT, Int.reduceAdd, Int.reduceMul, Int.reduceSub, Int.reduceToNat, Int.reduceLE, Int.reduceEq, ↓reduceIte, reduceCtorEq, Int.reduceNeg, Nat.reduceLeDiff]
  rw [acs_lp]; conv in Fr.code c11l0 => unfold c11l0
  simp (maxSteps := 1000000) (disch := omega) only [go_sem, Nat.reduceEqDiff, Nat.reduceLT, Nat.reduceAdd, Nat.reduceSub, Nat.reduceMul, Nat.reduceBEq, Int.reduceLT, Int.reduceAdd, Int.reduceMul, Int.reduceSub, Int.reduceToNat, Int.reduceLE, Int.reduceEq, ↓reduceIte, reduceCtorEq, Int.reduceNeg, Nat.reduceLeDiff]
  first | refine callB_intro (ga _) ?_ | refine callD_intro (ga _) ?_ | refine callP_intro (fun _ => (ga _)) ?_ | refine callX_pure (ga _) ?_
  cases xa : trkB e.a with
  | false =>
    try simp only [Bool.false_and, Bool.and_false]
    simp (maxSteps := 1000000) (disch := omega) only [go_sem, Nat.reduceEqDiff, Nat.reduceLT, Nat.reduceAdd, Nat.reduceSub, Nat.reduceMul, Nat.reduceBEq, Int.reduceLT, Int.reduceAdd, Int.reduceMul, Int.reduceSub, Int.reduceToNat, Int.reduceLE, Int.reduceEq, ↓reduceIte, reduceCtorEq, Int.reduceNeg, Nat.reduceLeDiff]
    exact fin_ext (by simp) (Ext.app _ _) (by simp (maxSteps := 1000000) (disch := omega) only [resVal, resAll, resOne, rs11, Env.get, go_sem, Nat.reduceEqDiff, Nat.reduceLT, Nat.reduceAdd, Nat.reduceSub, Nat.reduceMul, Nat.reduceBEq, Int.reduceLT, Int.reduceAdd, Int.reduceMul, Int.reduceSub, Int.reduceToNat, Int.reduceLE, Int.reduceEq, ↓reduceIte, reduceCtorEq, Int.reduceNeg, Nat.reduceLeDiff]) (by simp only [AV.und, AV.unds, and_self])
  | true =>
  by_cases ya : ¬ e.a.xr = 3
  · simp only [ya, decide_false, Bool.and_false, Bool.false_and]
    simp (maxSteps := 1000000) (disch := omega) only [go_sem, Nat.reduceEqDiff, Nat.reduceLT, Nat.reduceAdd, Nat.reduceSub, Nat.reduceMul, Nat.reduceBEq, Int.reduceLT, Int.reduceAdd, Int.reduceMul, Int.reduceSub, Int.reduceToNat, Int.reduceLE, Int.reduceEq, ↓reduceIte, reduceCtorEq, Int.reduceNeg, Nat.reduceLeDiff,  ya]
    exact fin_ext (by simp) (Ext.app _ _) (by simp (maxSteps := 1000000) (disch := omega) only [resVal, resAll, resOne, rs11, Env.get, go_sem, Nat.reduceEqDiff, Nat.reduceLT, Nat.reduceAdd, Nat.reduceSub, Nat.reduceMul, Nat.reduceBEq, Int.reduceLT, Int.reduceAdd, Int.reduceMul, Int.reduceSub, Int.reduceToNat, Int.reduceLE, Int.reduceEq, ↓reduceIte, reduceCtorEq, Int.reduceNeg, Nat.reduceLeDiff]) (by simp only [AV.und, AV.unds, and_self])
  replace ya := Classical.not_not.1 ya
  simp only [ya, decide_true, Bool.true_and]
  simp (maxSteps := 1000000) (disch := omega) only [go_sem, Nat.reduceEqDiff, Nat.reduceLT, Nat.reduceAdd, Nat.reduceSub, Nat.reduceMul, Nat.reduceBEq, Int.reduceLT, Int.reduceAdd, Int.reduceMul, Int.reduceSub, Int.reduceToNat, Int.reduceLE, Int.reduceEq, ↓reduceIte, reduceCtorEq, Int.reduceNeg, Nat.reduceLeDiff,  ya]
  rw [acs_lp]; conv in Fr.code c11l0 => unfold c11l0
  simp (maxSteps := 1000000) (disch := omega) only [go_sem, Nat.reduceEqDiff, Nat.reduceLT, Nat.reduceAdd, Nat.reduceSub, Nat.reduceMul, Nat.reduceBEq, Int.reduceLT, Int.reduceAdd, Int.reduceMul, Int.reduceSub, Int.reduceToNat, Int.reduceLE, Int.reduceEq, ↓reduceIte, reduceCtorEq, Int.reduceNeg, Nat.reduceLeDiff]
  first | refine callB_intro (gb _) ?_ | refine callD_intro (gb _) ?_ | refine callP_intro (fun _ => (gb _)) ?_ | refine callX_pure (gb _) ?_
  cases xb : trkB e.b with
  | false =>
    try simp only [Bool.false_and, Bool.and_false]
    simp (maxSteps := 1000000) (disch := omega) only [go_sem, Nat.reduceEqDiff, Nat.reduceLT, Nat.reduceAdd, Nat.reduceSub, Nat.reduceMul, Nat.reduceBEq, Int.reduceLT, Int.reduceAdd, Int.reduceMul, Int.reduceSub, Int.reduceToNat, Int.reduceLE, Int.reduceEq, ↓reduceIte, reduceCtorEq, Int.reduceNeg, Nat.reduceLeDiff]
    exact fin_ext (by simp) (Ext.app _ _) (by simp (maxSteps := 1000000) (disch := omega) only [resVal, resAll, resOne, rs11, Env.get, go_sem, Nat.reduceEqDiff, Nat.reduceLT, Nat.reduceAdd, Nat.reduceSub, Nat.reduceMul, Nat.reduceBEq, Int.reduceLT, Int.reduceAdd, Int.reduceMul, Int.reduceSub, Int.reduceToNat, Int.reduceLE, Int.reduceEq, ↓reduceIte, reduceCtorEq, Int.reduceNeg, Nat.reduceLeDiff]) (by simp only [AV.und, AV.unds, and_self])
  | true =>
  by_cases yb : ¬ e.b.xr = 3
  · simp only [yb, decide_false, Bool.and_false, Bool.false_and]
    simp (maxSteps := 1000000) (disch := omega) only [go_sem, Nat.reduceEqDiff, Nat.reduceLT, Nat.reduceAdd, Nat.reduceSub, Nat.reduceMul, Nat.reduceBEq, Int.reduceLT, Int.reduceAdd, Int.reduceMul, Int.reduceSub, Int.reduceToNat, Int.reduceLE, Int.reduceEq, ↓reduceIte, reduceCtorEq, Int.reduceNeg, Nat.reduceLeDiff,  yb]
    exact fin_ext (by simp) (Ext.app _ _) (by simp (maxSteps := 1000000) (disch := omega) only [resVal, resAll, resOne, rs11, Env.get, go_sem, Nat.reduceEqDiff, Nat.reduceLT, Nat.reduceAdd, Nat.reduceSub, Nat.reduceMul, Nat.reduceBEq, Int.reduceLT, Int.reduceAdd, Int.reduceMul, Int.reduceSub, Int.reduceToNat, Int.reduceLE, Int.reduceEq, ↓reduceIte, reduceCtorEq, Int.reduceNeg, Nat.reduceLeDiff]) (by simp only [AV.und, AV.unds, and_self])
  replace yb := Classical.not_not.1 yb
  simp only [yb, decide_true, Bool.true_and]
  simp (maxSteps := 1000000) (disch := omega) only [go_sem, Nat.reduceEqDiff, Nat.reduceLT, Nat.reduceAdd, Nat.reduceSub, Nat.reduceMul, Nat.reduceBEq, Int.reduceLT, Int.reduceAdd, Int.reduceMul, Int.reduceSub, Int.reduceToNat, Int.reduceLE, Int.reduceEq, ↓reduceIte, reduceCtorEq, Int.reduceNeg, Nat.reduceLeDiff,  yb]
  rw [acs_lp]; conv in Fr.code c11l0 => unfold c11l0
  simp (maxSteps := 1000000) (disch := omega) only [go_sem, Nat.reduceEqDiff, Nat.reduceLT, Nat.reduceAdd, Nat.reduceSub, Nat.reduceMul, Nat.reduceBEq, Int.reduceLT, Int.reduceAdd, Int.reduceMul, Int.reduceSub, Int.reduceToNat, Int.reduceLE, Int.reduceEq, ↓reduceIte, reduceCtorEq, Int.reduceNeg, Nat.reduceLeDiff]
  first | refine callB_intro (gc _) ?_ | refine callD_intro (gc _) ?_ | refine callP_intro (fun _ => (gc _)) ?_ | refine callX_pure (gc _) ?_
  cases xc : trkB e.c with
  | false =>
    try simp only [Bool.false_and, Bool.and_false]
    simp (maxSteps := 1000000) (disch := omega) only [go_sem, Nat.reduceEqDiff, Nat.reduceLT, Nat.reduceAdd, Nat.reduceSub, Nat.reduceMul, Nat.reduceBEq, Int.reduceLT, Int.reduceAdd, Int.reduceMul, Int.reduceSub, Int.reduceToNat, Int.reduceLE, Int.reduceEq, ↓reduceIte, reduceCtorEq, Int.reduceNeg, Nat.reduceLeDiff]
    exact fin_ext (by simp) (Ext.app _ _) (by simp (maxSteps := 1000000) (disch := omega) only [resVal, resAll, resOne, rs11, Env.get, go_sem, Nat.reduceEqDiff, Nat.reduceLT, Nat.reduceAdd, Nat.reduceSub, Nat.reduceMul, Nat.reduceBEq, Int.reduceLT, Int.reduceAdd, Int.reduceMul, Int.reduceSub, Int.reduceToNat, Int.reduceLE, Int.reduceEq, ↓reduceIte, reduceCtorEq, Int.reduceNeg, Nat.reduceLeDiff]) (by simp only [AV.und, AV.unds, and_self])
  | true =>
  by_cases yc : ¬ e.c.xr = 3
  · simp only [yc, decide_false, Bool.and_false, Bool.false_and]
    simp (maxSteps := 1000000) (disch := omega) only [go_sem, Nat.reduceEqDiff, Nat.reduceLT, Nat.reduceAdd, Nat.reduceSub, Nat.reduceMul, Nat.reduceBEq, Int.reduceLT, Int.reduceAdd, Int.reduceMul, Int.reduceSub, Int.reduceToNat, Int.reduceLE, Int.reduceEq, ↓reduceIte, reduceCtorEq, Int.reduceNeg, Nat.reduceLeDiff,  yc]
    exact fin_ext (by simp) (Ext.app _ _) (by simp (maxSteps := 1000000) (disch := omega) only [resVal, resAll, resOne, rs11, Env.get, go_sem, Nat.reduceEqDiff, Nat.reduceLT, Nat.reduceAdd, Nat.reduceSub, Nat.reduceMul, Nat.reduceBEq, Int.reduceLT, Int.reduceAdd, Int.reduceMul, Int.reduceSub, Int.reduceToNat, Int.reduceLE, Int.reduceEq, ↓reduceIte, reduceCtorEq, Int.reduceNeg, Nat.reduceLeDiff]) (by simp only [AV.und, AV.unds, and_self])
  replace yc := Classical.not_not.1 yc
  simp only [yc, decide_true, Bool.true_and]
  simp (maxSteps := 1000000) (disch := omega) only [go_sem, Nat.reduceEqDiff, Nat.reduceLT, Nat.reduceAdd, Nat.reduceSub, Nat.reduceMul, Nat.reduceBEq, Int.reduceLT, Int.reduceAdd, Int.reduceMul, Int.reduceSub, Int.reduceToNat, Int.reduceLE, Int.reduceEq, ↓reduceIte, reduceCtorEq, Int.reduceNeg, Nat.reduceLeDiff,  yc]
  rw [acs_lp]; conv in Fr.code c11l0 => unfold c11l0
  simp (maxSteps := 1000000) (disch := omega) only [go_sem, Nat.reduceEqDiff, Nat.reduceLT, Nat.reduceAdd, Nat.reduceSub, Nat.reduceMul, Nat.reduceBEq, Int.reduceLT, Int.reduceAdd, Int.reduceMul, Int.reduceSub, Int.reduceToNat, Int.reduceLE, Int.reduceEq, ↓reduceIte, reduceCtorEq, Int.reduceNeg, Nat.reduceLeDiff]
  first | refine callB_intro (f27) ?_ | refine callD_intro (f27) ?_ | refine callP_intro (fun _ => (f27)) ?_ | refine callX_pure (f27) ?_
  simp (maxSteps := 1000000) (disch := omega) only [go_sem, Nat.reduceEqDiff, Nat.reduceLT, Nat.reduceAdd, Nat.reduceSub, Nat.reduceMul, Nat.reduceBEq, Int.reduceLT, Int.reduceAdd, Int.reduceMul, Int.reduceSub, Int.reduceToNat, Int.reduceLE, Int.reduceEq, ↓reduceIte, reduceCtorEq, Int.reduceNeg, Nat.reduceLeDiff]
  exact fin_ext (by simp) (Ext.app _ _) (by simp (maxSteps := 1000000) (disch := omega) only [resVal, resAll, resOne, rs11, Env.get, go_sem, Nat.reduceEqDiff, Nat.reduceLT, Nat.reduceAdd, Nat.reduceSub, Nat.reduceMul, Nat.reduceBEq, Int.reduceLT, Int.reduceAdd, Int.reduceMul, Int.reduceSub, Int.reduceToNat, Int.reduceLE, Int.reduceEq, ↓reduceIte, reduceCtorEq, Int.reduceNeg, Nat.reduceLeDiff]) (by simp only [AV.und, AV.unds, and_self])

/-! Right estimators. -/
theorem f32 {e : Es} {H : Heap} (h : e.ok H) : ACall Try.prog 32 [.agg e.av] H (.bool (estB e)) H := by
  refine acall32 (by simp) (acs_start ?_)
  have ga := fun G => f55 (h.app G).ha
  have gb := fun G => f55 (h.app G).hb
  have gc := fun G => f55 (h.app G).hc
  unfold Tk.av at ga gb gc
  have g58 := fun (G : Heap) => f58p (odd := fun n => !okO n) (k := some 4) hb56 (fun _ _ => f56) (l := [e.o0, e.o1, e.o2, e.o3]) (p := H.length) (off := 24) (H := H ++ (some ⟨e.av, true⟩ :: G)) ⟨e.av, true, by rw [blkAt_app0]; rfl, (by show 28 ≤ 29; decide), rfl⟩ (by simp)
  simp only [List.length_cons, List.length_nil, Nat.reduceAdd, List.any_cons, List.any_nil, Bool.or_false] at g58
  unfold Es.av at g58
  unfold c32 estB Es.av
  simp (maxSteps := 1000000) (disch := omega) only [go_sem, Nat.reduceEqDiff, Nat.reduceLT, Nat.reduceAdd, Nat.reduceSub, Nat.reduceMul, Nat.reduceBEq, Int.reduceLT, Int.reduceAdd, Int.reduceMul, Int.reduceSub, Int.reduceToNat, Int.reduceLE, Int.reduceEq, ↓reduceIte, reduceCtorEq, Int.reduceNeg, Nat.reduceLeDiff]
  rw [acs_lp]; conv in Fr.code c32l0 => unfold c32l0
  simp (maxSteps := 1000000) (disch := omega) only [go_sem, Nat.reduceEqDiff, Nat.reduceLT, Nat.reduceAdd, Nat.reduceSub, Nat.reduceMul, Nat.reduceBEq, Int.reduceLT, Int.reduceAdd, Int.reduceMul, Int.reduceSub, Int.reduceToNat, Int.reduceLE, Int.reduceEq, ↓reduceIte, reduceCtorEq, Int.reduceNeg, Nat.reduceLeDiff]
  first | refine callB_intro (ga _) ?_ | refine callD_intro (ga _) ?_ | refine callP_intro (fun _ => (ga _)) ?_ | refine callX_pure (ga _) ?_
  cases xa : trkB e.a with
  | false =>
    try simp only [Bool.false_and, Bool.and_false]
    simp (maxSteps := 1000000) (disch := omega) only [go_sem, Nat.reduceEqDiff, Nat.reduceLT, Nat.reduceAdd, Nat.reduceSub, Nat.reduceMul, Nat.reduceBEq, Int.reduceLT, Int.reduceAdd, Int.reduceMul, Int.reduceSub, Int.reduceToNat, Int.reduceLE, Int.reduceEq, ↓reduceIte, reduceCtorEq, Int.reduceNeg, Nat.reduceLeDiff]
    exact fin_ext (by simp) (Ext.app _ _) (by simp (maxSteps := 1000000) (disch := omega) only [resVal, resAll, resOne, rs32, Env.get, go_sem, Nat.reduceEqDiff, Nat.reduceLT, Nat.reduceAdd, Nat.reduceSub, Nat.reduceMul, Nat.reduceBEq, Int.reduceLT, Int.reduceAdd, Int.reduceMul, Int.reduceSub, Int.reduceToNat, Int.reduceLE, Int.reduceEq, ↓reduceIte, reduceCtorEq, Int.reduceNeg, Nat.reduceLeDiff]) (by simp only [AV.und, AV.unds, and_self])
  | true =>
  by_cases ya : ¬ e.a.xr = 3
  · simp only [ya, decide_false, Bool.and_false, Bool.false_and]
    simp (maxSteps := 1000000) (disch := omega) only [go_sem, Nat.reduceEqDiff, Nat.reduceLT, Nat.reduceAdd, Nat.reduceSub, Nat.reduceMul, Nat.reduceBEq, Int.reduceLT, Int.reduceAdd, Int.reduceMul, Int.reduceSub, Int.reduceToNat, Int.reduceLE, Int.reduceEq, ↓reduceIte, reduceCtorEq, Int.reduceNeg, Nat.reduceLeDiff,  ya]
    exact fin_ext (by simp) (Ext.app _ _) (by simp (maxSteps := 1000000) (disch := omega) only [resVal, resAll, resOne, rs32, Env.get, go_sem, Nat.reduceEqDiff, Nat.reduceLT, Nat.reduceAdd, Nat.reduceSub, Nat.reduceMul, Nat.reduceBEq, Int.reduceLT, Int.reduceAdd, Int.reduceMul, Int.reduceSub, Int.reduceToNat, Int.reduceLE, Int.reduceEq, ↓reduceIte, reduceCtorEq, Int.reduceNeg, Nat.reduceLeDiff]) (by simp only [AV.und, AV.unds, and_self])
  replace ya := Classical.not_not.1 ya
  simp only [ya, decide_true, Bool.and_true]
  simp (maxSteps := 1000000) (disch := omega) only [go_sem, Nat.reduceEqDiff, Nat.reduceLT, Nat.reduceAdd, Nat.reduceSub, Nat.reduceMul, Nat.reduceBEq, Int.reduceLT, Int.reduceAdd, Int.reduceMul, Int.reduceSub, Int.reduceToNat, Int.reduceLE, Int.reduceEq, ↓reduceIte, reduceCtorEq, Int.reduceNeg, Nat.reduceLeDiff,  ya]
  rw [acs_lp]; conv in Fr.code c32l0 => unfold c32l0
  simp (maxSteps := 1000000) (disch := omega) only [go_sem, Nat.reduceEqDiff, Nat.reduceLT, Nat.reduceAdd, Nat.reduceSub, Nat.reduceMul, Nat.reduceBEq, Int.reduceLT, Int.reduceAdd, Int.reduceMul, Int.reduceSub, Int.reduceToNat, Int.reduceLE, Int.reduceEq, ↓reduceIte, reduceCtorEq, Int.reduceNeg, Nat.reduceLeDiff]
  first | refine callB_intro (gb _) ?_ | refine callD_intro (gb _) ?_ | refine callP_intro (fun _ => (gb _)) ?_ | refine callX_pure (gb _) ?_
  cases xb : trkB e.b with
  | false =>
    try simp only [Bool.false_and, Bool.and_false]
    simp (maxSteps := 1000000) (disch := omega) only [go_sem, Nat.reduceEqDiff, Nat.reduceLT, Nat.reduceAdd, Nat.reduceSub, Nat.reduceMul, Nat.reduceBEq, Int.reduceLT, Int.reduceAdd, Int.reduceMul, Int.reduceSub, Int.reduceToNat, Int.reduceLE, Int.reduceEq, ↓reduceIte, reduceCtorEq, Int.reduceNeg, Nat.reduceLeDiff]
    exact fin_ext (by simp) (Ext.app _ _) (by simp (maxSteps := 1000000) (disch := omega) only [resVal, resAll, resOne, rs32, Env.get, go_sem, Nat.reduceEqDiff, Nat.reduceLT, Nat.reduceAdd, Nat.reduceSub, Nat.reduceMul, Nat.reduceBEq, Int.reduceLT, Int.reduceAdd, Int.reduceMul, Int.reduceSub, Int.reduceToNat, Int.reduceLE, Int.reduceEq, ↓reduceIte, reduceCtorEq, Int.reduceNeg, Nat.reduceLeDiff]) (by simp only [AV.und, AV.unds, and_self])
  | true =>
  by_cases yb : ¬ e.b.xr = 3
  · simp only [yb, decide_false, Bool.and_false, Bool.false_and]
    simp (maxSteps := 1000000) (disch := omega) only [go_sem, Nat.reduceEqDiff, Nat.reduceLT, Nat.reduceAdd, Nat.reduceSub, Nat.reduceMul, Nat.reduceBEq, Int.reduceLT, Int.reduceAdd, Int.reduceMul, Int.reduceSub, Int.reduceToNat, Int.reduceLE, Int.reduceEq, ↓reduceIte, reduceCtorEq, Int.reduceNeg, Nat.reduceLeDiff,  yb]
    exact fin_ext (by simp) (Ext.app _ _) (by simp (maxSteps := 1000000) (disch := omega) only [resVal, resAll, resOne, rs32, Env.get, go_sem, Nat.reduceEqDiff, Nat.reduceLT, Nat.reduceAdd, Nat.reduceSub, Nat.reduceMul, Nat.reduceBEq, Int.reduceLT, Int.reduceAdd, Int.reduceMul, Int.reduceSub, Int.reduceToNat, Int.reduceLE, Int.reduceEq, ↓reduceIte, reduceCtorEq, Int.reduceNeg, Nat.reduceLeDiff]) (by simp only [AV.und, AV.unds, and_self])
  replace yb := Classical.not_not.1 yb
  simp only [yb, decide_true, Bool.and_true]
  simp (maxSteps := 1000000) (disch := omega) only [go_sem, Nat.reduceEqDiff, Nat.reduceLT, Nat.reduceAdd, Nat.reduceSub, Nat.reduceMul, Nat.reduceBEq, Int.reduceLT, Int.reduceAdd, Int.reduceMul, Int.reduceSub, Int.reduceToNat, Int.reduceLE, Int.reduceEq, ↓reduceIte, reduceCtorEq, Int.reduceNeg, Nat.reduceLeDiff,  yb]
  rw [acs_lp]; conv in Fr.code c32l0 => unfold c32l0
  simp (maxSteps := 1000000) (disch := omega) only [go_sem, Nat.reduceEqDiff, Nat.reduceLT, Nat.reduceAdd, Nat.reduceSub, Nat.reduceMul, Nat.reduceBEq, Int.reduceLT, Int.reduceAdd, Int.reduceMul, Int.reduceSub, Int.reduceToNat, Int.reduceLE, Int.reduceEq, ↓reduceIte, reduceCtorEq, Int.reduceNeg, Nat.reduceLeDiff]
  first | refine callB_intro (gc _) ?_ | refine callD_intro (gc _) ?_ | refine callP_intro (fun _ => (gc _)) ?_ | refine callX_pure (gc _) ?_
  cases xc : trkB e.c with
  | false =>
    try simp only [Bool.false_and, Bool.and_false]
    simp (maxSteps := 1000000) (disch := omega) only [go_sem, Nat.reduceEqDiff, Nat.reduceLT, Nat.reduceAdd, Nat.reduceSub, Nat.reduceMul, Nat.reduceBEq, Int.reduceLT, Int.reduceAdd, Int.reduceMul, Int.reduceSub, Int.reduceToNat, Int.reduceLE, Int.reduceEq, ↓reduceIte, reduceCtorEq, Int.reduceNeg, Nat.reduceLeDiff]
    exact fin_ext (by simp) (Ext.app _ _) (by simp (maxSteps := 1000000) (disch := omega) only [resVal, resAll, resOne, rs32, Env.get, go_sem, Nat.reduceEqDiff, Nat.reduceLT, Nat.reduceAdd, Nat.reduceSub, Nat.reduceMul, Nat.reduceBEq, Int.reduceLT, Int.reduceAdd, Int.reduceMul, Int.reduceSub, Int.reduceToNat, Int.reduceLE, Int.reduceEq, ↓reduceIte, reduceCtorEq, Int.reduceNeg, Nat.reduceLeDiff]) (by simp only [AV.und, AV.unds, and_self])
  | true =>
  by_cases yc : ¬ e.c.xr = 3
  · simp only [yc, decide_false, Bool.and_false, Bool.false_and]
    simp (maxSteps := 1000000) (disch := omega) only [go_sem, Nat.reduceEqDiff, Nat.reduceLT, Nat.reduceAdd, Nat.reduceSub, Nat.reduceMul, Nat.reduceBEq, Int.reduceLT, Int.reduceAdd, Int.reduceMul, Int.reduceSub, Int.reduceToNat, Int.reduceLE, Int.reduceEq, ↓reduceIte, reduceCtorEq, Int.reduceNeg, Nat.reduceLeDiff,  yc]
    exact fin_ext (by simp) (Ext.app _ _) (by simp (maxSteps := 1000000) (disch := omega) only [resVal, resAll, resOne, rs32, Env.get, go_sem, Nat.reduceEqDiff, Nat.reduceLT, Nat.reduceAdd, Nat.reduceSub, Nat.reduceMul, Nat.reduceBEq, Int.reduceLT, Int.reduceAdd, Int.reduceMul, Int.reduceSub, Int.reduceToNat, Int.reduceLE, Int.reduceEq, ↓reduceIte, reduceCtorEq, Int.reduceNeg, Nat.reduceLeDiff]) (by simp only [AV.und, AV.unds, and_self])
  replace yc := Classical.not_not.1 yc
  simp only [yc, decide_true, Bool.and_true]
  simp (maxSteps := 1000000) (disch := omega) only [go_sem, Nat.reduceEqDiff, Nat.reduceLT, Nat.reduceAdd, Nat.reduceSub, Nat.reduceMul, Nat.reduceBEq, Int.reduceLT, Int.reduceAdd, Int.reduceMul, Int.reduceSub, Int.reduceToNat, Int.reduceLE, Int.reduceEq, ↓reduceIte, reduceCtorEq, Int.reduceNeg, Nat.reduceLeDiff,  yc]
  rw [acs_lp]; conv in Fr.code c32l0 => unfold c32l0
  simp (maxSteps := 1000000) (disch := omega) only [go_sem, Nat.reduceEqDiff, Nat.reduceLT, Nat.reduceAdd, Nat.reduceSub, Nat.reduceMul, Nat.reduceBEq, Int.reduceLT, Int.reduceAdd, Int.reduceMul, Int.reduceSub, Int.reduceToNat, Int.reduceLE, Int.reduceEq, ↓reduceIte, reduceCtorEq, Int.reduceNeg, Nat.reduceLeDiff]
  first | refine callB_intro (f57) ?_ | refine callD_intro (f57) ?_ | refine callP_intro (fun _ => (f57)) ?_ | refine callX_pure (f57) ?_
  cases q : q4B e.t0 e.t1 e.t2 e.t3 with
  | false =>
    try simp only [Bool.and_false]
    simp (maxSteps := 1000000) (disch := omega) only [go_sem, Nat.reduceEqDiff, Nat.reduceLT, Nat.reduceAdd, Nat.reduceSub, Nat.reduceMul, Nat.reduceBEq, Int.reduceLT, Int.reduceAdd, Int.reduceMul, Int.reduceSub, Int.reduceToNat, Int.reduceLE, Int.reduceEq, ↓reduceIte, reduceCtorEq, Int.reduceNeg, Nat.reduceLeDiff]
    exact fin_ext (by simp) (Ext.app _ _) (by simp (maxSteps := 1000000) (disch := omega) only [resVal, resAll, resOne, rs32, Env.get, go_sem, Nat.reduceEqDiff, Nat.reduceLT, Nat.reduceAdd, Nat.reduceSub, Nat.reduceMul, Nat.reduceBEq, Int.reduceLT, Int.reduceAdd, Int.reduceMul, Int.reduceSub, Int.reduceToNat, Int.reduceLE, Int.reduceEq, ↓reduceIte, reduceCtorEq, Int.reduceNeg, Nat.reduceLeDiff]) (by simp only [AV.und, AV.unds, and_self])
  | true =>
  by_cases s1 : e.st < 0
  · have s1' : ¬ 0 ≤ e.st := by omega
    simp only [s1', decide_false, Bool.false_and]
    simp (maxSteps := 1000000) (disch := omega) only [go_sem, Nat.reduceEqDiff, Nat.reduceLT, Nat.reduceAdd, Nat.reduceSub, Nat.reduceMul, Nat.reduceBEq, Int.reduceLT, Int.reduceAdd, Int.reduceMul, Int.reduceSub, Int.reduceToNat, Int.reduceLE, Int.reduceEq, ↓reduceIte, reduceCtorEq, Int.reduceNeg, Nat.reduceLeDiff,  s1']
    exact fin_ext (by simp) (Ext.app _ _) (by simp (maxSteps := 1000000) (disch := omega) only [resVal, resAll, resOne, rs32, Env.get, go_sem, Nat.reduceEqDiff, Nat.reduceLT, Nat.reduceAdd, Nat.reduceSub, Nat.reduceMul, Nat.reduceBEq, Int.reduceLT, Int.reduceAdd, Int.reduceMul, Int.reduceSub, Int.reduceToNat, Int.reduceLE, Int.reduceEq, ↓reduceIte, reduceCtorEq, Int.reduceNeg, Nat.reduceLeDiff]) (by simp only [AV.und, AV.unds, and_self])
  have s1' : 0 ≤ e.st := by omega
  by_cases s2 : e.st ≤ 1099511627776
  rotate_left
  · simp only [s2, decide_false, Bool.false_and, Bool.and_false]
    simp (maxSteps := 1000000) (disch := omega) only [go_sem, Nat.reduceEqDiff, Nat.reduceLT, Nat.reduceAdd, Nat.reduceSub, Nat.reduceMul, Nat.reduceBEq, Int.reduceLT, Int.reduceAdd, Int.reduceMul, Int.reduceSub, Int.reduceToNat, Int.reduceLE, Int.reduceEq, ↓reduceIte, reduceCtorEq, Int.reduceNeg, Nat.reduceLeDiff,  s1', s2]
    exact fin_ext (by simp) (Ext.app _ _) (by simp (maxSteps := 1000000) (disch := omega) only [resVal, resAll, resOne, rs32, Env.get, go_sem, Nat.reduceEqDiff, Nat.reduceLT, Nat.reduceAdd, Nat.reduceSub, Nat.reduceMul, Nat.reduceBEq, Int.reduceLT, Int.reduceAdd, Int.reduceMul, Int.reduceSub, Int.reduceToNat, Int.reduceLE, Int.reduceEq, ↓reduceIte, reduceCtorEq, Int.reduceNeg, Nat.reduceLeDiff]) (by simp only [AV.und, AV.unds, and_self])
  simp only [s1', s2, decide_true, Bool.true_and, Bool.and_true]
  simp (maxSteps := 1000000) (disch := omega) only [go_sem, Nat.reduceEqDiff, Nat.reduceLT, Nat.reduceAdd, Nat.reduceSub, Nat.reduceMul, Nat.reduceBEq, Int.reduceLT, Int.reduceAdd, Int.reduceMul, Int.reduceSub, Int.reduceToNat, Int.reduceLE, Int.reduceEq, ↓reduceIte, reduceCtorEq, Int.reduceNeg, Nat.reduceLeDiff,  s1', s2, hb56]
  first | refine callB_intro (f56) ?_ | refine callD_intro (f56) ?_ | refine callP_intro (fun _ => (f56)) ?_ | refine callX_pure (f56) ?_
  cases k : okO e.co with
  | false =>
    try simp only [Bool.false_and]
    simp (maxSteps := 1000000) (disch := omega) only [go_sem, Nat.reduceEqDiff, Nat.reduceLT, Nat.reduceAdd, Nat.reduceSub, Nat.reduceMul, Nat.reduceBEq, Int.reduceLT, Int.reduceAdd, Int.reduceMul, Int.reduceSub, Int.reduceToNat, Int.reduceLE, Int.reduceEq, ↓reduceIte, reduceCtorEq, Int.reduceNeg, Nat.reduceLeDiff]
    exact fin_ext (by simp) (Ext.app _ _) (by simp (maxSteps := 1000000) (disch := omega) only [resVal, resAll, resOne, rs32, Env.get, go_sem, Nat.reduceEqDiff, Nat.reduceLT, Nat.reduceAdd, Nat.reduceSub, Nat.reduceMul, Nat.reduceBEq, Int.reduceLT, Int.reduceAdd, Int.reduceMul, Int.reduceSub, Int.reduceToNat, Int.reduceLE, Int.reduceEq, ↓reduceIte, reduceCtorEq, Int.reduceNeg, Nat.reduceLeDiff]) (by simp only [AV.und, AV.unds, and_self])
  | true =>
  rw [ya, yb, yc] at g58
  simp (maxSteps := 1000000) (disch := omega) only [go_sem, Nat.reduceEqDiff, Nat.reduceLT, Nat.reduceAdd, Nat.reduceSub, Nat.reduceMul, Nat.reduceBEq, Int.reduceLT, Int.reduceAdd, Int.reduceMul, Int.reduceSub, Int.reduceToNat, Int.reduceLE, Int.reduceEq, ↓reduceIte, reduceCtorEq, Int.reduceNeg, Nat.reduceLeDiff]
  first | refine callB_intro (g58 _) ?_ | refine callD_intro (g58 _) ?_ | refine callP_intro (fun _ => (g58 _)) ?_ | refine callX_pure (g58 _) ?_
  have fin : (!(!okO e.o0 || (!okO e.o1 || (!okO e.o2 || !okO e.o3)))) = (okO e.o0 && okO e.o1 && okO e.o2 && okO e.o3) := by
    cases okO e.o0 <;> cases okO e.o1 <;> cases okO e.o2 <;> cases okO e.o3 <;> rfl
  simp (maxSteps := 1000000) (disch := omega) only [go_sem, Nat.reduceEqDiff, Nat.reduceLT, Nat.reduceAdd, Nat.reduceSub, Nat.reduceMul, Nat.reduceBEq, Int.reduceLT, Int.reduceAdd, Int.reduceMul, Int.reduceSub, Int.reduceToNat, Int.reduceLE, Int.reduceEq, ↓reduceIte, reduceCtorEq, Int.reduceNeg, Nat.reduceLeDiff,  fin]
  exact fin_ext (by simp) (Ext.app _ _) (by simp (maxSteps := 1000000) (disch := omega) only [resVal, resAll, resOne, rs32, Env.get, go_sem, Nat.reduceEqDiff, Nat.reduceLT, Nat.reduceAdd, Nat.reduceSub, Nat.reduceMul, Nat.reduceBEq, Int.reduceLT, Int.reduceAdd, Int.reduceMul, Int.reduceSub, Int.reduceToNat, Int.reduceLE, Int.reduceEq, ↓reduceIte, reduceCtorEq, Int.reduceNeg, Nat.reduceLeDiff]) (by simp only [AV.und, AV.unds, and_self])

/-! A new track. -/
theorem Sl.fill {α : Type} {f : α → AV} {H : Heap} {p off b : Nat} {zs : List α} (hs : Sl f H p off zs) (hb : H[b]? = some none) (x : Option Blk) : Sl f (H.set b x) p off zs := by
  obtain ⟨cs, o, hp, hle, hcs⟩ := hs
  refine ⟨cs, o, ?_, hle, hcs⟩
  rw [blkAt_set_ne]
  · exact hp
  · rintro rfl
    unfold blkAt at hp
    rw [hb] at hp
    cases hp
def x0L : List Int := [0, 0, 0]
def v0L : List Int := [1677721600, 167772160, 16777216]
def p0L : List Int := [1677721600, 0, 0, 0, 167772160, 0, 0, 0, 16777216]
theorem dg_v0 : dgL v0L = p0L := by decide
structure T0 (t : Tk) : Prop where
  xr : t.xr = 3
  xc : t.xc = 1
  xl : t.xl = x0L
  pr : t.pr = 3
  pc : t.pc = 3
  pl : t.pl = p0L
theorem T0.right {t : Tk} (h : T0 t) : trkB t = true := by
  unfold trkB
  rw [h.xr, h.xc, h.xl, h.pr, h.pc, h.pl]
  decide
theorem f80 {l : List Int} {p off : Nat} {k : Option Nat} {H : Heap} (hs : Sl i64 H p off l) (h0 : 0 < l.length) (h1 : l.length ≤ 1000) : ACallE Try.prog 80 [.sl p off l.length 1 k] H fun v H' => ∃ p, v = .sl p 0 l.length 1 none ∧ Sl i64 H' p 0 l ∧ H.length ≤ p := by
  refine acallE (fun v Hf h => acallK80 (by simp) h) (acs_start ?_)
  obtain ⟨cs, o, hp, hle, hcs⟩ := hs
  have hpl := blkAt_lt hp
  have n0 : ¬ l.length = 0 := by omega
  have n1 : 0 < l.length := h0
  have big : l.length * 8 ≤ 140737488355328 := by omega
  unfold c80
  simp (maxSteps := 1000000) (disch := omega) only [go_sem, Nat.reduceEqDiff, Nat.reduceLT, Nat.reduceAdd, Nat.reduceSub, Nat.reduceMul, Nat.reduceBEq, Int.reduceLT, Int.reduceAdd, Int.reduceMul, Int.reduceSub, Int.reduceToNat, Int.reduceLE, Int.reduceEq, ↓reduceIte, reduceCtorEq, Int.reduceNeg, Nat.reduceLeDiff,  hp, hpl, blkAt_lo, n0, n1, hle, hcs, big]
  have hb : blkAt (H ++ [some ⟨[], true⟩, some ⟨l.map i64, true⟩]) (H.length + 1) = some ⟨l.map i64, true⟩ := by rw [blkAt_app]; rfl
  refine fin_e (by simp) (by simp (maxSteps := 1000000) (disch := omega) only [resVal, resAll, resOne, rs80, Env.get, go_sem, Nat.reduceEqDiff, Nat.reduceLT, Nat.reduceAdd, Nat.reduceSub, Nat.reduceMul, Nat.reduceBEq, Int.reduceLT, Int.reduceAdd, Int.reduceMul, Int.reduceSub, Int.reduceToNat, Int.reduceLE, Int.reduceEq, ↓reduceIte, reduceCtorEq, Int.reduceNeg, Nat.reduceLeDiff, ] <;> rfl) (Ext.app _ _) ⟨_, rfl, Sl.whole hb, by omega⟩
theorem get_none {H G G2 : Heap} {a b : Option Blk} : (H ++ a :: (G ++ b :: none :: G2))[H.length + (G.length + 2)]? = some none := by
  rw [List.getElem?_append_right (by omega), Nat.add_sub_cancel_left, show G.length + 2 = (G.length + 1) + 1 from rfl, List.getElem?_cons_succ, List.getElem?_append_right (by omega), Nat.add_sub_cancel_left]
  rfl
theorem Sl.head {α : Type} {f : α → AV} {H G : Heap} {p off : Nat} {zs : List α} {a b : Option Blk} (hs : Sl f (H ++ a :: G) p off zs) (hp : H.length < p) : Sl f (H ++ b :: G) p off zs := by
  obtain ⟨cs, o, hb, hle, hcs⟩ := hs
  refine ⟨cs, o, ?_, hle, hcs⟩
  obtain ⟨k, rfl⟩ : ∃ k, p = H.length + (k + 1) := ⟨p - H.length - 1, by omega⟩
  rw [blkAt_app, blkAt_succ] at hb ⊢
  exact hb
theorem f70 {p1 p2 : Nat} {k1 k2 : Option Nat} {H : Heap} (h1 : Sl i64 H p1 0 x0L) (h2 : Sl i64 H p2 0 v0L) : ACallE Try.prog 70 [.sl p1 0 3 1 k1, .sl p2 0 3 1 k2] H fun v H' => ∃ t : Tk, v = .tup [.agg t.av, .int .i64 0] ∧ T0 t ∧ t.ok H' ∧ H.length ≤ t.xp ∧ H.length ≤ t.pp := by
  refine acallE (fun v Hf h => acallK70 (by simp) h) (acs_start ?_)
  have g79 := fun G => f79 (kk := k2) (h2.app G) (by decide) (by decide) (fun x hx => inb_iff.1 (List.all_eq_true.1 (show v0L.all inb = true by decide) x hx))
  rw [dg_v0] at g79
  simp only [show v0L.length = 3 from rfl, Int.cast_ofNat_Int] at g79
  have g80 := fun G => f80 (k := k1) (h1.app G) (by decide) (by decide)
  simp only [show x0L.length = 3 from rfl] at g80
  unfold c70
  simp (maxSteps := 1000000) (disch := omega) only [go_sem, Nat.reduceEqDiff, Nat.reduceLT, Nat.reduceAdd, Nat.reduceSub, Nat.reduceMul, Nat.reduceBEq, Int.reduceLT, Int.reduceAdd, Int.reduceMul, Int.reduceSub, Int.reduceToNat, Int.reduceLE, Int.reduceEq, ↓reduceIte, reduceCtorEq, Int.reduceNeg, Nat.reduceLeDiff]
  first | refine callBE (g79 _) ?_ | refine callDE (g79 _) ?_ | refine callXE (g79 _) ?_
  rintro v H1 ⟨G1, rfl⟩ ⟨w, rfl, hw3, p3, n3, rfl, hp3⟩
  obtain ⟨_, o3, k3, e3, hs3⟩ := hw3
  cases e3
  try simp only [show p0L.length = 9 from rfl]
  simp (maxSteps := 1000000) (disch := omega) only [go_sem, Nat.reduceEqDiff, Nat.reduceLT, Nat.reduceAdd, Nat.reduceSub, Nat.reduceMul, Nat.reduceBEq, Int.reduceLT, Int.reduceAdd, Int.reduceMul, Int.reduceSub, Int.reduceToNat, Int.reduceLE, Int.reduceEq, ↓reduceIte, reduceCtorEq, Int.reduceNeg, Nat.reduceLeDiff]
  first | refine callBE (g80 _) ?_ | refine callDE (g80 _) ?_ | refine callXE (g80 _) ?_
  rintro v H2 ⟨G2, rfl⟩ ⟨p4, rfl, hs4, hp4⟩
  try simp only [show x0L.length = 3 from rfl]
  have s4 := fun x => Sl.fill hs4 (b := H.length + (G1.length + 2)) (by simpa only [List.append_assoc, List.cons_append, List.nil_append] using get_none) x
  have s3 := fun x => ((hs3.app (some ⟨[.int .i64 3, .int .i64 3, .sl p3 0 9 1 none], true⟩ :: none :: G2))).fill (b := H.length + (G1.length + 2)) (by simpa only [List.append_assoc, List.cons_append, List.nil_append] using get_none) x
  simp only [List.append_assoc, List.cons_append, List.nil_append, List.length_append, List.length_cons, List.length_nil, Nat.reduceAdd, Nat.add_assoc, Nat.zero_add, Nat.add_zero, Int.natCast_add, Int.cast_ofNat_Int, ] at s4
  simp only [List.append_assoc, List.cons_append, List.nil_append, List.length_append, List.length_cons, List.length_nil, Nat.reduceAdd, Nat.add_assoc, Nat.zero_add, Nat.add_zero, Int.natCast_add, Int.cast_ofNat_Int, ] at s3
  simp only [go_sem, Nat.reduceEqDiff, Nat.reduceLT, Nat.reduceAdd, Nat.reduceSub, Nat.reduceMul, Nat.reduceBEq, Int.reduceLT, Int.reduceAdd, Int.reduceMul, Int.reduceSub, Int.reduceToNat, Int.reduceLE, Int.reduceEq, ↓reduceIte, reduceCtorEq, Int.reduceNeg, Nat.reduceLeDiff] at s4
  simp only [go_sem, Nat.reduceEqDiff, Nat.reduceLT, Nat.reduceAdd, Nat.reduceSub, Nat.reduceMul, Nat.reduceBEq, Int.reduceLT, Int.reduceAdd, Int.reduceMul, Int.reduceSub, Int.reduceToNat, Int.reduceLE, Int.reduceEq, ↓reduceIte, reduceCtorEq, Int.reduceNeg, Nat.reduceLeDiff] at s3
  have ok : ∀ x, Tk.ok ⟨3, 1, x0L, p4, 0, none, 3, 3, p0L, p3, 0, none⟩ _ := fun x => ⟨s4 x, s3 x, (show (3 : Nat) ≤ 4611686018427387904 by decide), (show (9 : Nat) ≤ 4611686018427387904 by decide)⟩
  have hr : trkB ⟨3, 1, x0L, p4, 0, none, 3, 3, p0L, p3, 0, none⟩ = true := T0.right ⟨rfl, rfl, rfl, rfl, rfl, rfl⟩
  have g55 := fun x => f55 (ok x)
  rw [hr] at g55
  unfold Tk.av at g55
  simp only [show x0L.length = 3 from rfl, show p0L.length = 9 from rfl] at g55
  simp (maxSteps := 1000000) (disch := omega) only [go_sem, Nat.reduceEqDiff, Nat.reduceLT, Nat.reduceAdd, Nat.reduceSub, Nat.reduceMul, Nat.reduceBEq, Int.reduceLT, Int.reduceAdd, Int.reduceMul, Int.reduceSub, Int.reduceToNat, Int.reduceLE, Int.reduceEq, ↓reduceIte, reduceCtorEq, Int.reduceNeg, Nat.reduceLeDiff]
  first | refine callB_intro (g55 _) ?_ | refine callD_intro (g55 _) ?_ | refine callP_intro (fun _ => (g55 _)) ?_ | refine callX_pure (g55 _) ?_
  simp (maxSteps := 1000000) (disch := omega) only [go_sem, Nat.reduceEqDiff, Nat.reduceLT, Nat.reduceAdd, Nat.reduceSub, Nat.reduceMul, Nat.reduceBEq, Int.reduceLT, Int.reduceAdd, Int.reduceMul, Int.reduceSub, Int.reduceToNat, Int.reduceLE, Int.reduceEq, ↓reduceIte, reduceCtorEq, Int.reduceNeg, Nat.reduceLeDiff]
  refine fin_e (by simp) (by simp (maxSteps := 1000000) (disch := omega) only [resVal, resAll, resOne, rs70, Env.get, go_sem, Nat.reduceEqDiff, Nat.reduceLT, Nat.reduceAdd, Nat.reduceSub, Nat.reduceMul, Nat.reduceBEq, Int.reduceLT, Int.reduceAdd, Int.reduceMul, Int.reduceSub, Int.reduceToNat, Int.reduceLE, Int.reduceEq, ↓reduceIte, reduceCtorEq, Int.reduceNeg, Nat.reduceLeDiff, ] <;> rfl) (Ext.app _ _) ⟨⟨3, 1, x0L, p4, 0, none, 3, 3, p0L, p3, 0, none⟩, rfl, ⟨rfl, rfl, rfl, rfl, rfl, rfl⟩, ⟨?_, ?_, (show (3 : Nat) ≤ 4611686018427387904 by decide), (show (9 : Nat) ≤ 4611686018427387904 by decide)⟩, ?_, ?_⟩
  · simp only [List.length_append, List.length_cons, List.length_nil] at hp4
    exact (s4 _).head (by omega)
  · simp only [List.length_append, List.length_cons, List.length_nil] at hp3
    exact (s3 _).head (by omega)
  · simp only [List.length_append, List.length_cons, List.length_nil] at hp4
    show H.length ≤ p4
    omega
  · simp only [List.length_append, List.length_cons, List.length_nil] at hp3
    show H.length ≤ p3
    omega

/-! The estimator at its beginning. -/
def mayC (n : Int) : Bool := decide (1 ≤ n) && decide (n ≤ 17179869184)
def mayB (a b c d e f : Int) : Bool := mayC a && mayC b && mayC c && mayC d && mayC e && mayC f
theorem f78 {a : Int} {H : Heap} : ACall Try.prog 78 [.int .i64 a] H (.bool (!mayC a)) H := by
  refine acall78 (by simp) (acs_start ?_)
  unfold c78
  by_cases h : a ≤ 0
  · have e : mayC a = false := by unfold mayC; simp; omega
    rw [e]
    simp (maxSteps := 1000000) (disch := omega) only [go_sem, Nat.reduceEqDiff, Nat.reduceLT, Nat.reduceAdd, Nat.reduceSub, Nat.reduceMul, Nat.reduceBEq, Int.reduceLT, Int.reduceAdd, Int.reduceMul, Int.reduceSub, Int.reduceToNat, Int.reduceLE, Int.reduceEq, ↓reduceIte, reduceCtorEq, Int.reduceNeg, Nat.reduceLeDiff,  h]
    exact fin_ext (by simp) (Ext.refl _) (by simp (maxSteps := 1000000) (disch := omega) only [resVal, resAll, resOne, rs78, Env.get, go_sem, Nat.reduceEqDiff, Nat.reduceLT, Nat.reduceAdd, Nat.reduceSub, Nat.reduceMul, Nat.reduceBEq, Int.reduceLT, Int.reduceAdd, Int.reduceMul, Int.reduceSub, Int.reduceToNat, Int.reduceLE, Int.reduceEq, ↓reduceIte, reduceCtorEq, Int.reduceNeg, Nat.reduceLeDiff]) (by simp only [AV.und, AV.unds, and_self])
  · by_cases h2 : 17179869184 < a
    · have e : mayC a = false := by unfold mayC; simp; omega
      rw [e]
      simp (maxSteps := 1000000) (disch := omega) only [go_sem, Nat.reduceEqDiff, Nat.reduceLT, Nat.reduceAdd, Nat.reduceSub, Nat.reduceMul, Nat.reduceBEq, Int.reduceLT, Int.reduceAdd, Int.reduceMul, Int.reduceSub, Int.reduceToNat, Int.reduceLE, Int.reduceEq, ↓reduceIte, reduceCtorEq, Int.reduceNeg, Nat.reduceLeDiff,  h, h2]
      exact fin_ext (by simp) (Ext.refl _) (by simp (maxSteps := 1000000) (disch := omega) only [resVal, resAll, resOne, rs78, Env.get, go_sem, Nat.reduceEqDiff, Nat.reduceLT, Nat.reduceAdd, Nat.reduceSub, Nat.reduceMul, Nat.reduceBEq, Int.reduceLT, Int.reduceAdd, Int.reduceMul, Int.reduceSub, Int.reduceToNat, Int.reduceLE, Int.reduceEq, ↓reduceIte, reduceCtorEq, Int.reduceNeg, Nat.reduceLeDiff]) (by simp only [AV.und, AV.unds, and_self])
    · have e : mayC a = true := by unfold mayC; simp; omega
      rw [e]
      simp (maxSteps := 1000000) (disch := omega) only [go_sem, Nat.reduceEqDiff, Nat.reduceLT, Nat.reduceAdd, Nat.reduceSub, Nat.reduceMul, Nat.reduceBEq, Int.reduceLT, Int.reduceAdd, Int.reduceMul, Int.reduceSub, Int.reduceToNat, Int.reduceLE, Int.reduceEq, ↓reduceIte, reduceCtorEq, Int.reduceNeg, Nat.reduceLeDiff,  h, h2]
      exact fin_ext (by simp) (Ext.refl _) (by simp (maxSteps := 1000000) (disch := omega) only [resVal, resAll, resOne, rs78, Env.get, go_sem, Nat.reduceEqDiff, Nat.reduceLT, Nat.reduceAdd, Nat.reduceSub, Nat.reduceMul, Nat.reduceBEq, Int.reduceLT, Int.reduceAdd, Int.reduceMul, Int.reduceSub, Int.reduceToNat, Int.reduceLE, Int.reduceEq, ↓reduceIte, reduceCtorEq, Int.reduceNeg, Nat.reduceLeDiff]) (by simp only [AV.und, AV.unds, and_self])
theorem hb78 : hasBody Try.prog 78 = true := by kernel_rfl
theorem f69 {a b c d e f : Int} {H : Heap} : ACall Try.prog 69 [.agg [.int .i64 a, .int .i64 b, .int .i64 c, .int .i64 d, .int .i64 e, .int .i64 f]] H (.bool (mayB a b c d e f)) H := by
  refine acall69 (by simp) (acs_start ?_)
  have g77 := fun (X : Heap) (p : Nat) (h : blkAt X p = some ⟨[.int .i64 a, .int .i64 b, .int .i64 c, .int .i64 d, .int .i64 e, .int .i64 f], true⟩) => f77p (odd := fun n => !mayC n) (k := some 6) hb78 (fun _ _ => f78) (l := [a, b, c, d, e, f]) (p := p) (off := 0) (H := X) (Sl.whole (o := true) h) (by simp)
  simp only [List.length_cons, List.length_nil, Nat.reduceAdd, List.any_cons, List.any_nil, Bool.or_false] at g77
  have fin : (!(!mayC a || (!mayC b || (!mayC c || (!mayC d || (!mayC e || !mayC f)))))) = mayB a b c d e f := by
    unfold mayB
    cases mayC a <;> cases mayC b <;> cases mayC c <;> cases mayC d <;> cases mayC e <;> cases mayC f <;> rfl
  unfold c69
  simp (maxSteps := 1000000) (disch := omega) only [go_sem, Nat.reduceEqDiff, Nat.reduceLT, Nat.reduceAdd, Nat.reduceSub, Nat.reduceMul, Nat.reduceBEq, Int.reduceLT, Int.reduceAdd, Int.reduceMul, Int.reduceSub, Int.reduceToNat, Int.reduceLE, Int.reduceEq, ↓reduceIte, reduceCtorEq, Int.reduceNeg, Nat.reduceLeDiff]
  first | refine callB_intro (g77 _ _ (by simp only [go_sem, Nat.reduceEqDiff, Nat.reduceLT, Nat.reduceAdd, Nat.reduceSub, Nat.reduceMul, Nat.reduceBEq, Int.reduceLT, Int.reduceAdd, Int.reduceMul, Int.reduceSub, Int.reduceToNat, Int.reduceLE, Int.reduceEq, ↓reduceIte, reduceCtorEq, Int.reduceNeg, Nat.reduceLeDiff])) ?_ | refine callD_intro (g77 _ _ (by simp only [go_sem, Nat.reduceEqDiff, Nat.reduceLT, Nat.reduceAdd, Nat.reduceSub, Nat.reduceMul, Nat.reduceBEq, Int.reduceLT, Int.reduceAdd, Int.reduceMul, Int.reduceSub, Int.reduceToNat, Int.reduceLE, Int.reduceEq, ↓reduceIte, reduceCtorEq, Int.reduceNeg, Nat.reduceLeDiff])) ?_ | refine callP_intro (fun _ => (g77 _ _ (by simp only [go_sem, Nat.reduceEqDiff, Nat.reduceLT, Nat.reduceAdd, Nat.reduceSub, Nat.reduceMul, Nat.reduceBEq, Int.reduceLT, Int.reduceAdd, Int.reduceMul, Int.reduceSub, Int.reduceToNat, Int.reduceLE, Int.reduceEq, ↓reduceIte, reduceCtorEq, Int.reduceNeg, Nat.reduceLeDiff]))) ?_ | refine callX_pure (g77 _ _ (by simp only [go_sem, Nat.reduceEqDiff, Nat.reduceLT, Nat.reduceAdd, Nat.reduceSub, Nat.reduceMul, Nat.reduceBEq, Int.reduceLT, Int.reduceAdd, Int.reduceMul, Int.reduceSub, Int.reduceToNat, Int.reduceLE, Int.reduceEq, ↓reduceIte, reduceCtorEq, Int.reduceNeg, Nat.reduceLeDiff])) ?_
  simp (maxSteps := 1000000) (disch := omega) only [go_sem, Nat.reduceEqDiff, Nat.reduceLT, Nat.reduceAdd, Nat.reduceSub, Nat.reduceMul, Nat.reduceBEq, Int.reduceLT, Int.reduceAdd, Int.reduceMul, Int.reduceSub, Int.reduceToNat, Int.reduceLE, Int.reduceEq, ↓reduceIte, reduceCtorEq, Int.reduceNeg, Nat.reduceLeDiff,  fin]
  exact fin_ext (by simp) (Ext.app _ _) (by simp (maxSteps := 1000000) (disch := omega) only [resVal, resAll, resOne, rs69, Env.get, go_sem, Nat.reduceEqDiff, Nat.reduceLT, Nat.reduceAdd, Nat.reduceSub, Nat.reduceMul, Nat.reduceBEq, Int.reduceLT, Int.reduceAdd, Int.reduceMul, Int.reduceSub, Int.reduceToNat, Int.reduceLE, Int.reduceEq, ↓reduceIte, reduceCtorEq, Int.reduceNeg, Nat.reduceLeDiff]) (by simp only [AV.und, AV.unds, and_self])
structure E0 (e : Es) : Prop where
  t : e.t0 = 16777216 ∧ e.t1 = 0 ∧ e.t2 = 0 ∧ e.t3 = 0
  a : T0 e.a
  b : T0 e.b
  c : T0 e.c
  n : e.st = 0 ∧ e.co = 0 ∧ e.o0 = 0 ∧ e.o1 = 0 ∧ e.o2 = 0 ∧ e.o3 = 0 ∧ e.sat = false
theorem E0.right {e : Es} (h : E0 e) : estB e = true := by
  unfold estB
  rw [h.a.right, h.b.right, h.c.right, h.a.xr, h.b.xr, h.c.xr, h.n.1, h.n.2.1, h.n.2.2.1, h.n.2.2.2.1, h.n.2.2.2.2.1, h.n.2.2.2.2.2.1, h.t.1, h.t.2.1, h.t.2.2.1, h.t.2.2.2]
  decide
theorem rep3 : (List.replicate 3 [AV.int .i64 0]).flatten = [.int .i64 0, .int .i64 0, .int .i64 0] := rfl
theorem f54_step {b2 bE i : Nat} {cs : List AV} {X : Heap} {Q : Post} {fs : List Fr} (hE : blkAt X bE = some ⟨cs, true⟩) (hl : cs.length = 29) (hi : i < 3)
    (hq : ∀ t X', T0 t → t.ok X' → blkAt X' bE = some ⟨setCells cs (4 + i * 6) t.av, true⟩ → (∀ b k, b ≠ bE → blkAt X b = some k → blkAt X' b = some k) → X.length ≤ X'.length → X.length ≤ t.xp → X.length ≤ t.pp → (∀ H, H.length ≤ bE → Ext H X → Ext H X') →
      acs Try.prog (.lp c54l0 :: fs) [(2, .ptr b2 0), (4, .ptr bE 0), (12, .int .i64 ((i + 1 : Nat) : Int))] X' Q) :
    acs Try.prog (.lp c54l0 :: fs) [(2, .ptr b2 0), (4, .ptr bE 0), (12, .int .i64 (i : Int))] X Q := by
  have lE := blkAt_lt hE
  have hlt : (i : Int) < 3 := by omega
  have g70 := f70 (p1 := X.length) (p2 := X.length + 1) (k1 := some 3) (k2 := some 3) (H := X ++ [some ⟨[.int .i64 0, .int .i64 0, .int .i64 0], true⟩, some ⟨[.int .i64 1677721600, .int .i64 167772160, .int .i64 16777216], true⟩])
    (Sl.whole (o := true) (by simp only [go_sem, Nat.reduceEqDiff, Nat.reduceLT, Nat.reduceAdd, Nat.reduceSub, Nat.reduceMul, Nat.reduceBEq, Int.reduceLT, Int.reduceAdd, Int.reduceMul, Int.reduceSub, Int.reduceToNat, Int.reduceLE, Int.reduceEq, ↓reduceIte, reduceCtorEq, Int.reduceNeg, Nat.reduceLeDiff]; rfl)) (Sl.whole (o := true) (by simp only [go_sem, Nat.reduceEqDiff, Nat.reduceLT, Nat.reduceAdd, Nat.reduceSub, Nat.reduceMul, Nat.reduceBEq, Int.reduceLT, Int.reduceAdd, Int.reduceMul, Int.reduceSub, Int.reduceToNat, Int.reduceLE, Int.reduceEq, ↓reduceIte, reduceCtorEq, Int.reduceNeg, Nat.reduceLeDiff]; rfl))
  have hc : 4 + (i * 6 + 6) ≤ cs.length := by omega
  rw [acs_lp]; conv in Fr.code c54l0 => unfold c54l0
  simp (maxSteps := 1000000) (disch := omega) only [go_sem, Nat.reduceEqDiff, Nat.reduceLT, Nat.reduceAdd, Nat.reduceSub, Nat.reduceMul, Nat.reduceBEq, Int.reduceLT, Int.reduceAdd, Int.reduceMul, Int.reduceSub, Int.reduceToNat, Int.reduceLE, Int.reduceEq, ↓reduceIte, reduceCtorEq, Int.reduceNeg, Nat.reduceLeDiff,  hlt, rep3]
  refine callBE g70 ?_
  rintro v X1 hx1 ⟨t, rfl, ht, hok, hp1, hp2⟩
  have hxx : Ext X X1 := (Ext.app _ _).trans hx1
  have hE1 := hxx.blk hE
  have lE1 := blkAt_lt hE1
  simp only [List.length_append, List.length_cons, List.length_nil] at hp1 hp2
  have full : (AV.agg t.av).full = true := rfl
  have hq2 := hq t (X1.set bE (some ⟨setCells cs (4 + i * 6) t.av, true⟩)) ht ⟨hok.hx.set (by omega) _, hok.hp.set (by omega) _, hok.lx, hok.lp⟩ (blkAt_set_self lE1 _) (fun b k hb hk => by rw [blkAt_set_ne (by omega)]; exact hxx.blk hk) (by rw [List.length_set]; exact hxx.len) (by omega) (by omega) (fun H hH h => (h.trans hxx).set hH _)
  unfold Tk.av at hq2 full
  unfold Tk.av
  simp only [List.append_assoc, List.cons_append, List.nil_append, List.length_append, List.length_cons, List.length_nil, Nat.reduceAdd, Nat.add_assoc, Nat.zero_add, Nat.add_zero, Int.natCast_add, Int.cast_ofNat_Int, setCells] at hq2
  simp (maxSteps := 1000000) (disch := omega) only [go_sem, Nat.reduceEqDiff, Nat.reduceLT, Nat.reduceAdd, Nat.reduceSub, Nat.reduceMul, Nat.reduceBEq, Int.reduceLT, Int.reduceAdd, Int.reduceMul, Int.reduceSub, Int.reduceToNat, Int.reduceLE, Int.reduceEq, ↓reduceIte, reduceCtorEq, Int.reduceNeg, Nat.reduceLeDiff,  hE1, lE1, hlt, hc, full]
  exact hq2
theorem Tk.ok.keep {t : Tk} {X X' : Heap} {bE : Nat} (h : t.ok X) (hk : ∀ b k, b ≠ bE → blkAt X b = some k → blkAt X' b = some k) (h1 : t.xp ≠ bE) (h2 : t.pp ≠ bE) : t.ok X' := by
  obtain ⟨⟨cs, o, a1, a2, a3⟩, ⟨ds, q, b1, b2, b3⟩, l1, l2⟩ := h
  exact ⟨⟨cs, o, hk _ _ h1 a1, a2, a3⟩, ⟨ds, q, hk _ _ h2 b1, b2, b3⟩, l1, l2⟩
theorem Tk.ok.set {t : Tk} {X : Heap} {b : Nat} (h : t.ok X) (h1 : b ≠ t.xp) (h2 : b ≠ t.pp) (x : Option Blk) : t.ok (X.set b x) := ⟨h.hx.set h1 x, h.hp.set h2 x, h.lx, h.lp⟩
theorem f54 {c0 c1 c2 c3 c4 c5 : Int} {H : Heap} (hm : mayB c0 c1 c2 c3 c4 c5 = true) :
    ACallE Try.prog 54 [.agg [.int .i64 c0, .int .i64 c1, .int .i64 c2, .int .i64 c3, .int .i64 c4, .int .i64 c5]] H fun v H' => ∃ e : Es, v = .tup [.agg e.av, .int .i64 0] ∧ E0 e ∧ e.ok H' := by
  refine acallE (fun v Hf h => acallK54 (by simp) h) (acs_start ?_)
  have g69 := fun G => f69 (a := c0) (b := c1) (c := c2) (d := c3) (e := c4) (f := c5) (H := H ++ G)
  rw [hm] at g69
  unfold c54
  simp (maxSteps := 1000000) (disch := omega) only [go_sem, Nat.reduceEqDiff, Nat.reduceLT, Nat.reduceAdd, Nat.reduceSub, Nat.reduceMul, Nat.reduceBEq, Int.reduceLT, Int.reduceAdd, Int.reduceMul, Int.reduceSub, Int.reduceToNat, Int.reduceLE, Int.reduceEq, ↓reduceIte, reduceCtorEq, Int.reduceNeg, Nat.reduceLeDiff]
  first | refine callB_intro (g69 _) ?_ | refine callD_intro (g69 _) ?_ | refine callP_intro (fun _ => (g69 _)) ?_ | refine callX_pure (g69 _) ?_
  simp (maxSteps := 1000000) (disch := omega) only [go_sem, Nat.reduceEqDiff, Nat.reduceLT, Nat.reduceAdd, Nat.reduceSub, Nat.reduceMul, Nat.reduceBEq, Int.reduceLT, Int.reduceAdd, Int.reduceMul, Int.reduceSub, Int.reduceToNat, Int.reduceLE, Int.reduceEq, ↓reduceIte, reduceCtorEq, Int.reduceNeg, Nat.reduceLeDiff]
  refine f54_step (i := 0) (bE := H.length + 2) (by simp only [go_sem, Nat.reduceEqDiff, Nat.reduceLT, Nat.reduceAdd, Nat.reduceSub, Nat.reduceMul, Nat.reduceBEq, Int.reduceLT, Int.reduceAdd, Int.reduceMul, Int.reduceSub, Int.reduceToNat, Int.reduceLE, Int.reduceEq, ↓reduceIte, reduceCtorEq, Int.reduceNeg, Nat.reduceLeDiff]; rfl) rfl (by decide) ?_
  intro ta X1 ha oka hE1 hk1 hx1 hxp1 hpp1 ext1
  refine f54_step (i := 1) hE1 rfl (by decide) ?_
  intro tb X2 hb okb hE2 hk2 hx2 hxp2 hpp2 ext2
  refine f54_step (i := 2) hE2 rfl (by decide) ?_
  intro tc X3 hc okc hE3 hk3 hx3 hxp3 hpp3 ext3
  have hX : Ext H X3 := ext3 H (by omega) (ext2 H (by omega) (ext1 H (by omega) (Ext.app _ _)))
  simp only [List.length_append, List.length_cons, List.length_nil] at hx1 hxp1 hpp1
  have ka := (oka.keep hk2 (by omega) (by omega)).keep hk3 (by omega) (by omega)
  have kb := okb.keep hk3 (by omega) (by omega)
  have h2 : blkAt X3 (H.length + 1) = _ := hk3 _ _ (by omega) (hk2 _ _ (by omega) (hk1 (H.length + 1) _ (by omega) (by simp only [go_sem, Nat.reduceEqDiff, Nat.reduceLT, Nat.reduceAdd, Nat.reduceSub, Nat.reduceMul, Nat.reduceBEq, Int.reduceLT, Int.reduceAdd, Int.reduceMul, Int.reduceSub, Int.reduceToNat, Int.reduceLE, Int.reduceEq, ↓reduceIte, reduceCtorEq, Int.reduceNeg, Nat.reduceLeDiff]; rfl)))
  have l2 := blkAt_lt h2
  clear hk1 hk2 hk3 ext1 ext2 ext3 hE1 hE2 g69
  unfold Tk.av at hE3
  simp only [go_sem, Nat.reduceEqDiff, Nat.reduceLT, Nat.reduceAdd, Nat.reduceSub, Nat.reduceMul, Nat.reduceBEq, Int.reduceLT, Int.reduceAdd, Int.reduceMul, Int.reduceSub, Int.reduceToNat, Int.reduceLE, Int.reduceEq, ↓reduceIte, reduceCtorEq, Int.reduceNeg, Nat.reduceLeDiff] at hE3
  rw [acs_lp]; conv in Fr.code c54l0 => unfold c54l0
  simp (maxSteps := 1000000) (disch := omega) only [go_sem, Nat.reduceEqDiff, Nat.reduceLT, Nat.reduceAdd, Nat.reduceSub, Nat.reduceMul, Nat.reduceBEq, Int.reduceLT, Int.reduceAdd, Int.reduceMul, Int.reduceSub, Int.reduceToNat, Int.reduceLE, Int.reduceEq, ↓reduceIte, reduceCtorEq, Int.reduceNeg, Nat.reduceLeDiff,  hE3, h2, l2]
  refine fin_e (by simp) (by simp (maxSteps := 1000000) (disch := omega) only [resVal, resAll, resOne, rs54, Env.get, go_sem, Nat.reduceEqDiff, Nat.reduceLT, Nat.reduceAdd, Nat.reduceSub, Nat.reduceMul, Nat.reduceBEq, Int.reduceLT, Int.reduceAdd, Int.reduceMul, Int.reduceSub, Int.reduceToNat, Int.reduceLE, Int.reduceEq, ↓reduceIte, reduceCtorEq, Int.reduceNeg, Nat.reduceLeDiff, blkAt_set_self l2] <;> rfl) (hX.set (by omega) _) ⟨⟨16777216, 0, 0, 0, ta, tb, tc, 0, 0, 0, 0, 0, 0, false⟩, rfl, ⟨⟨rfl, rfl, rfl, rfl⟩, ha, hb, hc, rfl, rfl, rfl, rfl, rfl, rfl, rfl⟩, ⟨ka.set (by omega) (by omega) _, kb.set (by omega) (by omega) _, okc.set (by omega) (by omega) _⟩⟩

/-! The document's estimator at its beginning. -/
theorem mayC_lo {n : Int} (h : n < 1) : mayC n = false := by unfold mayC; rw [decide_eq_false (by omega)]; rfl
theorem mayC_hi {n : Int} (h : 17179869184 < n) : mayC n = false := by unfold mayC; rw [Bool.and_comm, decide_eq_false (by omega)]; rfl
theorem mayC_ok {n : Int} (h : ¬ n < 1) (h2 : ¬ 17179869184 < n) : mayC n = true := by unfold mayC; rw [decide_eq_true (by omega), decide_eq_true (by omega)]; rfl
theorem f14 {a b c d e f : Int} {H : Heap} : ACall Try.prog 14 [.agg [.int .i64 a, .int .i64 b, .int .i64 c, .int .i64 d, .int .i64 e, .int .i64 f]] H (.bool (mayB a b c d e f)) H := by
  refine acall14 (by simp) (acs_start ?_)
  unfold c14 mayB
  simp (maxSteps := 1000000) (disch := omega) only [go_sem, Nat.reduceEqDiff, Nat.reduceLT, Nat.reduceAdd, Nat.reduceSub, Nat.reduceMul, Nat.reduceBEq, Int.reduceLT, Int.reduceAdd, Int.reduceMul, Int.reduceSub, Int.reduceToNat, Int.reduceLE, Int.reduceEq, ↓reduceIte, reduceCtorEq, Int.reduceNeg, Nat.reduceLeDiff]
  rw [acs_lp]; conv in Fr.code c14l0 => unfold c14l0
  by_cases la : a < 1
  · try simp only [mayC_lo la, Bool.false_and, Bool.and_false]
    simp (maxSteps := 1000000) (disch := omega) only [go_sem, Nat.reduceEqDiff, Nat.reduceLT, Nat.reduceAdd, Nat.reduceSub, Nat.reduceMul, Nat.reduceBEq, Int.reduceLT, Int.reduceAdd, Int.reduceMul, Int.reduceSub, Int.reduceToNat, Int.reduceLE, Int.reduceEq, ↓reduceIte, reduceCtorEq, Int.reduceNeg, Nat.reduceLeDiff,  la]
    exact fin_ext (by simp) (Ext.app _ _) (by simp (maxSteps := 1000000) (disch := omega) only [resVal, resAll, resOne, rs14, Env.get, go_sem, Nat.reduceEqDiff, Nat.reduceLT, Nat.reduceAdd, Nat.reduceSub, Nat.reduceMul, Nat.reduceBEq, Int.reduceLT, Int.reduceAdd, Int.reduceMul, Int.reduceSub, Int.reduceToNat, Int.reduceLE, Int.reduceEq, ↓reduceIte, reduceCtorEq, Int.reduceNeg, Nat.reduceLeDiff]) (by simp only [AV.und, AV.unds, and_self])
  by_cases ga : 17179869184 < a
  · try simp only [mayC_hi ga, Bool.false_and, Bool.and_false]
    simp (maxSteps := 1000000) (disch := omega) only [go_sem, Nat.reduceEqDiff, Nat.reduceLT, Nat.reduceAdd, Nat.reduceSub, Nat.reduceMul, Nat.reduceBEq, Int.reduceLT, Int.reduceAdd, Int.reduceMul, Int.reduceSub, Int.reduceToNat, Int.reduceLE, Int.reduceEq, ↓reduceIte, reduceCtorEq, Int.reduceNeg, Nat.reduceLeDiff,  la, ga]
    exact fin_ext (by simp) (Ext.app _ _) (by simp (maxSteps := 1000000) (disch := omega) only [resVal, resAll, resOne, rs14, Env.get, go_sem, Nat.reduceEqDiff, Nat.reduceLT, Nat.reduceAdd, Nat.reduceSub, Nat.reduceMul, Nat.reduceBEq, Int.reduceLT, Int.reduceAdd, Int.reduceMul, Int.reduceSub, Int.reduceToNat, Int.reduceLE, Int.reduceEq, ↓reduceIte, reduceCtorEq, Int.reduceNeg, Nat.reduceLeDiff]) (by simp only [AV.und, AV.unds, and_self])
  try simp only [mayC_ok la ga, Bool.true_and, Bool.and_true]
  simp (maxSteps := 1000000) (disch := omega) only [go_sem, Nat.reduceEqDiff, Nat.reduceLT, Nat.reduceAdd, Nat.reduceSub, Nat.reduceMul, Nat.reduceBEq, Int.reduceLT, Int.reduceAdd, Int.reduceMul, Int.reduceSub, Int.reduceToNat, Int.reduceLE, Int.reduceEq, ↓reduceIte, reduceCtorEq, Int.reduceNeg, Nat.reduceLeDiff,  la, ga]
  rw [acs_lp]; conv in Fr.code c14l0 => unfold c14l0
  by_cases lb : b < 1
  · try simp only [mayC_lo lb, Bool.false_and, Bool.and_false]
    simp (maxSteps := 1000000) (disch := omega) only [go_sem, Nat.reduceEqDiff, Nat.reduceLT, Nat.reduceAdd, Nat.reduceSub, Nat.reduceMul, Nat.reduceBEq, Int.reduceLT, Int.reduceAdd, Int.reduceMul, Int.reduceSub, Int.reduceToNat, Int.reduceLE, Int.reduceEq, ↓reduceIte, reduceCtorEq, Int.reduceNeg, Nat.reduceLeDiff,  lb]
    exact fin_ext (by simp) (Ext.app _ _) (by simp (maxSteps := 1000000) (disch := omega) only [resVal, resAll, resOne, rs14, Env.get, go_sem, Nat.reduceEqDiff, Nat.reduceLT, Nat.reduceAdd, Nat.reduceSub, Nat.reduceMul, Nat.reduceBEq, Int.reduceLT, Int.reduceAdd, Int.reduceMul, Int.reduceSub, Int.reduceToNat, Int.reduceLE, Int.reduceEq, ↓reduceIte, reduceCtorEq, Int.reduceNeg, Nat.reduceLeDiff]) (by simp only [AV.und, AV.unds, and_self])
  by_cases gb : 17179869184 < b
  · try simp only [mayC_hi gb, Bool.false_and, Bool.and_false]
    simp (maxSteps := 1000000) (disch := omega) only [go_sem, Nat.reduceEqDiff, Nat.reduceLT, Nat.reduceAdd, Nat.reduceSub, Nat.reduceMul, Nat.reduceBEq, Int.reduceLT, Int.reduceAdd, Int.reduceMul, Int.reduceSub, Int.reduceToNat, Int.reduceLE, Int.reduceEq, ↓reduceIte, reduceCtorEq, Int.reduceNeg, Nat.reduceLeDiff,  lb, gb]
    exact fin_ext (by simp) (Ext.app _ _) (by simp (maxSteps := 1000000) (disch := omega) only [resVal, resAll, resOne, rs14, Env.get, go_sem, Nat.reduceEqDiff, Nat.reduceLT, Nat.reduceAdd, Nat.reduceSub, Nat.reduceMul, Nat.reduceBEq, Int.reduceLT, Int.reduceAdd, Int.reduceMul, Int.reduceSub, Int.reduceToNat, Int.reduceLE, Int.reduceEq, ↓reduceIte, reduceCtorEq, Int.reduceNeg, Nat.reduceLeDiff]) (by simp only [AV.und, AV.unds, and_self])
  try simp only [mayC_ok lb gb, Bool.true_and, Bool.and_true]
  simp (maxSteps := 1000000) (disch := omega) only [go_sem, Nat.reduceEqDiff, Nat.reduceLT, Nat.reduceAdd, Nat.reduceSub, Nat.reduceMul, Nat.reduceBEq, Int.reduceLT, Int.reduceAdd, Int.reduceMul, Int.reduceSub, Int.reduceToNat, Int.reduceLE, Int.reduceEq, ↓reduceIte, reduceCtorEq, Int.reduceNeg, Nat.reduceLeDiff,  lb, gb]
  rw [acs_lp]; conv in Fr.code c14l0 => unfold c14l0
  by_cases lc : c < 1
  · try simp only [mayC_lo lc, Bool.false_and, Bool.and_false]
    simp (maxSteps := 1000000) (disch := omega) only [go_sem, Nat.reduceEqDiff, Nat.reduceLT, Nat.reduceAdd, Nat.reduceSub, Nat.reduceMul, Nat.reduceBEq, Int.reduceLT, Int.reduceAdd, Int.reduceMul, Int.reduceSub, Int.reduceToNat, Int.reduceLE, Int.reduceEq, ↓reduceIte, reduceCtorEq, Int.reduceNeg, Nat.reduceLeDiff,  lc]
    exact fin_ext (by simp) (Ext.app _ _) (by simp (maxSteps := 1000000) (disch := omega) only [resVal, resAll, resOne, rs14, Env.get, go_sem, Nat.reduceEqDiff, Nat.reduceLT, Nat.reduceAdd, Nat.reduceSub, Nat.reduceMul, Nat.reduceBEq, Int.reduceLT, Int.reduceAdd, Int.reduceMul, Int.reduceSub, Int.reduceToNat, Int.reduceLE, Int.reduceEq, ↓reduceIte, reduceCtorEq, Int.reduceNeg, Nat.reduceLeDiff]) (by simp only [AV.und, AV.unds, and_self])
  by_cases gc : 17179869184 < c
  · try simp only [mayC_hi gc, Bool.false_and, Bool.and_false]
    simp (maxSteps := 1000000) (disch := omega) only [go_sem, Nat.reduceEqDiff, Nat.reduceLT, Nat.reduceAdd, Nat.reduceSub, Nat.reduceMul, Nat.reduceBEq, Int.reduceLT, Int.reduceAdd, Int.reduceMul, Int.reduceSub, Int.reduceToNat, Int.reduceLE, Int.reduceEq, ↓reduceIte, reduceCtorEq, Int.reduceNeg, Nat.reduceLeDiff,  lc, gc]
    exact fin_ext (by simp) (Ext.app _ _) (by simp (maxSteps := 1000000) (disch := omega) only [resVal, resAll, resOne, rs14, Env.get, go_sem, Nat.reduceEqDiff, Nat.reduceLT, Nat.reduceAdd, Nat.reduceSub, Nat.reduceMul, Nat.reduceBEq, Int.reduceLT, Int.reduceAdd, Int.reduceMul, Int.reduceSub, Int.reduceToNat, Int.reduceLE, Int.reduceEq, ↓reduceIte, reduceCtorEq, Int.reduceNeg, Nat.reduceLeDiff]) (by simp only [AV.und, AV.unds, and_self])
  try simp only [mayC_ok lc gc, Bool.true_and, Bool.and_true]
  simp (maxSteps := 1000000) (disch := omega) only [go_sem, Nat.reduceEqDiff, Nat.reduceLT, Nat.reduceAdd, Nat.reduceSub, Nat.reduceMul, Nat.reduceBEq, Int.reduceLT, Int.reduceAdd, Int.reduceMul, Int.reduceSub, Int.reduceToNat, Int.reduceLE, Int.reduceEq, ↓reduceIte, reduceCtorEq, Int.reduceNeg, Nat.reduceLeDiff,  lc, gc]
  rw [acs_lp]; conv in Fr.code c14l0 => unfold c14l0
  by_cases ld : d < 1
  · try simp only [mayC_lo ld, Bool.false_and, Bool.and_false]
    simp (maxSteps := 1000000) (disch := omega) only [go_sem, Nat.reduceEqDiff, Nat.reduceLT, Nat.reduceAdd, Nat.reduceSub, Nat.reduceMul, Nat.reduceBEq, Int.reduceLT, Int.reduceAdd, Int.reduceMul, Int.reduceSub, Int.reduceToNat, Int.reduceLE, Int.reduceEq, ↓reduceIte, reduceCtorEq, Int.reduceNeg, Nat.reduceLeDiff,  ld]
    exact fin_ext (by simp) (Ext.app _ _) (by simp (maxSteps := 1000000) (disch := omega) only [resVal, resAll, resOne, rs14, Env.get, go_sem, Nat.reduceEqDiff, Nat.reduceLT, Nat.reduceAdd, Nat.reduceSub, Nat.reduceMul, Nat.reduceBEq, Int.reduceLT, Int.reduceAdd, Int.reduceMul, Int.reduceSub, Int.reduceToNat, Int.reduceLE, Int.reduceEq, ↓reduceIte, reduceCtorEq, Int.reduceNeg, Nat.reduceLeDiff]) (by simp only [AV.und, AV.unds, and_self])
  by_cases gd : 17179869184 < d
  · try simp only [mayC_hi gd, Bool.false_and, Bool.and_false]
    simp (maxSteps := 1000000) (disch := omega) only [go_sem, Nat.reduceEqDiff, Nat.reduceLT, Nat.reduceAdd, Nat.reduceSub, Nat.reduceMul, Nat.reduceBEq, Int.reduceLT, Int.reduceAdd, Int.reduceMul, Int.reduceSub, Int.reduceToNat, Int.reduceLE, Int.reduceEq, ↓reduceIte, reduceCtorEq, Int.reduceNeg, Nat.reduceLeDiff,  ld, gd]
    exact fin_ext (by simp) (Ext.app _ _) (by simp (maxSteps := 1000000) (disch := omega) only [resVal, resAll, resOne, rs14, Env.get, go_sem, Nat.reduceEqDiff, Nat.reduceLT, Nat.reduceAdd, Nat.reduceSub, Nat.reduceMul, Nat.reduceBEq, Int.reduceLT, Int.reduceAdd, Int.reduceMul, Int.reduceSub, Int.reduceToNat, Int.reduceLE, Int.reduceEq, ↓reduceIte, reduceCtorEq, Int.reduceNeg, Nat.reduceLeDiff]) (by simp only [AV.und, AV.unds, and_self])
  try simp only [mayC_ok ld gd, Bool.true_and, Bool.and_true]
  simp (maxSteps := 1000000) (disch := omega) only [go_sem, Nat.reduceEqDiff, Nat.reduceLT, Nat.reduceAdd, Nat.reduceSub, Nat.reduceMul, Nat.reduceBEq, Int.reduceLT, Int.reduceAdd, Int.reduceMul, Int.reduceSub, Int.reduceToNat, Int.reduceLE, Int.reduceEq, ↓reduceIte, reduceCtorEq, Int.reduceNeg, Nat.reduceLeDiff,  ld, gd]
  rw [acs_lp]; conv in Fr.code c14l0 => unfold c14l0
  by_cases le : e < 1
  · try simp only [mayC_lo le, Bool.false_and, Bool.and_false]
    simp (maxSteps := 1000000) (disch := omega) only [go_sem, Nat.reduceEqDiff, Nat.reduceLT, Nat.reduceAdd, Nat.reduceSub, Nat.reduceMul, Nat.reduceBEq, Int.reduceLT, Int.reduceAdd, Int.reduceMul, Int.reduceSub, Int.reduceToNat, Int.reduceLE, Int.reduceEq, ↓reduceIte, reduceCtorEq, Int.reduceNeg, Nat.reduceLeDiff,  le]
    exact fin_ext (by simp) (Ext.app _ _) (by simp (maxSteps := 1000000) (disch := omega) only [resVal, resAll, resOne, rs14, Env.get, go_sem, Nat.reduceEqDiff, Nat.reduceLT, Nat.reduceAdd, Nat.reduceSub, Nat.reduceMul, Nat.reduceBEq, Int.reduceLT, Int.reduceAdd, Int.reduceMul, Int.reduceSub, Int.reduceToNat, Int.reduceLE, Int.reduceEq, ↓reduceIte, reduceCtorEq, Int.reduceNeg, Nat.reduceLeDiff]) (by simp only [AV.und, AV.unds, and_self])
  by_cases ge : 17179869184 < e
  · try simp only [mayC_hi ge, Bool.false_and, Bool.and_false]
    simp (maxSteps := 1000000) (disch := omega) only [go_sem, Nat.reduceEqDiff, Nat.reduceLT, Nat.reduceAdd, Nat.reduceSub, Nat.reduceMul, Nat.reduceBEq, Int.reduceLT, Int.reduceAdd, Int.reduceMul, Int.reduceSub, Int.reduceToNat, Int.reduceLE, Int.reduceEq, ↓reduceIte, reduceCtorEq, Int.reduceNeg, Nat.reduceLeDiff,  le, ge]
    exact fin_ext (by simp) (Ext.app _ _) (by simp (maxSteps := 1000000) (disch := omega) only [resVal, resAll, resOne, rs14, Env.get, go_sem, Nat.reduceEqDiff, Nat.reduceLT, Nat.reduceAdd, Nat.reduceSub, Nat.reduceMul, Nat.reduceBEq, Int.reduceLT, Int.reduceAdd, Int.reduceMul, Int.reduceSub, Int.reduceToNat, Int.reduceLE, Int.reduceEq, ↓reduceIte, reduceCtorEq, Int.reduceNeg, Nat.reduceLeDiff]) (by simp only [AV.und, AV.unds, and_self])
  try simp only [mayC_ok le ge, Bool.true_and, Bool.and_true]
  simp (maxSteps := 1000000) (disch := omega) only [go_sem, Nat.reduceEqDiff, Nat.reduceLT, Nat.reduceAdd, Nat.reduceSub, Nat.reduceMul, Nat.reduceBEq, Int.reduceLT, Int.reduceAdd, Int.reduceMul, Int.reduceSub, Int.reduceToNat, Int.reduceLE, Int.reduceEq, ↓reduceIte, reduceCtorEq, Int.reduceNeg, Nat.reduceLeDiff,  le, ge]
  rw [acs_lp]; conv in Fr.code c14l0 => unfold c14l0
  by_cases lf : f < 1
  · try simp only [mayC_lo lf, Bool.false_and, Bool.and_false]
    simp (maxSteps := 1000000) (disch := omega) only [go_sem, Nat.reduceEqDiff, Nat.reduceLT, Nat.reduceAdd, Nat.reduceSub, Nat.reduceMul, Nat.reduceBEq, Int.reduceLT, Int.reduceAdd, Int.reduceMul, Int.reduceSub, Int.reduceToNat, Int.reduceLE, Int.reduceEq, ↓reduceIte, reduceCtorEq, Int.reduceNeg, Nat.reduceLeDiff,  lf]
    exact fin_ext (by simp) (Ext.app _ _) (by simp (maxSteps := 1000000) (disch := omega) only [resVal, resAll, resOne, rs14, Env.get, go_sem, Nat.reduceEqDiff, Nat.reduceLT, Nat.reduceAdd, Nat.reduceSub, Nat.reduceMul, Nat.reduceBEq, Int.reduceLT, Int.reduceAdd, Int.reduceMul, Int.reduceSub, Int.reduceToNat, Int.reduceLE, Int.reduceEq, ↓reduceIte, reduceCtorEq, Int.reduceNeg, Nat.reduceLeDiff]) (by simp only [AV.und, AV.unds, and_self])
  by_cases gf : 17179869184 < f
  · try simp only [mayC_hi gf, Bool.false_and, Bool.and_false]
    simp (maxSteps := 1000000) (disch := omega) only [go_sem, Nat.reduceEqDiff, Nat.reduceLT, Nat.reduceAdd, Nat.reduceSub, Nat.reduceMul, Nat.reduceBEq, Int.reduceLT, Int.reduceAdd, Int.reduceMul, Int.reduceSub, Int.reduceToNat, Int.reduceLE, Int.reduceEq, ↓reduceIte, reduceCtorEq, Int.reduceNeg, Nat.reduceLeDiff,  lf, gf]
    exact fin_ext (by simp) (Ext.app _ _) (by simp (maxSteps := 1000000) (disch := omega) only [resVal, resAll, resOne, rs14, Env.get, go_sem, Nat.reduceEqDiff, Nat.reduceLT, Nat.reduceAdd, Nat.reduceSub, Nat.reduceMul, Nat.reduceBEq, Int.reduceLT, Int.reduceAdd, Int.reduceMul, Int.reduceSub, Int.reduceToNat, Int.reduceLE, Int.reduceEq, ↓reduceIte, reduceCtorEq, Int.reduceNeg, Nat.reduceLeDiff]) (by simp only [AV.und, AV.unds, and_self])
  try simp only [mayC_ok lf gf, Bool.true_and, Bool.and_true]
  simp (maxSteps := 1000000) (disch := omega) only [go_sem, Nat.reduceEqDiff, Nat.reduceLT, Nat.reduceAdd, Nat.reduceSub, Nat.reduceMul, Nat.reduceBEq, Int.reduceLT, Int.reduceAdd, Int.reduceMul, Int.reduceSub, Int.reduceToNat, Int.reduceLE, Int.reduceEq, ↓reduceIte, reduceCtorEq, Int.reduceNeg, Nat.reduceLeDiff,  lf, gf]
  rw [acs_lp]; conv in Fr.code c14l0 => unfold c14l0
  simp (maxSteps := 1000000) (disch := omega) only [go_sem, Nat.reduceEqDiff, Nat.reduceLT, Nat.reduceAdd, Nat.reduceSub, Nat.reduceMul, Nat.reduceBEq, Int.reduceLT, Int.reduceAdd, Int.reduceMul, Int.reduceSub, Int.reduceToNat, Int.reduceLE, Int.reduceEq, ↓reduceIte, reduceCtorEq, Int.reduceNeg, Nat.reduceLeDiff]
  exact fin_ext (by simp) (Ext.app _ _) (by simp (maxSteps := 1000000) (disch := omega) only [resVal, resAll, resOne, rs14, Env.get, go_sem, Nat.reduceEqDiff, Nat.reduceLT, Nat.reduceAdd, Nat.reduceSub, Nat.reduceMul, Nat.reduceBEq, Int.reduceLT, Int.reduceAdd, Int.reduceMul, Int.reduceSub, Int.reduceToNat, Int.reduceLE, Int.reduceEq, ↓reduceIte, reduceCtorEq, Int.reduceNeg, Nat.reduceLeDiff]) (by simp only [AV.und, AV.unds, and_self])
theorem f68 {H : Heap} : ACallE Try.prog 68 [.int .i64 3, .int .i64 3] H fun v H' => ∃ p, v = .agg [.int .i64 3, .int .i64 3, .sl p 0 9 1 none] ∧ blkAt H' p = some ⟨List.replicate 9 (.int .i64 0), true⟩ ∧ H.length + 1 ≤ p := by
  refine acallE (fun v Hf h => acallK68 (by simp) h) (acs_start ?_)
  unfold c68
  simp (maxSteps := 1000000) (disch := omega) only [go_sem, Nat.reduceEqDiff, Nat.reduceLT, Nat.reduceAdd, Nat.reduceSub, Nat.reduceMul, Nat.reduceBEq, Int.reduceLT, Int.reduceAdd, Int.reduceMul, Int.reduceSub, Int.reduceToNat, Int.reduceLE, Int.reduceEq, ↓reduceIte, reduceCtorEq, Int.reduceNeg, Nat.reduceLeDiff]
  rw [acs_lp]; conv in Fr.code c68l0 => unfold c68l0
  simp (maxSteps := 1000000) (disch := omega) only [go_sem, Nat.reduceEqDiff, Nat.reduceLT, Nat.reduceAdd, Nat.reduceSub, Nat.reduceMul, Nat.reduceBEq, Int.reduceLT, Int.reduceAdd, Int.reduceMul, Int.reduceSub, Int.reduceToNat, Int.reduceLE, Int.reduceEq, ↓reduceIte, reduceCtorEq, Int.reduceNeg, Nat.reduceLeDiff]
  rw [acs_lp]; conv in Fr.code c68l0 => unfold c68l0
  simp (maxSteps := 1000000) (disch := omega) only [go_sem, Nat.reduceEqDiff, Nat.reduceLT, Nat.reduceAdd, Nat.reduceSub, Nat.reduceMul, Nat.reduceBEq, Int.reduceLT, Int.reduceAdd, Int.reduceMul, Int.reduceSub, Int.reduceToNat, Int.reduceLE, Int.reduceEq, ↓reduceIte, reduceCtorEq, Int.reduceNeg, Nat.reduceLeDiff]
  rw [acs_lp]; conv in Fr.code c68l0 => unfold c68l0
  simp (maxSteps := 1000000) (disch := omega) only [go_sem, Nat.reduceEqDiff, Nat.reduceLT, Nat.reduceAdd, Nat.reduceSub, Nat.reduceMul, Nat.reduceBEq, Int.reduceLT, Int.reduceAdd, Int.reduceMul, Int.reduceSub, Int.reduceToNat, Int.reduceLE, Int.reduceEq, ↓reduceIte, reduceCtorEq, Int.reduceNeg, Nat.reduceLeDiff]
  rw [acs_lp]; conv in Fr.code c68l0 => unfold c68l0
  simp (maxSteps := 1000000) (disch := omega) only [go_sem, Nat.reduceEqDiff, Nat.reduceLT, Nat.reduceAdd, Nat.reduceSub, Nat.reduceMul, Nat.reduceBEq, Int.reduceLT, Int.reduceAdd, Int.reduceMul, Int.reduceSub, Int.reduceToNat, Int.reduceLE, Int.reduceEq, ↓reduceIte, reduceCtorEq, Int.reduceNeg, Nat.reduceLeDiff]
  rw [acs_lp]; conv in Fr.code c68l0 => unfold c68l0
  simp (maxSteps := 1000000) (disch := omega) only [go_sem, Nat.reduceEqDiff, Nat.reduceLT, Nat.reduceAdd, Nat.reduceSub, Nat.reduceMul, Nat.reduceBEq, Int.reduceLT, Int.reduceAdd, Int.reduceMul, Int.reduceSub, Int.reduceToNat, Int.reduceLE, Int.reduceEq, ↓reduceIte, reduceCtorEq, Int.reduceNeg, Nat.reduceLeDiff]
  rw [acs_lp]; conv in Fr.code c68l0 => unfold c68l0
  simp (maxSteps := 1000000) (disch := omega) only [go_sem, Nat.reduceEqDiff, Nat.reduceLT, Nat.reduceAdd, Nat.reduceSub, Nat.reduceMul, Nat.reduceBEq, Int.reduceLT, Int.reduceAdd, Int.reduceMul, Int.reduceSub, Int.reduceToNat, Int.reduceLE, Int.reduceEq, ↓reduceIte, reduceCtorEq, Int.reduceNeg, Nat.reduceLeDiff]
  rw [acs_lp]; conv in Fr.code c68l0 => unfold c68l0
  simp (maxSteps := 1000000) (disch := omega) only [go_sem, Nat.reduceEqDiff, Nat.reduceLT, Nat.reduceAdd, Nat.reduceSub, Nat.reduceMul, Nat.reduceBEq, Int.reduceLT, Int.reduceAdd, Int.reduceMul, Int.reduceSub, Int.reduceToNat, Int.reduceLE, Int.reduceEq, ↓reduceIte, reduceCtorEq, Int.reduceNeg, Nat.reduceLeDiff]
  rw [acs_lp]; conv in Fr.code c68l0 => unfold c68l0
  simp (maxSteps := 1000000) (disch := omega) only [go_sem, Nat.reduceEqDiff, Nat.reduceLT, Nat.reduceAdd, Nat.reduceSub, Nat.reduceMul, Nat.reduceBEq, Int.reduceLT, Int.reduceAdd, Int.reduceMul, Int.reduceSub, Int.reduceToNat, Int.reduceLE, Int.reduceEq, ↓reduceIte, reduceCtorEq, Int.reduceNeg, Nat.reduceLeDiff]
  rw [acs_lp]; conv in Fr.code c68l0 => unfold c68l0
  simp (maxSteps := 1000000) (disch := omega) only [go_sem, Nat.reduceEqDiff, Nat.reduceLT, Nat.reduceAdd, Nat.reduceSub, Nat.reduceMul, Nat.reduceBEq, Int.reduceLT, Int.reduceAdd, Int.reduceMul, Int.reduceSub, Int.reduceToNat, Int.reduceLE, Int.reduceEq, ↓reduceIte, reduceCtorEq, Int.reduceNeg, Nat.reduceLeDiff]
  rw [acs_lp]; conv in Fr.code c68l0 => unfold c68l0
  simp (maxSteps := 1000000) (disch := omega) only [go_sem, Nat.reduceEqDiff, Nat.reduceLT, Nat.reduceAdd, Nat.reduceSub, Nat.reduceMul, Nat.reduceBEq, Int.reduceLT, Int.reduceAdd, Int.reduceMul, Int.reduceSub, Int.reduceToNat, Int.reduceLE, Int.reduceEq, ↓reduceIte, reduceCtorEq, Int.reduceNeg, Nat.reduceLeDiff]
  refine fin_e (by simp) (by simp (maxSteps := 1000000) (disch := omega) only [resVal, resAll, resOne, rs68, Env.get, go_sem, Nat.reduceEqDiff, Nat.reduceLT, Nat.reduceAdd, Nat.reduceSub, Nat.reduceMul, Nat.reduceBEq, Int.reduceLT, Int.reduceAdd, Int.reduceMul, Int.reduceSub, Int.reduceToNat, Int.reduceLE, Int.reduceEq, ↓reduceIte, reduceCtorEq, Int.reduceNeg, Nat.reduceLeDiff, ] <;> rfl) (Ext.app _ _) ⟨_, rfl, by simp only [go_sem, Nat.reduceEqDiff, Nat.reduceLT, Nat.reduceAdd, Nat.reduceSub, Nat.reduceMul, Nat.reduceBEq, Int.reduceLT, Int.reduceAdd, Int.reduceMul, Int.reduceSub, Int.reduceToNat, Int.reduceLE, Int.reduceEq, ↓reduceIte, reduceCtorEq, Int.reduceNeg, Nat.reduceLeDiff]; rfl, by omega⟩

/-! The document's new track. -/
theorem v0_in {i : Nat} (h : i < 3) : inb (v0L.getD i 0) = true := by
  rcases i with _ | _ | _ | i
  · decide
  · decide
  · decide
  · omega
theorem f53_step {b2 b5 p q i : Nat} {k : Option Nat} {cs : List AV} {Y : Heap} {Q : Post} {fs : List Fr} (h5 : blkAt Y b5 = some ⟨[.int .i64 3, .int .i64 3, .sl p 0 9 1 none], true⟩) (hp : blkAt Y p = some ⟨cs, true⟩) (hl : cs.length = 9) (hs : Sl i64 Y q 0 v0L) (hi : i < 3)
    (hq : ∀ Y', blkAt Y' p = some ⟨cs.set (i * 3 + i) (.int .i64 (v0L.getD i 0)), true⟩ → (∀ b k, b ≠ p → blkAt Y b = some k → blkAt Y' b = some k) → (∀ H, H.length ≤ p → Ext H Y → Ext H Y') →
      acs Try.prog (.lp c53l0 :: fs) [(0, .sl q 0 3 1 k), (2, .ptr b2 0), (4, .int .i64 3), (5, .ptr b5 0), (6, .int .i64 ((i + 1 : Nat) : Int))] Y' Q) :
    acs Try.prog (.lp c53l0 :: fs) [(0, .sl q 0 3 1 k), (2, .ptr b2 0), (4, .int .i64 3), (5, .ptr b5 0), (6, .int .i64 (i : Int))] Y Q := by
  have hq := hq _ (blkAt_set_self (blkAt_lt hp) _) (fun b k hb hk => by rw [blkAt_set_ne (by omega)]; exact hk) (fun H hH h => h.set hH _)
  obtain ⟨ds, o, hd, hle, hcs⟩ := hs
  have hlt : (i : Int) < 3 := by omega
  have lp := blkAt_lt hp
  have gi : v0L[i]? = some (v0L.getD i 0) := by
    rw [List.getD_eq_getElem?_getD, List.getElem?_eq_getElem (show i < v0L.length by exact hi)]
    rfl
  have fx : ds[i]? = some (.int .i64 (v0L.getD i 0)) := by
    have := sl_get hcs gi
    rwa [Nat.zero_add] at this
  have g50 := fun (X : Heap) => f50 (a := v0L.getD i 0) (H := X)
  rw [v0_in hi] at g50
  generalize v0L.getD i 0 = x at *
  have w1 : IntKind.i64.wrap ((i : Int) * 3) = ((i * 3 : Nat) : Int) := by rw [i64_in _ (by omega)]; omega
  have w2 : IntKind.i64.wrap (((i * 3 : Nat) : Int) + (i : Int)) = ((i * 3 + i : Nat) : Int) := by rw [i64_in _ (by omega)]; omega
  have q1 : ((i * 3 + i : Nat) : Int) < 9 := by omega
  have q2 : i * 3 + i + 1 ≤ cs.length := by omega
  have e : cs.set (i * 3 + i) (.int .i64 x) = cs.take (i * 3 + i) ++ .int .i64 x :: cs.drop (i * 3 + i + 1) := List.set_eq_take_append_cons_drop .. |>.trans (by rw [if_pos (by omega)])
  rw [e] at hq
  rw [acs_lp]; conv in Fr.code c53l0 => unfold c53l0
  simp (maxSteps := 1000000) (disch := omega) only [go_sem, Nat.reduceEqDiff, Nat.reduceLT, Nat.reduceAdd, Nat.reduceSub, Nat.reduceMul, Nat.reduceBEq, Int.reduceLT, Int.reduceAdd, Int.reduceMul, Int.reduceSub, Int.reduceToNat, Int.reduceLE, Int.reduceEq, ↓reduceIte, reduceCtorEq, Int.reduceNeg, Nat.reduceLeDiff,  hlt, hd, fx]
  first | refine callB_intro (g50 _) ?_ | refine callD_intro (g50 _) ?_ | refine callP_intro (fun _ => (g50 _)) ?_ | refine callX_pure (g50 _) ?_
  simp (maxSteps := 1000000) (disch := omega) only [go_sem, Nat.reduceEqDiff, Nat.reduceLT, Nat.reduceAdd, Nat.reduceSub, Nat.reduceMul, Nat.reduceBEq, Int.reduceLT, Int.reduceAdd, Int.reduceMul, Int.reduceSub, Int.reduceToNat, Int.reduceLE, Int.reduceEq, ↓reduceIte, reduceCtorEq, Int.reduceNeg, Nat.reduceLeDiff,  hd, fx, h5, hp, lp, w1, w2, q1, q2, hlt, hl]
  simp only [List.append_assoc, List.cons_append, List.nil_append, List.length_append, List.length_cons, List.length_nil, Nat.reduceAdd, Nat.add_assoc, Nat.zero_add, Nat.add_zero, Int.natCast_add, Int.cast_ofNat_Int, ] at hq
  exact ⟨by omega, hq⟩
theorem f53 {q : Nat} {k : Option Nat} {H : Heap} (hs : Sl i64 H q 0 v0L) : ACallE Try.prog 53 [.sl q 0 3 1 k] H fun v H' => ∃ p, v = .tup [.agg [.int .i64 3, .int .i64 3, .sl p 0 9 1 none], .int .i64 0] ∧ blkAt H' p = some ⟨p0L.map (AV.int .i64), true⟩ ∧ H.length ≤ p := by
  refine acallE (fun v Hf h => acallK53 (by simp) h) (acs_start ?_)
  have lq := hs.lt
  unfold c53
  simp (maxSteps := 1000000) (disch := omega) only [go_sem, Nat.reduceEqDiff, Nat.reduceLT, Nat.reduceAdd, Nat.reduceSub, Nat.reduceMul, Nat.reduceBEq, Int.reduceLT, Int.reduceAdd, Int.reduceMul, Int.reduceSub, Int.reduceToNat, Int.reduceLE, Int.reduceEq, ↓reduceIte, reduceCtorEq, Int.reduceNeg, Nat.reduceLeDiff]
  first | refine callBE (f68) ?_ | refine callDE (f68) ?_ | refine callXE (f68) ?_
  rintro v X hx ⟨p, rfl, hp, hpl⟩
  have hX : Ext H X := (Ext.app _ _).trans hx
  have h2 : blkAt X H.length = some ⟨[.int .i64 0, .int .i64 0, .nils], true⟩ := hx.blk (by simp only [go_sem, Nat.reduceEqDiff, Nat.reduceLT, Nat.reduceAdd, Nat.reduceSub, Nat.reduceMul, Nat.reduceBEq, Int.reduceLT, Int.reduceAdd, Int.reduceMul, Int.reduceSub, Int.reduceToNat, Int.reduceLE, Int.reduceEq, ↓reduceIte, reduceCtorEq, Int.reduceNeg, Nat.reduceLeDiff])
  have l2 := blkAt_lt h2
  have lp := blkAt_lt hp
  simp only [List.length_append, List.length_cons, List.length_nil] at hpl
  have hsX := hX.sl hs
  simp (maxSteps := 1000000) (disch := omega) only [go_sem, Nat.reduceEqDiff, Nat.reduceLT, Nat.reduceAdd, Nat.reduceSub, Nat.reduceMul, Nat.reduceBEq, Int.reduceLT, Int.reduceAdd, Int.reduceMul, Int.reduceSub, Int.reduceToNat, Int.reduceLE, Int.reduceEq, ↓reduceIte, reduceCtorEq, Int.reduceNeg, Nat.reduceLeDiff]
  have hp1 : ∀ G, blkAt (X ++ G) p = some ⟨List.replicate 9 (.int .i64 0), true⟩ := fun G => (blkAt_lo G lp).trans hp
  have kp : ∀ {Y Y' : Heap}, (∀ b k, b ≠ p → blkAt Y b = some k → blkAt Y' b = some k) → Sl i64 Y q 0 v0L → Sl i64 Y' q 0 v0L := fun hk ⟨cs, o, a1, a2, a3⟩ => ⟨cs, o, hk _ _ (by omega) a1, a2, a3⟩
  refine f53_step (i := 0) (b5 := X.length) (by simp only [go_sem, Nat.reduceEqDiff, Nat.reduceLT, Nat.reduceAdd, Nat.reduceSub, Nat.reduceMul, Nat.reduceBEq, Int.reduceLT, Int.reduceAdd, Int.reduceMul, Int.reduceSub, Int.reduceToNat, Int.reduceLE, Int.reduceEq, ↓reduceIte, reduceCtorEq, Int.reduceNeg, Nat.reduceLeDiff]) (hp1 _) rfl (hsX.app _) (by decide) ?_
  intro Y1 y1 k1 e1
  have m1 := k1 X.length ⟨[AV.int .i64 3, .int .i64 3, .sl p 0 9 1 none], true⟩ (by omega) (by simp only [go_sem, Nat.reduceEqDiff, Nat.reduceLT, Nat.reduceAdd, Nat.reduceSub, Nat.reduceMul, Nat.reduceBEq, Int.reduceLT, Int.reduceAdd, Int.reduceMul, Int.reduceSub, Int.reduceToNat, Int.reduceLE, Int.reduceEq, ↓reduceIte, reduceCtorEq, Int.reduceNeg, Nat.reduceLeDiff])
  have n1 := k1 H.length _ (by omega) (by rw [blkAt_lo _ l2]; exact h2)
  have s1 := kp k1 (hsX.app _)
  have x1 := e1 H (by omega) (hX.to _)
  refine f53_step (i := 1) (b5 := X.length) m1 y1 rfl s1 (by decide) ?_
  intro Y2 y2 k2 e2
  have m2 := k2 X.length _ (by omega) m1
  have n2 := k2 H.length _ (by omega) n1
  have s2 := kp k2 s1
  have x2 := e2 H (by omega) x1
  refine f53_step (i := 2) (b5 := X.length) m2 y2 rfl s2 (by decide) ?_
  intro Y3 y3 k3 e3
  have m3 := k3 X.length _ (by omega) m2
  have n3 := k3 H.length _ (by omega) n2
  have x3 := e3 H (by omega) x2
  have l3 := blkAt_lt n3
  clear kp k1 k2 k3 e1 e2 e3
  rw [acs_lp]; conv in Fr.code c53l0 => unfold c53l0
  simp (maxSteps := 1000000) (disch := omega) only [go_sem, Nat.reduceEqDiff, Nat.reduceLT, Nat.reduceAdd, Nat.reduceSub, Nat.reduceMul, Nat.reduceBEq, Int.reduceLT, Int.reduceAdd, Int.reduceMul, Int.reduceSub, Int.reduceToNat, Int.reduceLE, Int.reduceEq, ↓reduceIte, reduceCtorEq, Int.reduceNeg, Nat.reduceLeDiff,  m3, n3, l3]
  refine fin_e (by simp) (by simp (maxSteps := 1000000) (disch := omega) only [resVal, resAll, resOne, rs53, Env.get, go_sem, Nat.reduceEqDiff, Nat.reduceLT, Nat.reduceAdd, Nat.reduceSub, Nat.reduceMul, Nat.reduceBEq, Int.reduceLT, Int.reduceAdd, Int.reduceMul, Int.reduceSub, Int.reduceToNat, Int.reduceLE, Int.reduceEq, ↓reduceIte, reduceCtorEq, Int.reduceNeg, Nat.reduceLeDiff, blkAt_set_self l3] <;> rfl) (x3.set (Nat.le_refl _) _) ⟨p, rfl, by rw [blkAt_set_ne (by omega)]; exact y3, by omega⟩

/-! The document's new track, and its estimator at the beginning. -/
theorem f50_0 {H : Heap} : ACall Try.prog 50 [.int .i64 0] H (.bool true) H := f50 (a := 0)
theorem f30 {p1 p2 : Nat} {k1 k2 : Option Nat} {o1 o2 : Bool} {H : Heap} (h1 : blkAt H p1 = some ⟨[.int .i64 0, .int .i64 0, .int .i64 0], o1⟩) (h2 : blkAt H p2 = some ⟨[.int .i64 1677721600, .int .i64 167772160, .int .i64 16777216], o2⟩) : ACallE Try.prog 30 [.sl p1 0 3 1 k1, .sl p2 0 3 1 k2] H fun v H' => ∃ t : Tk, v = .tup [.agg t.av, .int .i64 0] ∧ T0 t ∧ t.ok H' ∧ H.length ≤ t.xp ∧ H.length ≤ t.pp := by
  refine acallE (fun v Hf h => acallK30 (by simp) h) (acs_start ?_)
  have l1 := blkAt_lt h1
  have l2 := blkAt_lt h2
  have s2 : Sl i64 H p2 0 v0L := Sl.whole (o := o2) h2
  have g53 := fun G => f53 (k := k2) (s2.app G)
  unfold c30
  simp (maxSteps := 1000000) (disch := omega) only [go_sem, Nat.reduceEqDiff, Nat.reduceLT, Nat.reduceAdd, Nat.reduceSub, Nat.reduceMul, Nat.reduceBEq, Int.reduceLT, Int.reduceAdd, Int.reduceMul, Int.reduceSub, Int.reduceToNat, Int.reduceLE, Int.reduceEq, ↓reduceIte, reduceCtorEq, Int.reduceNeg, Nat.reduceLeDiff]
  first | refine callBE (g53 _) ?_ | refine callDE (g53 _) ?_ | refine callXE (g53 _) ?_
  rintro v X hx ⟨p, rfl, hp, hpl⟩
  simp only [List.length_append, List.length_cons, List.length_nil] at hpl
  have hX : Ext H X := (Ext.app _ _).trans hx
  have a1 := hX.blk h1
  have a2 := hX.blk h2
  have a4 : blkAt X H.length = some ⟨[.int .i64 0, .int .i64 0, .nils, .int .i64 0, .int .i64 0, .nils], true⟩ := hx.blk (by simp only [go_sem, Nat.reduceEqDiff, Nat.reduceLT, Nat.reduceAdd, Nat.reduceSub, Nat.reduceMul, Nat.reduceBEq, Int.reduceLT, Int.reduceAdd, Int.reduceMul, Int.reduceSub, Int.reduceToNat, Int.reduceLE, Int.reduceEq, ↓reduceIte, reduceCtorEq, Int.reduceNeg, Nat.reduceLeDiff])
  have l4 := blkAt_lt a4
  have la1 := blkAt_lt a1
  have la2 := blkAt_lt a2
  have lp := blkAt_lt hp
  simp (maxSteps := 1000000) (disch := omega) only [go_sem, Nat.reduceEqDiff, Nat.reduceLT, Nat.reduceAdd, Nat.reduceSub, Nat.reduceMul, Nat.reduceBEq, Int.reduceLT, Int.reduceAdd, Int.reduceMul, Int.reduceSub, Int.reduceToNat, Int.reduceLE, Int.reduceEq, ↓reduceIte, reduceCtorEq, Int.reduceNeg, Nat.reduceLeDiff]
  rw [acs_lp]; conv in Fr.code c30l0 => unfold c30l0
  simp (maxSteps := 1000000) (disch := omega) only [go_sem, Nat.reduceEqDiff, Nat.reduceLT, Nat.reduceAdd, Nat.reduceSub, Nat.reduceMul, Nat.reduceBEq, Int.reduceLT, Int.reduceAdd, Int.reduceMul, Int.reduceSub, Int.reduceToNat, Int.reduceLE, Int.reduceEq, ↓reduceIte, reduceCtorEq, Int.reduceNeg, Nat.reduceLeDiff,  a1, a2, la1, la2, blkAt_lo]
  first | refine callB_intro (f50_0) ?_ | refine callD_intro (f50_0) ?_ | refine callP_intro (fun _ => (f50_0)) ?_ | refine callX_pure (f50_0) ?_
  simp (maxSteps := 1000000) (disch := omega) only [go_sem, Nat.reduceEqDiff, Nat.reduceLT, Nat.reduceAdd, Nat.reduceSub, Nat.reduceMul, Nat.reduceBEq, Int.reduceLT, Int.reduceAdd, Int.reduceMul, Int.reduceSub, Int.reduceToNat, Int.reduceLE, Int.reduceEq, ↓reduceIte, reduceCtorEq, Int.reduceNeg, Nat.reduceLeDiff,  a1, a2, la1, la2, blkAt_lo]
  rw [acs_lp]; conv in Fr.code c30l0 => unfold c30l0
  simp (maxSteps := 1000000) (disch := omega) only [go_sem, Nat.reduceEqDiff, Nat.reduceLT, Nat.reduceAdd, Nat.reduceSub, Nat.reduceMul, Nat.reduceBEq, Int.reduceLT, Int.reduceAdd, Int.reduceMul, Int.reduceSub, Int.reduceToNat, Int.reduceLE, Int.reduceEq, ↓reduceIte, reduceCtorEq, Int.reduceNeg, Nat.reduceLeDiff,  a1, a2, la1, la2, blkAt_lo]
  first | refine callB_intro (f50_0) ?_ | refine callD_intro (f50_0) ?_ | refine callP_intro (fun _ => (f50_0)) ?_ | refine callX_pure (f50_0) ?_
  simp (maxSteps := 1000000) (disch := omega) only [go_sem, Nat.reduceEqDiff, Nat.reduceLT, Nat.reduceAdd, Nat.reduceSub, Nat.reduceMul, Nat.reduceBEq, Int.reduceLT, Int.reduceAdd, Int.reduceMul, Int.reduceSub, Int.reduceToNat, Int.reduceLE, Int.reduceEq, ↓reduceIte, reduceCtorEq, Int.reduceNeg, Nat.reduceLeDiff,  a1, a2, la1, la2, blkAt_lo]
  rw [acs_lp]; conv in Fr.code c30l0 => unfold c30l0
  simp (maxSteps := 1000000) (disch := omega) only [go_sem, Nat.reduceEqDiff, Nat.reduceLT, Nat.reduceAdd, Nat.reduceSub, Nat.reduceMul, Nat.reduceBEq, Int.reduceLT, Int.reduceAdd, Int.reduceMul, Int.reduceSub, Int.reduceToNat, Int.reduceLE, Int.reduceEq, ↓reduceIte, reduceCtorEq, Int.reduceNeg, Nat.reduceLeDiff,  a1, a2, la1, la2, blkAt_lo]
  first | refine callB_intro (f50_0) ?_ | refine callD_intro (f50_0) ?_ | refine callP_intro (fun _ => (f50_0)) ?_ | refine callX_pure (f50_0) ?_
  simp (maxSteps := 1000000) (disch := omega) only [go_sem, Nat.reduceEqDiff, Nat.reduceLT, Nat.reduceAdd, Nat.reduceSub, Nat.reduceMul, Nat.reduceBEq, Int.reduceLT, Int.reduceAdd, Int.reduceMul, Int.reduceSub, Int.reduceToNat, Int.reduceLE, Int.reduceEq, ↓reduceIte, reduceCtorEq, Int.reduceNeg, Nat.reduceLeDiff,  a1, a2, la1, la2, blkAt_lo]
  rw [acs_lp]; conv in Fr.code c30l0 => unfold c30l0
  simp (maxSteps := 1000000) (disch := omega) only [go_sem, Nat.reduceEqDiff, Nat.reduceLT, Nat.reduceAdd, Nat.reduceSub, Nat.reduceMul, Nat.reduceBEq, Int.reduceLT, Int.reduceAdd, Int.reduceMul, Int.reduceSub, Int.reduceToNat, Int.reduceLE, Int.reduceEq, ↓reduceIte, reduceCtorEq, Int.reduceNeg, Nat.reduceLeDiff,  a1, a4, la1, l4, blkAt_lo, set_lo]
  have ne1 : H.length ≠ p := by omega
  have hsp : Sl i64 (X.set H.length (some ⟨[.int .i64 3, .int .i64 1, .sl (X.length + 2) 0 3 1 none, .int .i64 3, .int .i64 3, .sl p 0 9 1 none], true⟩) ++ [some ⟨[.int .i64 3, .int .i64 3, .sl p 0 9 1 none], true⟩, some ⟨[], true⟩, some ⟨[.int .i64 0, .int .i64 0, .int .i64 0], true⟩]) p 0 p0L := ((Sl.whole (o := true) hp).set ne1 _).app _
  have hsx : Sl i64 (X.set H.length (some ⟨[.int .i64 3, .int .i64 1, .sl (X.length + 2) 0 3 1 none, .int .i64 3, .int .i64 3, .sl p 0 9 1 none], true⟩) ++ [some ⟨[.int .i64 3, .int .i64 3, .sl p 0 9 1 none], true⟩, some ⟨[], true⟩, some ⟨[.int .i64 0, .int .i64 0, .int .i64 0], true⟩]) (X.length + 2) 0 x0L := Sl.whole (o := true) (by
    have := blkAt_app (X.set H.length (some ⟨[.int .i64 3, .int .i64 1, .sl (X.length + 2) 0 3 1 none, .int .i64 3, .int .i64 3, .sl p 0 9 1 none], true⟩)) [some ⟨[.int .i64 3, .int .i64 3, .sl p 0 9 1 none], true⟩, some ⟨[], true⟩, some ⟨[.int .i64 0, .int .i64 0, .int .i64 0], true⟩] 2
    rw [List.length_set] at this
    exact this)
  have hc : ∀ x G, blkAt (X.set H.length x ++ G) H.length = x := fun x G => by rw [blkAt_los _ _ l4, blkAt_set_self l4]
  refine fin_e (by simp) (by simp (maxSteps := 1000000) (disch := omega) only [resVal, resAll, resOne, rs30, Env.get, go_sem, Nat.reduceEqDiff, Nat.reduceLT, Nat.reduceAdd, Nat.reduceSub, Nat.reduceMul, Nat.reduceBEq, Int.reduceLT, Int.reduceAdd, Int.reduceMul, Int.reduceSub, Int.reduceToNat, Int.reduceLE, Int.reduceEq, ↓reduceIte, reduceCtorEq, Int.reduceNeg, Nat.reduceLeDiff, hc] <;> rfl) ((hX.set (Nat.le_refl _) _).to _) ⟨⟨3, 1, x0L, X.length + 2, 0, none, 3, 3, p0L, p, 0, none⟩, rfl, ⟨rfl, rfl, rfl, rfl, rfl, rfl⟩, ⟨hsx, hsp, (show (3 : Nat) ≤ 4611686018427387904 by decide), (show (9 : Nat) ≤ 4611686018427387904 by decide)⟩, by show H.length ≤ X.length + 2; omega, by show H.length ≤ p; omega⟩

/-! The document's estimator at its beginning. -/
theorem f15_step {b2 bE i : Nat} {cs : List AV} {X : Heap} {Q : Post} {fs : List Fr} (hE : blkAt X bE = some ⟨cs, true⟩) (hl : cs.length = 29) (hi : i < 3)
    (hq : ∀ t X', T0 t → t.ok X' → blkAt X' bE = some ⟨setCells cs (4 + i * 6) t.av, true⟩ → (∀ b k, b ≠ bE → blkAt X b = some k → blkAt X' b = some k) → X.length ≤ X'.length → X.length ≤ t.xp → X.length ≤ t.pp → (∀ H, H.length ≤ bE → Ext H X → Ext H X') →
      acs Try.prog (.lp c15l0 :: fs) [(2, .ptr b2 0), (5, .ptr bE 0), (6, .int .i64 ((i + 1 : Nat) : Int))] X' Q) :
    acs Try.prog (.lp c15l0 :: fs) [(2, .ptr b2 0), (5, .ptr bE 0), (6, .int .i64 (i : Int))] X Q := by
  have lE := blkAt_lt hE
  have hlt : (i : Int) < 3 := by omega
  have g70 := f30 (p1 := X.length) (p2 := X.length + 1) (k1 := some 3) (k2 := some 3) (o1 := true) (o2 := true) (H := X ++ [some ⟨[.int .i64 0, .int .i64 0, .int .i64 0], true⟩, some ⟨[.int .i64 1677721600, .int .i64 167772160, .int .i64 16777216], true⟩])
    (by simp only [go_sem, Nat.reduceEqDiff, Nat.reduceLT, Nat.reduceAdd, Nat.reduceSub, Nat.reduceMul, Nat.reduceBEq, Int.reduceLT, Int.reduceAdd, Int.reduceMul, Int.reduceSub, Int.reduceToNat, Int.reduceLE, Int.reduceEq, ↓reduceIte, reduceCtorEq, Int.reduceNeg, Nat.reduceLeDiff]) (by simp only [go_sem, Nat.reduceEqDiff, Nat.reduceLT, Nat.reduceAdd, Nat.reduceSub, Nat.reduceMul, Nat.reduceBEq, Int.reduceLT, Int.reduceAdd, Int.reduceMul, Int.reduceSub, Int.reduceToNat, Int.reduceLE, Int.reduceEq, ↓reduceIte, reduceCtorEq, Int.reduceNeg, Nat.reduceLeDiff])
  have hc : 4 + (i * 6 + 6) ≤ cs.length := by omega
  rw [acs_lp]; conv in Fr.code c15l0 => unfold c15l0
  simp (maxSteps := 1000000) (disch := omega) only [go_sem, Nat.reduceEqDiff, Nat.reduceLT, Nat.reduceAdd, Nat.reduceSub, Nat.reduceMul, Nat.reduceBEq, Int.reduceLT, Int.reduceAdd, Int.reduceMul, Int.reduceSub, Int.reduceToNat, Int.reduceLE, Int.reduceEq, ↓reduceIte, reduceCtorEq, Int.reduceNeg, Nat.reduceLeDiff,  hlt, rep3]
  refine callBE g70 ?_
  rintro v X1 hx1 ⟨t, rfl, ht, hok, hp1, hp2⟩
  have hxx : Ext X X1 := (Ext.app _ _).trans hx1
  have hE1 := hxx.blk hE
  have lE1 := blkAt_lt hE1
  simp only [List.length_append, List.length_cons, List.length_nil] at hp1 hp2
  have full : (AV.agg t.av).full = true := rfl
  have hq2 := hq t (X1.set bE (some ⟨setCells cs (4 + i * 6) t.av, true⟩) ++ [some ⟨t.av, true⟩]) ht ⟨(hok.hx.set (by omega) _).app _, (hok.hp.set (by omega) _).app _, hok.lx, hok.lp⟩ (by rw [blkAt_los _ _ lE1, blkAt_set_self lE1]) (fun b k hb hk => by rw [blkAt_los _ _ (blkAt_lt (hxx.blk hk)), blkAt_set_ne (by omega)]; exact hxx.blk hk) (by rw [List.length_append, List.length_set]; have := hxx.len; omega) (by omega) (by omega) (fun H hH h => ((h.trans hxx).set hH _).to _)
  unfold Tk.av at hq2 full
  unfold Tk.av
  simp only [List.append_assoc, List.cons_append, List.nil_append, List.length_append, List.length_cons, List.length_nil, Nat.reduceAdd, Nat.add_assoc, Nat.zero_add, Nat.add_zero, Int.natCast_add, Int.cast_ofNat_Int, setCells] at hq2
  simp (maxSteps := 1000000) (disch := omega) only [go_sem, Nat.reduceEqDiff, Nat.reduceLT, Nat.reduceAdd, Nat.reduceSub, Nat.reduceMul, Nat.reduceBEq, Int.reduceLT, Int.reduceAdd, Int.reduceMul, Int.reduceSub, Int.reduceToNat, Int.reduceLE, Int.reduceEq, ↓reduceIte, reduceCtorEq, Int.reduceNeg, Nat.reduceLeDiff,  hE1, lE1, hlt, hc, full, blkAt_lo, set_lo]
  exact hq2
theorem f15 {c0 c1 c2 c3 c4 c5 : Int} {H : Heap} (hm : mayB c0 c1 c2 c3 c4 c5 = true) :
    ACallE Try.prog 15 [.agg [.int .i64 c0, .int .i64 c1, .int .i64 c2, .int .i64 c3, .int .i64 c4, .int .i64 c5]] H fun v H' => ∃ e : Es, v = .tup [.agg e.av, .int .i64 0] ∧ E0 e ∧ e.ok H' := by
  refine acallE (fun v Hf h => acallK15 (by simp) h) (acs_start ?_)
  have g14 := fun G => f14 (a := c0) (b := c1) (c := c2) (d := c3) (e := c4) (f := c5) (H := H ++ G)
  rw [hm] at g14
  unfold c15
  simp (maxSteps := 1000000) (disch := omega) only [go_sem, Nat.reduceEqDiff, Nat.reduceLT, Nat.reduceAdd, Nat.reduceSub, Nat.reduceMul, Nat.reduceBEq, Int.reduceLT, Int.reduceAdd, Int.reduceMul, Int.reduceSub, Int.reduceToNat, Int.reduceLE, Int.reduceEq, ↓reduceIte, reduceCtorEq, Int.reduceNeg, Nat.reduceLeDiff]
  first | refine callB_intro (g14 _) ?_ | refine callD_intro (g14 _) ?_ | refine callP_intro (fun _ => (g14 _)) ?_ | refine callX_pure (g14 _) ?_
  simp (maxSteps := 1000000) (disch := omega) only [go_sem, Nat.reduceEqDiff, Nat.reduceLT, Nat.reduceAdd, Nat.reduceSub, Nat.reduceMul, Nat.reduceBEq, Int.reduceLT, Int.reduceAdd, Int.reduceMul, Int.reduceSub, Int.reduceToNat, Int.reduceLE, Int.reduceEq, ↓reduceIte, reduceCtorEq, Int.reduceNeg, Nat.reduceLeDiff]
  refine f15_step (i := 0) (bE := H.length + 2) (by simp only [go_sem, Nat.reduceEqDiff, Nat.reduceLT, Nat.reduceAdd, Nat.reduceSub, Nat.reduceMul, Nat.reduceBEq, Int.reduceLT, Int.reduceAdd, Int.reduceMul, Int.reduceSub, Int.reduceToNat, Int.reduceLE, Int.reduceEq, ↓reduceIte, reduceCtorEq, Int.reduceNeg, Nat.reduceLeDiff]; rfl) rfl (by decide) ?_
  intro ta X1 ha oka hE1 hk1 hx1 hxp1 hpp1 ext1
  refine f15_step (i := 1) hE1 rfl (by decide) ?_
  intro tb X2 hb okb hE2 hk2 hx2 hxp2 hpp2 ext2
  refine f15_step (i := 2) hE2 rfl (by decide) ?_
  intro tc X3 hc okc hE3 hk3 hx3 hxp3 hpp3 ext3
  have hX : Ext H X3 := ext3 H (by omega) (ext2 H (by omega) (ext1 H (by omega) (Ext.app _ _)))
  simp only [List.length_append, List.length_cons, List.length_nil] at hx1 hxp1 hpp1
  have ka := (oka.keep hk2 (by omega) (by omega)).keep hk3 (by omega) (by omega)
  have kb := okb.keep hk3 (by omega) (by omega)
  have h2 : blkAt X3 (H.length + 1) = _ := hk3 _ _ (by omega) (hk2 _ _ (by omega) (hk1 (H.length + 1) _ (by omega) (by simp only [go_sem, Nat.reduceEqDiff, Nat.reduceLT, Nat.reduceAdd, Nat.reduceSub, Nat.reduceMul, Nat.reduceBEq, Int.reduceLT, Int.reduceAdd, Int.reduceMul, Int.reduceSub, Int.reduceToNat, Int.reduceLE, Int.reduceEq, ↓reduceIte, reduceCtorEq, Int.reduceNeg, Nat.reduceLeDiff]; rfl)))
  have l2 := blkAt_lt h2
  clear hk1 hk2 hk3 ext1 ext2 ext3 hE1 hE2 g14
  unfold Tk.av at hE3
  simp only [go_sem, Nat.reduceEqDiff, Nat.reduceLT, Nat.reduceAdd, Nat.reduceSub, Nat.reduceMul, Nat.reduceBEq, Int.reduceLT, Int.reduceAdd, Int.reduceMul, Int.reduceSub, Int.reduceToNat, Int.reduceLE, Int.reduceEq, ↓reduceIte, reduceCtorEq, Int.reduceNeg, Nat.reduceLeDiff] at hE3
  rw [acs_lp]; conv in Fr.code c15l0 => unfold c15l0
  simp (maxSteps := 1000000) (disch := omega) only [go_sem, Nat.reduceEqDiff, Nat.reduceLT, Nat.reduceAdd, Nat.reduceSub, Nat.reduceMul, Nat.reduceBEq, Int.reduceLT, Int.reduceAdd, Int.reduceMul, Int.reduceSub, Int.reduceToNat, Int.reduceLE, Int.reduceEq, ↓reduceIte, reduceCtorEq, Int.reduceNeg, Nat.reduceLeDiff,  hE3, h2, l2]
  refine fin_e (by simp) (by simp (maxSteps := 1000000) (disch := omega) only [resVal, resAll, resOne, rs15, Env.get, go_sem, Nat.reduceEqDiff, Nat.reduceLT, Nat.reduceAdd, Nat.reduceSub, Nat.reduceMul, Nat.reduceBEq, Int.reduceLT, Int.reduceAdd, Int.reduceMul, Int.reduceSub, Int.reduceToNat, Int.reduceLE, Int.reduceEq, ↓reduceIte, reduceCtorEq, Int.reduceNeg, Nat.reduceLeDiff, blkAt_set_self l2] <;> rfl) (hX.set (by omega) _) ⟨⟨16777216, 0, 0, 0, ta, tb, tc, 0, 0, 0, 0, 0, 0, false⟩, rfl, ⟨⟨rfl, rfl, rfl, rfl⟩, ha, hb, hc, rfl, rfl, rfl, rfl, rfl, rfl, rfl⟩, ⟨ka.set (by omega) (by omega) _, kb.set (by omega) (by omega) _, okc.set (by omega) (by omega) _⟩⟩

/-! Words, laid one behind the other. -/
/-- What is laid so far. -/
def Acc (b : Nat) (acc : List Int) (X : Heap) (w : AV) : Prop := blkAt X b = some ⟨[w], true⟩ ∧ (acc = [] ∧ w = .nils ∨ ∃ q, b < q ∧ w = .sl q 0 acc.length 1 none ∧ blkAt X q = some ⟨acc.map (AV.int .i64), true⟩)
def Keep (b : Nat) (X X' : Heap) : Prop := (∀ c k, c < b → blkAt X c = some k → blkAt X' c = some k) ∧ (∀ H, H.length ≤ b → Ext H X → Ext H X') ∧ X.length ≤ X'.length
theorem Keep.refl (b : Nat) (X : Heap) : Keep b X X := ⟨fun _ _ _ h => h, fun _ _ h => h, Nat.le_refl _⟩
theorem Keep.trans {b : Nat} {X Y Z : Heap} (h : Keep b X Y) (h' : Keep b Y Z) : Keep b X Z := ⟨fun c k hc hk => h'.1 c k hc (h.1 c k hc hk), fun H hH hx => h'.2.1 H hH (h.2.1 H hH hx), Nat.le_trans h.2.2 h'.2.2⟩
theorem Keep.app (b : Nat) {X : Heap} (G : Heap) : Keep b X (X ++ G) := ⟨fun c k _ hk => (blkAt_lo G (blkAt_lt hk)).trans hk, fun H _ h => h.to G, by simp⟩
theorem Keep.sl {b p off : Nat} {X Y : Heap} {l : List Int} (h : Keep b X Y) (hp : p < b) (hs : Sl i64 X p off l) : Sl i64 Y p off l := by
  obtain ⟨cs, o, h1, h2, h3⟩ := hs
  exact ⟨cs, o, h.1 _ _ hp h1, h2, h3⟩
/-- What lies apart of what is laid. -/
def Far (w : AV) (c : Nat) : Prop := ∀ q m, w = .sl q 0 m 1 none → c ≠ q
def Apart (b : Nat) (w : AV) (X : Heap) (w' : AV) (X' : Heap) : Prop := (∀ c k, c ≠ b → Far w c → blkAt X c = some k → blkAt X' c = some k) ∧ (∀ c, c < X.length → Far w c → Far w' c) ∧ X.length ≤ X'.length
theorem Apart.refl (b : Nat) (w : AV) (X : Heap) : Apart b w X w X := ⟨fun _ _ _ _ h => h, fun _ _ h => h, Nat.le_refl _⟩
theorem Apart.trans {b : Nat} {w w' w'' : AV} {X Y Z : Heap} (h : Apart b w X w' Y) (h' : Apart b w' Y w'' Z) : Apart b w X w'' Z := ⟨fun c k hc hf hk => h'.1 c k hc (h.2.1 c (blkAt_lt hk) hf) (h.1 c k hc hf hk), fun c hc hf => h'.2.1 c (Nat.lt_of_lt_of_le hc h.2.2) (h.2.1 c hc hf), Nat.le_trans h.2.2 h'.2.2⟩
theorem far_nil (c : Nat) : Far .nils c := fun q m e => by cases e
theorem Acc.one2 {b : Nat} {x : Int} {X : Heap} (h : blkAt X b = some ⟨[.nils], true⟩) : Apart b .nils X (.sl (X.length + 1) 0 1 1 none) (X.set b (some ⟨[.sl (X.length + 1) 0 1 1 none], true⟩) ++ [some ⟨[.int .i64 x], true⟩, some ⟨[.int .i64 x], true⟩]) :=
  ⟨fun c k hc _ hk => by rw [blkAt_los _ _ (blkAt_lt hk), blkAt_set_ne (by omega)]; exact hk, fun c hc _ q m e => by cases e; omega, by simp⟩
theorem Acc.push2 {b q : Nat} {x : Int} {acc : List Int} {X : Heap} : Apart b (.sl q 0 acc.length 1 none) X (.sl (X.length + 1) 0 (acc.length + 1) 1 none) ((X.set q none).set b (some ⟨[.sl (X.length + 1) 0 (acc.length + 1) 1 none], true⟩) ++ [(some ⟨[.int .i64 x], true⟩ : Option Blk), some ⟨acc.map (AV.int .i64) ++ [.int .i64 x], true⟩]) :=
  ⟨fun c k hc hf hk => by
    have := hf q _ rfl
    rw [blkAt_los _ _ (by rw [List.length_set]; exact blkAt_lt hk), blkAt_set_ne (by omega), blkAt_set_ne (by omega)]
    exact hk, fun c hc _ q m e => by cases e; omega, by simp⟩
theorem Acc.app {b : Nat} {acc : List Int} {X : Heap} {w : AV} (ha : Acc b acc X w) (G : Heap) : Acc b acc (X ++ G) w := by
  refine ⟨(blkAt_lo _ (blkAt_lt ha.1)).trans ha.1, ?_⟩
  rcases ha.2 with h | ⟨q, h1, h2, h3⟩
  · exact .inl h
  · exact .inr ⟨q, h1, h2, (blkAt_lo _ (blkAt_lt h3)).trans h3⟩
theorem Acc.farlt {b : Nat} {acc : List Int} {X : Heap} {w : AV} (ha : Acc b acc X w) {c : Nat} (hc : c < b) : Far w c := by
  intro q m e
  rcases ha.2 with ⟨_, h⟩ | ⟨q', h1, h2, _⟩
  · rw [h] at e; cases e
  · rw [h2] at e; cases e; omega
theorem Acc.farlen {b : Nat} {acc : List Int} {X : Heap} {w : AV} (ha : Acc b acc X w) : Far w X.length := by
  intro q m e
  rcases ha.2 with ⟨_, h⟩ | ⟨q', h1, h2, h3⟩
  · rw [h] at e; cases e
  · rw [h2] at e; cases e; have := blkAt_lt h3; omega
/-- One word more, where nothing is laid. -/
theorem Acc.one {b : Nat} {x : Int} {X : Heap} (h : blkAt X b = some ⟨[.nils], true⟩) :
    Acc b [x] (X.set b (some ⟨[.sl (X.length + 1) 0 1 1 none], true⟩) ++ [some ⟨[.int .i64 x], true⟩, some ⟨[.int .i64 x], true⟩]) (.sl (X.length + 1) 0 1 1 none) ∧
    Keep b X (X.set b (some ⟨[.sl (X.length + 1) 0 1 1 none], true⟩) ++ [some ⟨[.int .i64 x], true⟩, some ⟨[.int .i64 x], true⟩]) := by
  have lb := blkAt_lt h
  refine ⟨⟨by rw [blkAt_los _ _ lb, blkAt_set_self lb], .inr ⟨X.length + 1, by omega, rfl, ?_⟩⟩, fun c k hc hk => ?_, fun H hH hx => (hx.set hH _).to _, by simp⟩
  · have := blkAt_app (X.set b (some ⟨[AV.sl (X.length + 1) 0 1 1 none], true⟩)) [some ⟨[AV.int .i64 x], true⟩, some ⟨[AV.int .i64 x], true⟩] 1
    rw [List.length_set] at this
    exact this
  · rw [blkAt_los _ _ (blkAt_lt hk), blkAt_set_ne (by omega)]
    exact hk
/-- One word more. -/
theorem Acc.push {b q : Nat} {x : Int} {acc : List Int} {X : Heap} (h : blkAt X b = some ⟨[.sl q 0 acc.length 1 none], true⟩) (hq : b < q) :
    Acc b (acc ++ [x]) ((X.set q none).set b (some ⟨[.sl (X.length + 1) 0 (acc.length + 1) 1 none], true⟩) ++ [(some ⟨[.int .i64 x], true⟩ : Option Blk), some ⟨acc.map (AV.int .i64) ++ [.int .i64 x], true⟩]) (.sl (X.length + 1) 0 (acc.length + 1) 1 none) ∧
    Keep b X ((X.set q none).set b (some ⟨[.sl (X.length + 1) 0 (acc.length + 1) 1 none], true⟩) ++ [(some ⟨[.int .i64 x], true⟩ : Option Blk), some ⟨acc.map (AV.int .i64) ++ [.int .i64 x], true⟩]) := by
  have lb := blkAt_lt h
  have lb2 : b < (X.set q none).length := by rw [List.length_set]; exact lb
  refine ⟨⟨by rw [blkAt_los _ _ lb2, blkAt_set_self lb2], .inr ⟨X.length + 1, by omega, by rw [List.length_append]; rfl, ?_⟩⟩, fun c k hc hk => ?_, fun H hH hx => ((hx.set (by omega) _).set hH _).to _, by simp⟩
  · have := blkAt_app ((X.set q none).set b (some ⟨[.sl (X.length + 1) 0 (acc.length + 1) 1 none], true⟩)) [(some ⟨[AV.int .i64 x], true⟩ : Option Blk), some ⟨acc.map (AV.int .i64) ++ [AV.int .i64 x], true⟩] 1
    rw [List.length_set, List.length_set] at this
    rw [this, List.map_append]
    rfl
  · rw [blkAt_los _ _ (by rw [List.length_set]; exact blkAt_lt hk), blkAt_set_ne (by omega), blkAt_set_ne (by omega)]
    exact hk
theorem f60_loop {p off b n : Nat} {k : Option Nat} {l : List Int} {Q : Post} (hl : l.length = n) (hpb : p ≠ b) (hbig : n ≤ 1000000) :
    ∀ (r : List Int) (j : Nat) (acc : List Int) (X : Heap) (w : AV), l.drop j = r → j + r.length = n → acc.length ≤ 1000000 + j → Acc b acc X w → Sl i64 X p off l → (∀ q m, w = .sl q 0 m 1 none → p ≠ q) →
    (∀ X' w' T, Acc b (acc ++ r) X' w' → Keep b X X' → Apart b w X w' X' → Q .normal T X') →
    acs Try.prog [.lp c60l0, .blk 0] [(1, .ptr b 0), (5, .sl p off n 1 k), (6, .int .i64 (n : Int)), (7, .int .i64 (j : Int))] X Q := by
  intro r
  induction r with
  | nil =>
    intro j acc X w hd hj _ ha hs hpq hq
    obtain rfl : j = n := by simpa using hj
    rw [acs_lp]; conv in Fr.code c60l0 => unfold c60l0
    simp (maxSteps := 1000000) (disch := omega) only [go_sem, Nat.reduceEqDiff, Nat.reduceLT, Nat.reduceAdd, Nat.reduceSub, Nat.reduceMul, Nat.reduceBEq, Int.reduceLT, Int.reduceAdd, Int.reduceMul, Int.reduceSub, Int.reduceToNat, Int.reduceLE, Int.reduceEq, ↓reduceIte, reduceCtorEq, Int.reduceNeg, Nat.reduceLeDiff,  Int.lt_irrefl]
    rw [List.append_nil] at hq
    exact hq X w _ ha (Keep.refl _ _) (Apart.refl _ _ _)
  | cons x r ih =>
    intro j acc X w hd hj hac ha hs hpq hq
    obtain ⟨h1, h2, h3⟩ := drop_cons hd
    have hlt : (j : Int) < (n : Int) := by omega
    obtain ⟨cs, o, hp, hle, hcs⟩ := hs
    have fx : cs[off + j]? = some (.int .i64 x) := sl_get hcs h1
    have lp := blkAt_lt hp
    obtain ⟨hb, hw⟩ := ha
    have lb := blkAt_lt hb
    have happ : acc ++ x :: r = (acc ++ [x]) ++ r := by simp
    rw [happ] at hq
    rcases hw with ⟨rfl, rfl⟩ | ⟨q, hbq, rfl, hqb⟩
    · obtain ⟨n1, n2⟩ := Acc.one (x := x) hb
      have n3 : Sl i64 (X.set b (some ⟨[.sl (X.length + 1) 0 1 1 none], true⟩) ++ [some ⟨[.int .i64 x], true⟩, some ⟨[.int .i64 x], true⟩]) p off l := ⟨cs, o, by rw [blkAt_los _ _ lp, blkAt_set_ne (by omega)]; exact hp, hle, hcs⟩
      have nx := ih (j + 1) [x] _ _ h2 (by simp at hj; omega) (by simp; omega) n1 n3 (by intro q m e; cases e; omega) (fun X' w' T h k a => hq X' w' T h (n2.trans k) ((Acc.one2 hb).trans a))
      clear ih
      rw [acs_lp]; conv in Fr.code c60l0 => unfold c60l0
      simp (maxSteps := 1000000) (disch := omega) only [go_sem, Nat.reduceEqDiff, Nat.reduceLT, Nat.reduceAdd, Nat.reduceSub, Nat.reduceMul, Nat.reduceBEq, Int.reduceLT, Int.reduceAdd, Int.reduceMul, Int.reduceSub, Int.reduceToNat, Int.reduceLE, Int.reduceEq, ↓reduceIte, reduceCtorEq, Int.reduceNeg, Nat.reduceLeDiff,  hlt, hp, fx, hb, lb, lp, blkAt_lo, set_lo]
      exact nx
    · obtain ⟨n1, n2⟩ := Acc.push (x := x) hb hbq
      have pq := hpq q _ rfl
      have n3 : Sl i64 ((X.set q none).set b (some ⟨[.sl (X.length + 1) 0 (acc.length + 1) 1 none], true⟩) ++ [(some ⟨[.int .i64 x], true⟩ : Option Blk), some ⟨acc.map (AV.int .i64) ++ [.int .i64 x], true⟩]) p off l := ⟨cs, o, by rw [blkAt_los _ _ (by rw [List.length_set]; exact lp), blkAt_set_ne (by omega), blkAt_set_ne (by omega)]; exact hp, hle, hcs⟩
      have nx := ih (j + 1) (acc ++ [x]) _ _ h2 (by simp at hj; omega) (by simp; omega) n1 n3 (by intro q' m e; cases e; omega) (fun X' w' T h k a => hq X' w' T h (n2.trans k) (Acc.push2.trans a))
      clear ih
      have lq := blkAt_lt hqb
      have hlA : (acc.map (AV.int .i64)).length = acc.length := by simp
      have hA0 : List.take acc.length (acc.map (AV.int .i64)) = acc.map (AV.int .i64) := by rw [List.take_of_length_le (by simp)]
      have big : (acc.length + 1) * 8 ≤ 140737488355328 := by simp at hj; omega
      have hb' : ∀ G, blkAt (X.set q none ++ G) b = some ⟨[.sl q 0 acc.length 1 none], true⟩ := fun G => by rw [blkAt_los _ _ lb, blkAt_set_ne (by omega)]; exact hb
      have lb' : b < (X.set q none).length := by rw [List.length_set]; exact lb
      generalize acc.map (AV.int .i64) = A at *
      rw [acs_lp]; conv in Fr.code c60l0 => unfold c60l0
      simp (maxSteps := 1000000) (disch := omega) only [go_sem, Nat.reduceEqDiff, Nat.reduceLT, Nat.reduceAdd, Nat.reduceSub, Nat.reduceMul, Nat.reduceBEq, Int.reduceLT, Int.reduceAdd, Int.reduceMul, Int.reduceSub, Int.reduceToNat, Int.reduceLE, Int.reduceEq, ↓reduceIte, reduceCtorEq, Int.reduceNeg, Nat.reduceLeDiff,  hlt, hp, fx, hb, lb, lp, blkAt_lo, set_lo, hqb, lq, hlA, hA0, big, hb', Nat.le_refl, List.length_set]
      exact nx
theorem f60 {p off b n : Nat} {k : Option Nat} {l acc : List Int} {X : Heap} {w : AV} (hl : l.length = n) (hpb : p ≠ b) (hbig : n ≤ 1000000) (hac : acc.length ≤ 1000000) (ha : Acc b acc X w) (hs : Sl i64 X p off l) (hpq : ∀ q m, w = .sl q 0 m 1 none → p ≠ q) :
    ACallX Try.prog 60 [.sl p off n 1 k, .ptr b 0] X fun v X' => v = .tup [] ∧ (∃ w', Acc b (acc ++ l) X' w' ∧ Apart b w X w' X') ∧ Keep b X X' := by
  refine acallX (fun v Hf h => acallK60 (by simp) h) (acs_start ?_)
  unfold c60
  simp (maxSteps := 1000000) (disch := omega) only [go_sem, Nat.reduceEqDiff, Nat.reduceLT, Nat.reduceAdd, Nat.reduceSub, Nat.reduceMul, Nat.reduceBEq, Int.reduceLT, Int.reduceAdd, Int.reduceMul, Int.reduceSub, Int.reduceToNat, Int.reduceLE, Int.reduceEq, ↓reduceIte, reduceCtorEq, Int.reduceNeg, Nat.reduceLeDiff]
  refine f60_loop hl hpb hbig l 0 acc X w rfl (by omega) (by omega) ha hs hpq ?_
  intro X' w' T h kx ap
  refine fin_x (by simp) (by simp (maxSteps := 1000000) (disch := omega) only [resVal, resAll, resOne, rs60, Env.get, go_sem, Nat.reduceEqDiff, Nat.reduceLT, Nat.reduceAdd, Nat.reduceSub, Nat.reduceMul, Nat.reduceBEq, Int.reduceLT, Int.reduceAdd, Int.reduceMul, Int.reduceSub, Int.reduceToNat, Int.reduceLE, Int.reduceEq, ↓reduceIte, reduceCtorEq, Int.reduceNeg, Nat.reduceLeDiff, ] <;> rfl) ⟨rfl, ⟨_, h, ap⟩, kx⟩
theorem hb60 : hasBody Try.prog 60 = true := by kernel_rfl

/-! An estimator's words. -/
def axW (t : Tk) : List Int := t.xl ++ (t.pl.take 3 ++ [t.pl.getD 4 0, t.pl.getD 5 0, t.pl.getD 8 0])
def wds (e : Es) : List Int := [e.t0, e.t1, e.t2, e.t3] ++ axW e.a ++ axW e.b ++ axW e.c ++ [e.st, e.co, e.o0, e.o1, e.o2, e.o3, if e.sat then 1 else 0]
structure Tk.three (t : Tk) : Prop where
  x : t.xl.length = 3
  p : t.pl.length = 9
theorem Tk.three_of {t : Tk} (h : trkB t = true) (h3 : t.xr = 3) : t.three := by
  unfold trkB at h
  simp only [Bool.and_eq_true, decide_eq_true_eq] at h
  obtain ⟨⟨⟨⟨⟨h1, h2⟩, h4⟩, h5⟩, h6⟩, _⟩ := h
  obtain ⟨_, _, a, _⟩ := rightB_len h1
  obtain ⟨_, _, b, _⟩ := rightB_len h2
  rw [h3, h4] at a
  rw [h5, h6, h3] at b
  exact ⟨by omega, by omega⟩
theorem f34_ax {i b B0 : Nat} {t : Tk} {ax : List AV} {acc : List Int} {H X : Heap} {w : AV} {Q : Post} {fs : List Fr} (hi : i < 3) (hax : (ax.drop (i * 6)).take 6 = t.av) (h3 : t.three) (hok : t.ok H) (hHb : H.length ≤ b) (kx : Keep b H X) (ha : Acc b acc X w) (hac : acc.length ≤ 100)
    (hq : ∀ X' w', Keep b H X' → Acc b (acc ++ axW t) X' w' → acs Try.prog (.lp c34l1 :: fs) [(1, .ptr B0 0), (3, .ptr b 0), (4, .fn (.func 60) [] [.ptr b 0]), (16, .agg ax), (17, .int .i64 ((i + 1 : Nat) : Int))] X' Q) :
    acs Try.prog (.lp c34l1 :: fs) [(1, .ptr B0 0), (3, .ptr b 0), (4, .fn (.func 60) [] [.ptr b 0]), (16, .agg ax), (17, .int .i64 (i : Int))] X Q := by
  have hlt : (i : Int) < 3 := by omega
  obtain ⟨xr, xc, xl, xp, xo, xk, pr, pc, pl, pp, po, pk⟩ := t
  obtain ⟨hx, hp, lx, lp⟩ := hok
  obtain ⟨nx, np⟩ := h3
  simp only at hx hp lx lp nx np
  unfold Tk.av at hax
  simp only [nx, np] at hax
  have lxp := hx.lt
  have lpp := hp.lt
  have full : (AV.agg [AV.int .i64 xr, .int .i64 xc, .sl xp xo 3 1 xk, .int .i64 pr, .int .i64 pc, .sl pp po 9 1 pk]).full = true := rfl
  rw [acs_lp]; conv in Fr.code c34l1 => unfold c34l1
  simp (maxSteps := 1000000) (disch := omega) only [go_sem, Nat.reduceEqDiff, Nat.reduceLT, Nat.reduceAdd, Nat.reduceSub, Nat.reduceMul, Nat.reduceBEq, Int.reduceLT, Int.reduceAdd, Int.reduceMul, Int.reduceSub, Int.reduceToNat, Int.reduceLE, Int.reduceEq, ↓reduceIte, reduceCtorEq, Int.reduceNeg, Nat.reduceLeDiff,  hlt, hax, hb60]
  have hbB := ha.1
  have lb := blkAt_lt hbB
  have kA : Keep b H (X ++ [some ⟨[AV.int .i64 xr, .int .i64 xc, .sl xp xo 3 1 xk, .int .i64 pr, .int .i64 pc, .sl pp po 9 1 pk], true⟩]) := kx.trans (Keep.app _ _)
  have haA := ha.app [(some ⟨[AV.int .i64 xr, .int .i64 xc, .sl xp xo 3 1 xk, .int .i64 pr, .int .i64 pc, .sl pp po 9 1 pk], true⟩ : Option Blk)]
  have farw : ∀ c, c < b → Far w c := fun c hc => ha.farlt hc
  have farX : Far w X.length := ha.farlen
  have tkA : blkAt (X ++ [some ⟨[AV.int .i64 xr, .int .i64 xc, .sl xp xo 3 1 xk, .int .i64 pr, .int .i64 pc, .sl pp po 9 1 pk], true⟩]) X.length = some ⟨[AV.int .i64 xr, .int .i64 xc, .sl xp xo 3 1 xk, .int .i64 pr, .int .i64 pc, .sl pp po 9 1 pk], true⟩ := by simp only [go_sem, Nat.reduceEqDiff, Nat.reduceLT, Nat.reduceAdd, Nat.reduceSub, Nat.reduceMul, Nat.reduceBEq, Int.reduceLT, Int.reduceAdd, Int.reduceMul, Int.reduceSub, Int.reduceToNat, Int.reduceLE, Int.reduceEq, ↓reduceIte, reduceCtorEq, Int.reduceNeg, Nat.reduceLeDiff]
  have sxA := kA.sl (by omega) hx
  have lXA : X.length < (X ++ [(some ⟨[AV.int .i64 xr, .int .i64 xc, .sl xp xo 3 1 xk, .int .i64 pr, .int .i64 pc, .sl pp po 9 1 pk], true⟩ : Option Blk)]).length := by simp
  generalize X ++ [(some ⟨[AV.int .i64 xr, .int .i64 xc, .sl xp xo 3 1 xk, .int .i64 pr, .int .i64 pc, .sl pp po 9 1 pk], true⟩ : Option Blk)] = A at *
  have g1 := f60 (k := xk) nx (by omega) (by omega) (by omega) haA sxA (farw xp (by omega))
  first | refine callBX (g1) ?_ | refine callDX (g1) ?_
  rintro v Y ⟨rfl, ⟨w1, ha1, ap1⟩, k1⟩
  have kY := kA.trans k1
  have tkY := ap1.1 _ _ (by omega) farX tkA
  have farXY := ap1.2.1 _ lXA farX
  have farw1 := fun c (hc : c < b) => ap1.2.1 c (by omega) (farw c hc)
  have spY := (kY.sl (by omega) hp).take 3
  have np3 : (pl.take 3).length = 3 := by simp [np]
  have g2 := f60 (k := (if 9 = 0 ∧ pk = none then none else pk)) np3 (by omega) (by omega) (by simp; omega) ha1 spY (farw1 pp (by omega))
  have lXY := Nat.lt_of_lt_of_le lXA ap1.2.2
  simp (maxSteps := 1000000) (disch := omega) only [go_sem, Nat.reduceEqDiff, Nat.reduceLT, Nat.reduceAdd, Nat.reduceSub, Nat.reduceMul, Nat.reduceBEq, Int.reduceLT, Int.reduceAdd, Int.reduceMul, Int.reduceSub, Int.reduceToNat, Int.reduceLE, Int.reduceEq, ↓reduceIte, reduceCtorEq, Int.reduceNeg, Nat.reduceLeDiff,  tkY, hb60]
  simp only [show ¬ (9 = 0) from by decide, false_and, if_false] at g2
  first | refine callBX (g2) ?_ | refine callDX (g2) ?_
  rintro v Z ⟨rfl, ⟨w2, ha2, ap2⟩, k2⟩
  have kZ := kY.trans k2
  have tkZ := ap2.1 _ _ (by omega) farXY tkY
  obtain ⟨cs, o, hpp, hle, hcs⟩ := kZ.sl (by omega) hp
  have gg : ∀ j, j < 9 → cs[po + j]? = some (.int .i64 (pl.getD j 0)) := fun j hj => sl_get hcs (by rw [List.getD_eq_getElem?_getD, List.getElem?_eq_getElem (by omega)]; rfl)
  have g4 := gg 4 (by decide)
  have g5 := gg 5 (by decide)
  have g8 := gg 8 (by decide)
  have hwax : axW ⟨xr, xc, xl, xp, xo, xk, pr, pc, pl, pp, po, pk⟩ = xl ++ (pl.take 3 ++ [pl.getD 4 0, pl.getD 5 0, pl.getD 8 0]) := rfl
  rw [hwax] at hq
  generalize pl.getD 4 0 = y4 at *
  generalize pl.getD 5 0 = y5 at *
  generalize pl.getD 8 0 = y8 at *
  simp (maxSteps := 1000000) (disch := omega) only [go_sem, Nat.reduceEqDiff, Nat.reduceLT, Nat.reduceAdd, Nat.reduceSub, Nat.reduceMul, Nat.reduceBEq, Int.reduceLT, Int.reduceAdd, Int.reduceMul, Int.reduceSub, Int.reduceToNat, Int.reduceLE, Int.reduceEq, ↓reduceIte, reduceCtorEq, Int.reduceNeg, Nat.reduceLeDiff,  tkZ, hpp, g4, g5, g8, hb60]
  have kB : Keep b H (Z ++ [(some ⟨[.int .i64 y4, .int .i64 y5, .int .i64 y8], true⟩ : Option Blk)]) := kZ.trans (Keep.app _ _)
  have haB := ha2.app [(some ⟨[.int .i64 y4, .int .i64 y5, .int .i64 y8], true⟩ : Option Blk)]
  have lbZ := blkAt_lt ha2.1
  have g3 := f60 (k := some 3) (l := [y4, y5, y8]) (n := 3) (p := Z.length) (off := 0) rfl (by omega) (by omega) (by simp; omega) haB (Sl.whole (o := true) (by simp only [go_sem, Nat.reduceEqDiff, Nat.reduceLT, Nat.reduceAdd, Nat.reduceSub, Nat.reduceMul, Nat.reduceBEq, Int.reduceLT, Int.reduceAdd, Int.reduceMul, Int.reduceSub, Int.reduceToNat, Int.reduceLE, Int.reduceEq, ↓reduceIte, reduceCtorEq, Int.reduceNeg, Nat.reduceLeDiff]; rfl)) ha2.farlen
  first | refine callBX (g3) ?_ | refine callDX (g3) ?_
  rintro v U ⟨rfl, ⟨w3, ha3, ap3⟩, k3⟩
  have e3 : acc ++ xl ++ List.take 3 pl ++ [y4, y5, y8] = acc ++ (xl ++ (List.take 3 pl ++ [y4, y5, y8])) := by simp only [List.append_assoc]
  rw [e3] at ha3
  have fin := hq U w3 (kB.trans k3) ha3
  simp (maxSteps := 1000000) (disch := omega) only [go_sem, Nat.reduceEqDiff, Nat.reduceLT, Nat.reduceAdd, Nat.reduceSub, Nat.reduceMul, Nat.reduceBEq, Int.reduceLT, Int.reduceAdd, Int.reduceMul, Int.reduceSub, Int.reduceToNat, Int.reduceLE, Int.reduceEq, ↓reduceIte, reduceCtorEq, Int.reduceNeg, Nat.reduceLeDiff]
  exact fin

/-! An estimator's words, all. -/
theorem f34_loop {p off b n : Nat} {k : Option Nat} {l : List Int} {Q : Post} {fs : List Fr} (hl : l.length = n) (hpb : p ≠ b) (hbig : n ≤ 1000000) :
    ∀ (r : List Int) (j : Nat) (acc : List Int) (X : Heap) (w : AV), l.drop j = r → j + r.length = n → acc.length ≤ 1000000 + j → Acc b acc X w → Sl i64 X p off l → (∀ q m, w = .sl q 0 m 1 none → p ≠ q) →
    (∀ X' w', Acc b (acc ++ r) X' w' → Keep b X X' → Apart b w X w' X' → leave Try.prog 2 fs [(3, .ptr b 0)] X' Q) →
    acs Try.prog (.lp c34l0 :: fs) [(3, .ptr b 0), (69, .sl p off n 1 k), (70, .int .i64 (n : Int)), (71, .int .i64 (j : Int))] X Q := by
  intro r
  induction r with
  | nil =>
    intro j acc X w hd hj _ ha hs hpq hq
    obtain rfl : j = n := by simpa using hj
    rw [acs_lp]; conv in Fr.code c34l0 => unfold c34l0
    simp (maxSteps := 1000000) (disch := omega) only [go_sem, Nat.reduceEqDiff, Nat.reduceLT, Nat.reduceAdd, Nat.reduceSub, Nat.reduceMul, Nat.reduceBEq, Int.reduceLT, Int.reduceAdd, Int.reduceMul, Int.reduceSub, Int.reduceToNat, Int.reduceLE, Int.reduceEq, ↓reduceIte, reduceCtorEq, Int.reduceNeg, Nat.reduceLeDiff,  Int.lt_irrefl]
    rw [List.append_nil] at hq
    exact hq X w ha (Keep.refl _ _) (Apart.refl _ _ _)
  | cons x r ih =>
    intro j acc X w hd hj hac ha hs hpq hq
    obtain ⟨h1, h2, h3⟩ := drop_cons hd
    have hlt : (j : Int) < (n : Int) := by omega
    obtain ⟨cs, o, hp, hle, hcs⟩ := hs
    have fx : cs[off + j]? = some (.int .i64 x) := sl_get hcs h1
    have lp := blkAt_lt hp
    obtain ⟨hb, hw⟩ := ha
    have lb := blkAt_lt hb
    have happ : acc ++ x :: r = (acc ++ [x]) ++ r := by simp
    rw [happ] at hq
    rcases hw with ⟨rfl, rfl⟩ | ⟨q, hbq, rfl, hqb⟩
    · obtain ⟨n1, n2⟩ := Acc.one (x := x) hb
      have n3 : Sl i64 (X.set b (some ⟨[.sl (X.length + 1) 0 1 1 none], true⟩) ++ [some ⟨[.int .i64 x], true⟩, some ⟨[.int .i64 x], true⟩]) p off l := ⟨cs, o, by rw [blkAt_los _ _ lp, blkAt_set_ne (by omega)]; exact hp, hle, hcs⟩
      have nx := ih (j + 1) [x] _ _ h2 (by simp at hj; omega) (by simp; omega) n1 n3 (by intro q m e; cases e; omega) (fun X' w' h k a => hq X' w' h (n2.trans k) ((Acc.one2 hb).trans a))
      clear ih
      rw [acs_lp]; conv in Fr.code c34l0 => unfold c34l0
      simp (maxSteps := 1000000) (disch := omega) only [go_sem, Nat.reduceEqDiff, Nat.reduceLT, Nat.reduceAdd, Nat.reduceSub, Nat.reduceMul, Nat.reduceBEq, Int.reduceLT, Int.reduceAdd, Int.reduceMul, Int.reduceSub, Int.reduceToNat, Int.reduceLE, Int.reduceEq, ↓reduceIte, reduceCtorEq, Int.reduceNeg, Nat.reduceLeDiff,  hlt, hp, fx, hb, lb, lp, blkAt_lo, set_lo]
      exact nx
    · obtain ⟨n1, n2⟩ := Acc.push (x := x) hb hbq
      have pq := hpq q _ rfl
      have n3 : Sl i64 ((X.set q none).set b (some ⟨[.sl (X.length + 1) 0 (acc.length + 1) 1 none], true⟩) ++ [(some ⟨[.int .i64 x], true⟩ : Option Blk), some ⟨acc.map (AV.int .i64) ++ [.int .i64 x], true⟩]) p off l := ⟨cs, o, by rw [blkAt_los _ _ (by rw [List.length_set]; exact lp), blkAt_set_ne (by omega), blkAt_set_ne (by omega)]; exact hp, hle, hcs⟩
      have nx := ih (j + 1) (acc ++ [x]) _ _ h2 (by simp at hj; omega) (by simp; omega) n1 n3 (by intro q' m e; cases e; omega) (fun X' w' h k a => hq X' w' h (n2.trans k) (Acc.push2.trans a))
      clear ih
      have lq := blkAt_lt hqb
      have hlA : (acc.map (AV.int .i64)).length = acc.length := by simp
      have hA0 : List.take acc.length (acc.map (AV.int .i64)) = acc.map (AV.int .i64) := by rw [List.take_of_length_le (by simp)]
      have big : (acc.length + 1) * 8 ≤ 140737488355328 := by simp at hj; omega
      have hb' : ∀ G, blkAt (X.set q none ++ G) b = some ⟨[.sl q 0 acc.length 1 none], true⟩ := fun G => by rw [blkAt_los _ _ lb, blkAt_set_ne (by omega)]; exact hb
      have lb' : b < (X.set q none).length := by rw [List.length_set]; exact lb
      generalize acc.map (AV.int .i64) = A at *
      rw [acs_lp]; conv in Fr.code c34l0 => unfold c34l0
      simp (maxSteps := 1000000) (disch := omega) only [go_sem, Nat.reduceEqDiff, Nat.reduceLT, Nat.reduceAdd, Nat.reduceSub, Nat.reduceMul, Nat.reduceBEq, Int.reduceLT, Int.reduceAdd, Int.reduceMul, Int.reduceSub, Int.reduceToNat, Int.reduceLE, Int.reduceEq, ↓reduceIte, reduceCtorEq, Int.reduceNeg, Nat.reduceLeDiff,  hlt, hp, fx, hb, lb, lp, blkAt_lo, set_lo, hqb, lq, hlA, hA0, big, hb', Nat.le_refl, List.length_set]
      exact nx
theorem f34 {e : Es} {H : Heap} (h : e.ok H) (h3a : e.a.three) (h3b : e.b.three) (h3c : e.c.three) : ACallE Try.prog 34 [.agg e.av] H fun v H' => ∃ q, v = .sl q 0 38 1 none ∧ blkAt H' q = some ⟨(wds e).map (AV.int .i64), true⟩ ∧ H.length ≤ q := by
  refine acallE (fun v Hf h => acallK34 (by simp) h) (acs_start ?_)
  have lw : ([e.t0, e.t1, e.t2, e.t3] ++ axW e.a ++ axW e.b ++ axW e.c ++ [e.st, e.co, e.o0, e.o1, e.o2, e.o3, if e.sat then 1 else 0]).length = 38 := by
    unfold axW
    simp [h3a.x, h3a.p, h3b.x, h3b.p, h3c.x, h3c.p]
  have lA : (axW e.a).length = 9 := by unfold axW; simp [h3a.x, h3a.p]
  have lB : (axW e.b).length = 9 := by unfold axW; simp [h3b.x, h3b.p]
  have lC : (axW e.c).length = 9 := by unfold axW; simp [h3c.x, h3c.p]
  have s4 : ∀ G, Sl i64 (H ++ some ⟨e.av, true⟩ :: G) H.length 0 [e.t0, e.t1, e.t2, e.t3] := fun G => ⟨e.av, true, by simp only [go_sem, Nat.reduceEqDiff, Nat.reduceLT, Nat.reduceAdd, Nat.reduceSub, Nat.reduceMul, Nat.reduceBEq, Int.reduceLT, Int.reduceAdd, Int.reduceMul, Int.reduceSub, Int.reduceToNat, Int.reduceLE, Int.reduceEq, ↓reduceIte, reduceCtorEq, Int.reduceNeg, Nat.reduceLeDiff], by show 4 ≤ 29; decide, rfl⟩
  have c22 : e.av[22]? = some (.int .i64 e.st) := rfl
  have c23 : e.av[23]? = some (.int .i64 e.co) := rfl
  have c24 : e.av[24]? = some (.int .i64 e.o0) := rfl
  have c25 : e.av[25]? = some (.int .i64 e.o1) := rfl
  have c26 : e.av[26]? = some (.int .i64 e.o2) := rfl
  have c27 : e.av[27]? = some (.int .i64 e.o3) := rfl
  have c28 : e.av[28]? = some (.bool e.sat) := rfl
  have avl : 4 + 18 ≤ e.av.length := by show 22 ≤ 29; decide
  have ha0 : Acc (H.length + 1) [] (H ++ [some ⟨e.av, true⟩, some ⟨[.nils], true⟩]) .nils := ⟨by simp only [go_sem, Nat.reduceEqDiff, Nat.reduceLT, Nat.reduceAdd, Nat.reduceSub, Nat.reduceMul, Nat.reduceBEq, Int.reduceLT, Int.reduceAdd, Int.reduceMul, Int.reduceSub, Int.reduceToNat, Int.reduceLE, Int.reduceEq, ↓reduceIte, reduceCtorEq, Int.reduceNeg, Nat.reduceLeDiff], .inl ⟨rfl, rfl⟩⟩
  have g0 := f60 (k := some 4) (l := [e.t0, e.t1, e.t2, e.t3]) (n := 4) rfl (by omega) (by omega) (by simp) ha0 (s4 _) (far_nil _)
  unfold c34
  simp (maxSteps := 1000000) (disch := omega) only [go_sem, Nat.reduceEqDiff, Nat.reduceLT, Nat.reduceAdd, Nat.reduceSub, Nat.reduceMul, Nat.reduceBEq, Int.reduceLT, Int.reduceAdd, Int.reduceMul, Int.reduceSub, Int.reduceToNat, Int.reduceLE, Int.reduceEq, ↓reduceIte, reduceCtorEq, Int.reduceNeg, Nat.reduceLeDiff,  hb60]
  refine ⟨rfl, by show 4 ≤ 29; decide, ?_⟩
  first | refine callBX (g0) ?_ | refine callDX (g0) ?_
  rintro v X1 ⟨rfl, ⟨w1, ha1, ap1⟩, k1⟩
  have h1 := h.app [some ⟨e.av, true⟩]
  have kk1 : Keep (H.length + 1) (H ++ [some ⟨e.av, true⟩]) X1 := by
    have : Keep (H.length + 1) (H ++ [some ⟨e.av, true⟩]) (H ++ [some ⟨e.av, true⟩, some ⟨[.nils], true⟩]) := by
      have := Keep.app (H.length + 1) (X := H ++ [some ⟨e.av, true⟩]) [some ⟨[.nils], true⟩]
      simpa using this
    exact this.trans k1
  have hl1 : (H ++ [(some ⟨e.av, true⟩ : Option Blk)]).length ≤ H.length + 1 := by simp
  have hE : ∀ Z, Keep (H.length + 1) (H ++ [some ⟨e.av, true⟩]) Z → blkAt Z H.length = some ⟨e.av, true⟩ := fun Z k => k.1 _ _ (by omega) (by simp only [go_sem, Nat.reduceEqDiff, Nat.reduceLT, Nat.reduceAdd, Nat.reduceSub, Nat.reduceMul, Nat.reduceBEq, Int.reduceLT, Int.reduceAdd, Int.reduceMul, Int.reduceSub, Int.reduceToNat, Int.reduceLE, Int.reduceEq, ↓reduceIte, reduceCtorEq, Int.reduceNeg, Nat.reduceLeDiff])
  have hE1 := hE _ kk1
  have hExt : Ext H (H ++ [some ⟨e.av, true⟩]) := Ext.app _ _
  rw [List.nil_append] at ha1
  generalize (H ++ [(some ⟨e.av, true⟩ : Option Blk)]) = H1 at *
  simp (maxSteps := 1000000) (disch := omega) only [go_sem, Nat.reduceEqDiff, Nat.reduceLT, Nat.reduceAdd, Nat.reduceSub, Nat.reduceMul, Nat.reduceBEq, Int.reduceLT, Int.reduceAdd, Int.reduceMul, Int.reduceSub, Int.reduceToNat, Int.reduceLE, Int.reduceEq, ↓reduceIte, reduceCtorEq, Int.reduceNeg, Nat.reduceLeDiff,  hE1, avl]
  refine f34_ax (i := 0) (t := e.a) (by decide) rfl h3a h1.ha hl1 kk1 ha1 (by simp) ?_
  intro X2 w2 k2 ha2
  refine f34_ax (i := 1) (t := e.b) (by decide) rfl h3b h1.hb hl1 k2 ha2 (by simp; omega) ?_
  intro X3 w3 k3 ha3
  refine f34_ax (i := 2) (t := e.c) (by decide) rfl h3c h1.hc hl1 k3 ha3 (by simp; omega) ?_
  intro X4 w4 k4 ha4
  have hE4 := hE _ k4
  have lb4 := blkAt_lt ha4.1
  have fin : ∀ (z : Int), z = (if e.sat then 1 else 0) → acs Try.prog [.lp c34l0, .blk 2, .code (.seq (.reg [⟨some 80, .ld1, [.r 3], none, [3]⟩, ⟨some 2, .mv, [.r 80], none, [80]⟩]) .ret)] [(3, .ptr (H.length + 1) 0), (69, .sl X4.length 0 7 1 (some 7)), (70, .int .i64 7), (71, .int .i64 0)] (X4 ++ [some ⟨[.int .i64 e.st, .int .i64 e.co, .int .i64 e.o0, .int .i64 e.o1, .int .i64 e.o2, .int .i64 e.o3, .int .i64 z], true⟩]) (FinE H rs34 fun v H' => ∃ q, v = .sl q 0 38 1 none ∧ blkAt H' q = some ⟨(wds e).map (AV.int .i64), true⟩ ∧ H.length ≤ q) := by
    intro z hz
    refine f34_loop (l := [e.st, e.co, e.o0, e.o1, e.o2, e.o3, z]) (n := 7) rfl (by omega) (by omega) [e.st, e.co, e.o0, e.o1, e.o2, e.o3, z] 0 _ _ w4 rfl rfl (by simp; omega) (ha4.app _) (Sl.whole (o := true) (by simp only [go_sem, Nat.reduceEqDiff, Nat.reduceLT, Nat.reduceAdd, Nat.reduceSub, Nat.reduceMul, Nat.reduceBEq, Int.reduceLT, Int.reduceAdd, Int.reduceMul, Int.reduceSub, Int.reduceToNat, Int.reduceLE, Int.reduceEq, ↓reduceIte, reduceCtorEq, Int.reduceNeg, Nat.reduceLeDiff]; rfl)) ha4.farlen ?_
    intro X5 w5 ha5 k5 ap5
    have hx5 : Ext H X5 := k5.2.1 H (by omega) ((k4.2.1 H (by omega) hExt).to _)
    obtain ⟨hb5, hw5⟩ := ha5
    subst hz
    have e5 : [e.t0, e.t1, e.t2, e.t3] ++ axW e.a ++ axW e.b ++ axW e.c ++ [e.st, e.co, e.o0, e.o1, e.o2, e.o3, if e.sat then 1 else 0] = wds e := rfl
    rw [e5] at hw5
    have lw : (wds e).length = 38 := lw
    rcases hw5 with ⟨h0, _⟩ | ⟨q, hq, rfl, hqb⟩
    · rw [h0] at lw; cases lw
    · rw [lw] at hb5
      simp (maxSteps := 1000000) (disch := omega) only [go_sem, Nat.reduceEqDiff, Nat.reduceLT, Nat.reduceAdd, Nat.reduceSub, Nat.reduceMul, Nat.reduceBEq, Int.reduceLT, Int.reduceAdd, Int.reduceMul, Int.reduceSub, Int.reduceToNat, Int.reduceLE, Int.reduceEq, ↓reduceIte, reduceCtorEq, Int.reduceNeg, Nat.reduceLeDiff,  hb5]
      refine fin_e (by simp) (by simp (maxSteps := 1000000) (disch := omega) only [resVal, resAll, resOne, rs34, Env.get, go_sem, Nat.reduceEqDiff, Nat.reduceLT, Nat.reduceAdd, Nat.reduceSub, Nat.reduceMul, Nat.reduceBEq, Int.reduceLT, Int.reduceAdd, Int.reduceMul, Int.reduceSub, Int.reduceToNat, Int.reduceLE, Int.reduceEq, ↓reduceIte, reduceCtorEq, Int.reduceNeg, Nat.reduceLeDiff, ] <;> rfl) hx5 ⟨q, rfl, hqb, by omega⟩
  rw [acs_lp]; conv in Fr.code c34l1 => unfold c34l1
  simp (maxSteps := 1000000) (disch := omega) only [go_sem, Nat.reduceEqDiff, Nat.reduceLT, Nat.reduceAdd, Nat.reduceSub, Nat.reduceMul, Nat.reduceBEq, Int.reduceLT, Int.reduceAdd, Int.reduceMul, Int.reduceSub, Int.reduceToNat, Int.reduceLE, Int.reduceEq, ↓reduceIte, reduceCtorEq, Int.reduceNeg, Nat.reduceLeDiff,  hE4, c28]
  cases hsat : e.sat with
  | true =>
    have := fin 1 (by rw [hsat]; rfl)
    simp (maxSteps := 1000000) (disch := omega) only [go_sem, Nat.reduceEqDiff, Nat.reduceLT, Nat.reduceAdd, Nat.reduceSub, Nat.reduceMul, Nat.reduceBEq, Int.reduceLT, Int.reduceAdd, Int.reduceMul, Int.reduceSub, Int.reduceToNat, Int.reduceLE, Int.reduceEq, ↓reduceIte, reduceCtorEq, Int.reduceNeg, Nat.reduceLeDiff,  hE4, c22, c23, c24, c25, c26, c27]
    exact this
  | false =>
    have := fin 0 (by rw [hsat]; rfl)
    simp (maxSteps := 1000000) (disch := omega) only [go_sem, Nat.reduceEqDiff, Nat.reduceLT, Nat.reduceAdd, Nat.reduceSub, Nat.reduceMul, Nat.reduceBEq, Int.reduceLT, Int.reduceAdd, Int.reduceMul, Int.reduceSub, Int.reduceToNat, Int.reduceLE, Int.reduceEq, ↓reduceIte, reduceCtorEq, Int.reduceNeg, Nat.reduceLeDiff,  hE4, c22, c23, c24, c25, c26, c27]
    exact this
end Go.Proofs.Ytbjlbcihhleclaa.Ah
