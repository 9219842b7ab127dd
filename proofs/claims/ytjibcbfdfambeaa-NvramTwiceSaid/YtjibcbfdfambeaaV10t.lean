/- V10t: a part of the proof: contracts of functions, or plain laws. Conditions: none. -/
import Derived.Test.YtjibcbfdfambeaaV10s
namespace Go.Proofs.Ytjibcbfdfambeaa.Ah
open Go Go.WideShapes
attribute [local irreducible] acs aopsK drawK leave condK bindR bindD bindX guardK guardD callB callD callX callP callPv
attribute [local go_sem] acs_nil acs_blk acs_skip acs_reg acs_dreg acs_freg acs_nam0 acs_nam nones acs_seq acs_cond acs_block acs_exit acs_ret acs_kl acs_loop leave_nil leave_code leave_lp leave_blk aopsK_nil aopsK_cons aopsK_guard bindR_val bindR_need bindR_br bindR_call bindR_bad drawK_nil drawK_cons drawK_ext drawK_pur drawK_guard callPv_fn drawK_purv bindD_val bindD_need bindD_br bindD_call bindD_bad bindX_val bindX_need bindX_br bindX_call guardD_bool guardD_tup grows grows0 List.append_cancel_left_eq List.cons.injEq exists_eq' exists_eq condK_bool guardK_bool guardK_tup sor r0 r1 r2 r3 rC rB rI rP rA rT rS rF rSl rO rbin rcut run1 Env.evals Env.eval Env.get Env.put Env.ins Env.del Env.dels argEnv AV.full AV.cells AV.cell eqCells decide_true decide_false decide_eq_true_eq decide_eq_false_iff_not Bool.not_eq_true' Bool.not_eq_false' true_and and_true false_implies true_implies forall_const Bool.not_true Bool.not_false Bool.false_eq_true Bool.true_eq_false List.getElem?_cons_zero List.getElem?_cons_succ List.length_cons List.length_nil List.length_append List.all_cons List.all_nil Bool.and_true Bool.and_self implies_true List.append_assoc List.cons_append List.nil_append List.append_nil i64_in imin_eq imax_eq cast3 cast0 cast1 cast2 Option.map_none ite_self and_false false_and Option.isSome_some or_true true_or Int.sub_zero Int.mul_one Nat.sub_zero Nat.zero_le Int.cast_ofNat_Int Int.natCast_nonneg Int.toNat_natCast ne_eq not_false_eq_true not_true_eq_false strC blkAt_app blkAt_app0 blkAt_zero blkAt_succ List.set_cons_zero List.set_cons_succ set_app set_app0 Option.map_some Option.bind_some rd setCells lay rdS szOk rapp ownAt lenAt Option.any_some Option.getD_some List.drop_zero List.drop_succ_cons List.take_succ_cons List.take_zero List.drop_nil List.take_nil Nat.lt_irrefl Nat.zero_add Nat.add_zero Nat.mul_one Nat.one_mul Nat.add_assoc Option.some.injEq eq_self
set_option maxHeartbeats 4000000
set_option linter.unusedSimpArgs false
set_option linter.unusedVariables false
/-! The document's store. -/
theorem f39 {ws : List Int} {p off : Nat} {k : Option Nat} {c : Int} {H : Heap} (hs : Sl i64 H p off ws) (hl : ws.length ≤ 2000) : ACall Try.prog 39 [.agg [.sl p off ws.length 1 k, .int .i64 c]] H (.bool (wh ws c)) H := by
  refine acall39 (by simp) (acs_start ?_)
  have g := fun G G' => f18 (cp := k) ((hs.app G).app G') (by omega)
  have hpl := hs.lt
  obtain ⟨cs, o, hp, hle, hcs⟩ := hs
  unfold c39
  by_cases hn : 0 < ws.length
  · have fx : cs[off]? = some (.int .i64 (hd0 ws)) := by have := sl_get hcs (j := 0) (hd0_get hn); rwa [Nat.add_zero] at this
    have hn' : (0 : Int) < (ws.length : Int) := by omega
    have hn2 : ¬ (ws.length : Int) = 0 := by omega
    unfold wh
    generalize hd0 ws = w at *
    generalize com ws = cc at *
    by_cases h1 : 0 ≤ w
    · by_cases h2 : w ≤ 4611686018427387904
      · simp (maxSteps := 1000000) (disch := omega) only [go_sem, Nat.reduceEqDiff, Nat.reduceLT, Nat.reduceAdd, Nat.reduceSub, Nat.reduceMul, Nat.reduceBEq, Int.reduceLT, Int.reduceAdd, Int.reduceMul, Int.reduceSub, Int.reduceToNat, Int.reduceLE, Int.reduceEq, ↓reduceIte, reduceCtorEq, Int.reduceNeg, Nat.reduceLeDiff,  blkAt_lo, hpl, hp, fx, hn', hn2, h1, h2]
        refine callP_intro (fun G' => g _ G') ?_
        simp (maxSteps := 1000000) (disch := omega) only [go_sem, Nat.reduceEqDiff, Nat.reduceLT, Nat.reduceAdd, Nat.reduceSub, Nat.reduceMul, Nat.reduceBEq, Int.reduceLT, Int.reduceAdd, Int.reduceMul, Int.reduceSub, Int.reduceToNat, Int.reduceLE, Int.reduceEq, ↓reduceIte, reduceCtorEq, Int.reduceNeg, Nat.reduceLeDiff]
        exact fin_b _ (by first | exact (List.append_nil _).symm | rfl) (by simp) (by simp (maxSteps := 1000000) (disch := omega) only [resVal, resAll, resOne, rs39, Env.get, go_sem, Nat.reduceEqDiff, Nat.reduceLT, Nat.reduceAdd, Nat.reduceSub, Nat.reduceMul, Nat.reduceBEq, Int.reduceLT, Int.reduceAdd, Int.reduceMul, Int.reduceSub, Int.reduceToNat, Int.reduceLE, Int.reduceEq, ↓reduceIte, reduceCtorEq, Int.reduceNeg, Nat.reduceLeDiff] <;> rfl) (by rw [Bool.eq_iff_iff]; (try simp only [decide_eq_true_eq, Bool.and_eq_true, Bool.or_eq_true, Bool.not_eq_true', decide_eq_false_iff_not, Bool.true_eq_false, Bool.false_eq_true, true_iff, iff_true, false_iff, iff_false, not_false_eq_true, not_true_eq_false]); first | done | omega | (simp; done) | (rw [Bool.eq_iff_iff]; (try simp only [decide_eq_true_eq, Bool.and_eq_true, Bool.or_eq_true, Bool.not_eq_true', decide_eq_false_iff_not, Bool.true_eq_false, Bool.false_eq_true, true_iff, iff_true, false_iff, iff_false, not_false_eq_true, not_true_eq_false]); omega) | (simp; omega))
      · simp (maxSteps := 1000000) (disch := omega) only [go_sem, Nat.reduceEqDiff, Nat.reduceLT, Nat.reduceAdd, Nat.reduceSub, Nat.reduceMul, Nat.reduceBEq, Int.reduceLT, Int.reduceAdd, Int.reduceMul, Int.reduceSub, Int.reduceToNat, Int.reduceLE, Int.reduceEq, ↓reduceIte, reduceCtorEq, Int.reduceNeg, Nat.reduceLeDiff,  blkAt_lo, hpl, hp, fx, hn', hn2, h1, h2]
        exact fin_b _ (by first | exact (List.append_nil _).symm | rfl) (by simp) (by simp (maxSteps := 1000000) (disch := omega) only [resVal, resAll, resOne, rs39, Env.get, go_sem, Nat.reduceEqDiff, Nat.reduceLT, Nat.reduceAdd, Nat.reduceSub, Nat.reduceMul, Nat.reduceBEq, Int.reduceLT, Int.reduceAdd, Int.reduceMul, Int.reduceSub, Int.reduceToNat, Int.reduceLE, Int.reduceEq, ↓reduceIte, reduceCtorEq, Int.reduceNeg, Nat.reduceLeDiff] <;> rfl) (by rw [Bool.eq_iff_iff]; (try simp only [decide_eq_true_eq, Bool.and_eq_true, Bool.or_eq_true, Bool.not_eq_true', decide_eq_false_iff_not, Bool.true_eq_false, Bool.false_eq_true, true_iff, iff_true, false_iff, iff_false, not_false_eq_true, not_true_eq_false]); first | done | omega | (simp; done) | (rw [Bool.eq_iff_iff]; (try simp only [decide_eq_true_eq, Bool.and_eq_true, Bool.or_eq_true, Bool.not_eq_true', decide_eq_false_iff_not, Bool.true_eq_false, Bool.false_eq_true, true_iff, iff_true, false_iff, iff_false, not_false_eq_true, not_true_eq_false]); omega) | (simp; omega))
    · simp (maxSteps := 1000000) (disch := omega) only [go_sem, Nat.reduceEqDiff, Nat.reduceLT, Nat.reduceAdd, Nat.reduceSub, Nat.reduceMul, Nat.reduceBEq, Int.reduceLT, Int.reduceAdd, Int.reduceMul, Int.reduceSub, Int.reduceToNat, Int.reduceLE, Int.reduceEq, ↓reduceIte, reduceCtorEq, Int.reduceNeg, Nat.reduceLeDiff,  blkAt_lo, hpl, hp, fx, hn', hn2, h1]
      exact fin_b _ (by first | exact (List.append_nil _).symm | rfl) (by simp) (by simp (maxSteps := 1000000) (disch := omega) only [resVal, resAll, resOne, rs39, Env.get, go_sem, Nat.reduceEqDiff, Nat.reduceLT, Nat.reduceAdd, Nat.reduceSub, Nat.reduceMul, Nat.reduceBEq, Int.reduceLT, Int.reduceAdd, Int.reduceMul, Int.reduceSub, Int.reduceToNat, Int.reduceLE, Int.reduceEq, ↓reduceIte, reduceCtorEq, Int.reduceNeg, Nat.reduceLeDiff] <;> rfl) (by rw [Bool.eq_iff_iff]; (try simp only [decide_eq_true_eq, Bool.and_eq_true, Bool.or_eq_true, Bool.not_eq_true', decide_eq_false_iff_not, Bool.true_eq_false, Bool.false_eq_true, true_iff, iff_true, false_iff, iff_false, not_false_eq_true, not_true_eq_false]); first | done | omega | (simp; done) | (rw [Bool.eq_iff_iff]; (try simp only [decide_eq_true_eq, Bool.and_eq_true, Bool.or_eq_true, Bool.not_eq_true', decide_eq_false_iff_not, Bool.true_eq_false, Bool.false_eq_true, true_iff, iff_true, false_iff, iff_false, not_false_eq_true, not_true_eq_false]); omega) | (simp; omega))
  · have hn' : (ws.length : Int) = 0 := by omega
    simp (maxSteps := 1000000) (disch := omega) only [go_sem, Nat.reduceEqDiff, Nat.reduceLT, Nat.reduceAdd, Nat.reduceSub, Nat.reduceMul, Nat.reduceBEq, Int.reduceLT, Int.reduceAdd, Int.reduceMul, Int.reduceSub, Int.reduceToNat, Int.reduceLE, Int.reduceEq, ↓reduceIte, reduceCtorEq, Int.reduceNeg, Nat.reduceLeDiff,  hn']
    exact fin_b _ (by first | exact (List.append_nil _).symm | rfl) (by simp) (by simp (maxSteps := 1000000) (disch := omega) only [resVal, resAll, resOne, rs39, Env.get, go_sem, Nat.reduceEqDiff, Nat.reduceLT, Nat.reduceAdd, Nat.reduceSub, Nat.reduceMul, Nat.reduceBEq, Int.reduceLT, Int.reduceAdd, Int.reduceMul, Int.reduceSub, Int.reduceToNat, Int.reduceLE, Int.reduceEq, ↓reduceIte, reduceCtorEq, Int.reduceNeg, Nat.reduceLeDiff] <;> rfl) (by unfold wh; rw [Bool.eq_iff_iff]; (try simp only [decide_eq_true_eq, Bool.and_eq_true, Bool.or_eq_true, Bool.not_eq_true', decide_eq_false_iff_not, Bool.true_eq_false, Bool.false_eq_true, true_iff, iff_true, false_iff, iff_false, not_false_eq_true, not_true_eq_false]); first | done | omega | (simp; done) | (rw [Bool.eq_iff_iff]; (try simp only [decide_eq_true_eq, Bool.and_eq_true, Bool.or_eq_true, Bool.not_eq_true', decide_eq_false_iff_not, Bool.true_eq_false, Bool.false_eq_true, true_iff, iff_true, false_iff, iff_false, not_false_eq_true, not_true_eq_false]); omega) | (simp; omega))
def nwr (n : Int) : Int := if n = -1 then 2 else n
theorem f30 {S : Stt} {H : Heap} (h : S.ok H) : ACall Try.prog 30 [.agg S.av] H (.int .i64 (nwr (nwP S.pu))) H := by
  refine acall30 (by simp) (acs_start ?_)
  obtain ⟨h0, h1, l0, l1⟩ := h
  have ga := fun G => f39 (k := S.k0) (c := S.c0) (h0.app G) (by omega)
  have gb := fun G => f39 (k := S.k1) (c := S.c1) (h1.app G) (by omega)
  have hpl := h0.lt
  have hql := h1.lt
  have w0 := @wh_pos S.ws S.c0
  have w1 := @wh_pos S.vs S.c1
  obtain ⟨cs, o, hp, hle, hcs⟩ := h0
  obtain ⟨ds, o2, hq, hle2, hds⟩ := h1
  have fx := fun h => sl_get hcs (j := 0) (hd0_get (ws := S.ws) h)
  have fy := fun h => sl_get hds (j := 0) (hd0_get (ws := S.vs) h)
  simp only [Nat.add_zero, i64] at fx fy
  have n0 : 0 < S.ws.length → (0 : Int) < (S.ws.length : Int) := fun h => by omega
  have n1 : 0 < S.vs.length → (0 : Int) < (S.vs.length : Int) := fun h => by omega
  clear hcs hds hle hle2
  unfold nwP Stt.pu nw nwr Stt.av
  simp only
  unfold nvc c30
  cases e0 : wh S.ws S.c0 with
  | false =>
    rw [e0] at ga
    cases e1 : wh S.vs S.c1 with
    | false =>
      rw [e1] at gb
      simp only [Bool.false_eq_true, false_and, ↓reduceIte]
      simp (maxSteps := 1000000) (disch := omega) only [go_sem, Nat.reduceEqDiff, Nat.reduceLT, Nat.reduceAdd, Nat.reduceSub, Nat.reduceMul, Nat.reduceBEq, Int.reduceLT, Int.reduceAdd, Int.reduceMul, Int.reduceSub, Int.reduceToNat, Int.reduceLE, Int.reduceEq, ↓reduceIte, reduceCtorEq, Int.reduceNeg, Nat.reduceLeDiff]
      first | refine callB_intro (ga _) ?_ | refine callD_intro (ga _) ?_ | refine callP_intro (fun _ => (ga _)) ?_ | refine callX_pure (ga _) ?_
      simp (maxSteps := 1000000) (disch := omega) only [go_sem, Nat.reduceEqDiff, Nat.reduceLT, Nat.reduceAdd, Nat.reduceSub, Nat.reduceMul, Nat.reduceBEq, Int.reduceLT, Int.reduceAdd, Int.reduceMul, Int.reduceSub, Int.reduceToNat, Int.reduceLE, Int.reduceEq, ↓reduceIte, reduceCtorEq, Int.reduceNeg, Nat.reduceLeDiff]
      first | refine callB_intro (gb _) ?_ | refine callD_intro (gb _) ?_ | refine callP_intro (fun _ => (gb _)) ?_ | refine callX_pure (gb _) ?_
      simp (maxSteps := 1000000) (disch := omega) only [go_sem, Nat.reduceEqDiff, Nat.reduceLT, Nat.reduceAdd, Nat.reduceSub, Nat.reduceMul, Nat.reduceBEq, Int.reduceLT, Int.reduceAdd, Int.reduceMul, Int.reduceSub, Int.reduceToNat, Int.reduceLE, Int.reduceEq, ↓reduceIte, reduceCtorEq, Int.reduceNeg, Nat.reduceLeDiff]
      exact fin_same (by simp) _ (by first | exact (List.append_nil _).symm | rfl) (by simp (maxSteps := 1000000) (disch := omega) only [resVal, resAll, resOne, rs30, Env.get, go_sem, Nat.reduceEqDiff, Nat.reduceLT, Nat.reduceAdd, Nat.reduceSub, Nat.reduceMul, Nat.reduceBEq, Int.reduceLT, Int.reduceAdd, Int.reduceMul, Int.reduceSub, Int.reduceToNat, Int.reduceLE, Int.reduceEq, ↓reduceIte, reduceCtorEq, Int.reduceNeg, Nat.reduceLeDiff]) (by simp only [AV.und, AV.unds, and_self])
    | true =>
      rw [e1] at gb
      simp only [Bool.false_eq_true, false_and, ↓reduceIte]
      simp (maxSteps := 1000000) (disch := omega) only [go_sem, Nat.reduceEqDiff, Nat.reduceLT, Nat.reduceAdd, Nat.reduceSub, Nat.reduceMul, Nat.reduceBEq, Int.reduceLT, Int.reduceAdd, Int.reduceMul, Int.reduceSub, Int.reduceToNat, Int.reduceLE, Int.reduceEq, ↓reduceIte, reduceCtorEq, Int.reduceNeg, Nat.reduceLeDiff]
      first | refine callB_intro (ga _) ?_ | refine callD_intro (ga _) ?_ | refine callP_intro (fun _ => (ga _)) ?_ | refine callX_pure (ga _) ?_
      simp (maxSteps := 1000000) (disch := omega) only [go_sem, Nat.reduceEqDiff, Nat.reduceLT, Nat.reduceAdd, Nat.reduceSub, Nat.reduceMul, Nat.reduceBEq, Int.reduceLT, Int.reduceAdd, Int.reduceMul, Int.reduceSub, Int.reduceToNat, Int.reduceLE, Int.reduceEq, ↓reduceIte, reduceCtorEq, Int.reduceNeg, Nat.reduceLeDiff]
      first | refine callB_intro (gb _) ?_ | refine callD_intro (gb _) ?_ | refine callP_intro (fun _ => (gb _)) ?_ | refine callX_pure (gb _) ?_
      simp (maxSteps := 1000000) (disch := omega) only [go_sem, Nat.reduceEqDiff, Nat.reduceLT, Nat.reduceAdd, Nat.reduceSub, Nat.reduceMul, Nat.reduceBEq, Int.reduceLT, Int.reduceAdd, Int.reduceMul, Int.reduceSub, Int.reduceToNat, Int.reduceLE, Int.reduceEq, ↓reduceIte, reduceCtorEq, Int.reduceNeg, Nat.reduceLeDiff]
      exact fin_same (by simp) _ (by first | exact (List.append_nil _).symm | rfl) (by simp (maxSteps := 1000000) (disch := omega) only [resVal, resAll, resOne, rs30, Env.get, go_sem, Nat.reduceEqDiff, Nat.reduceLT, Nat.reduceAdd, Nat.reduceSub, Nat.reduceMul, Nat.reduceBEq, Int.reduceLT, Int.reduceAdd, Int.reduceMul, Int.reduceSub, Int.reduceToNat, Int.reduceLE, Int.reduceEq, ↓reduceIte, reduceCtorEq, Int.reduceNeg, Nat.reduceLeDiff]) (by simp only [AV.und, AV.unds, and_self])
  | true =>
    rw [e0] at ga
    have fx := fx (w0 e0)
    have n0 := n0 (w0 e0)
    cases e1 : wh S.vs S.c1 with
    | false =>
      rw [e1] at gb
      simp only [Bool.false_eq_true, true_or, and_self, ↓reduceIte]
      simp (maxSteps := 1000000) (disch := omega) only [go_sem, Nat.reduceEqDiff, Nat.reduceLT, Nat.reduceAdd, Nat.reduceSub, Nat.reduceMul, Nat.reduceBEq, Int.reduceLT, Int.reduceAdd, Int.reduceMul, Int.reduceSub, Int.reduceToNat, Int.reduceLE, Int.reduceEq, ↓reduceIte, reduceCtorEq, Int.reduceNeg, Nat.reduceLeDiff]
      first | refine callB_intro (ga _) ?_ | refine callD_intro (ga _) ?_ | refine callP_intro (fun _ => (ga _)) ?_ | refine callX_pure (ga _) ?_
      simp (maxSteps := 1000000) (disch := omega) only [go_sem, Nat.reduceEqDiff, Nat.reduceLT, Nat.reduceAdd, Nat.reduceSub, Nat.reduceMul, Nat.reduceBEq, Int.reduceLT, Int.reduceAdd, Int.reduceMul, Int.reduceSub, Int.reduceToNat, Int.reduceLE, Int.reduceEq, ↓reduceIte, reduceCtorEq, Int.reduceNeg, Nat.reduceLeDiff]
      first | refine callB_intro (gb _) ?_ | refine callD_intro (gb _) ?_ | refine callP_intro (fun _ => (gb _)) ?_ | refine callX_pure (gb _) ?_
      simp (maxSteps := 1000000) (disch := omega) only [go_sem, Nat.reduceEqDiff, Nat.reduceLT, Nat.reduceAdd, Nat.reduceSub, Nat.reduceMul, Nat.reduceBEq, Int.reduceLT, Int.reduceAdd, Int.reduceMul, Int.reduceSub, Int.reduceToNat, Int.reduceLE, Int.reduceEq, ↓reduceIte, reduceCtorEq, Int.reduceNeg, Nat.reduceLeDiff]
      exact fin_same (by simp) _ (by first | exact (List.append_nil _).symm | rfl) (by simp (maxSteps := 1000000) (disch := omega) only [resVal, resAll, resOne, rs30, Env.get, go_sem, Nat.reduceEqDiff, Nat.reduceLT, Nat.reduceAdd, Nat.reduceSub, Nat.reduceMul, Nat.reduceBEq, Int.reduceLT, Int.reduceAdd, Int.reduceMul, Int.reduceSub, Int.reduceToNat, Int.reduceLE, Int.reduceEq, ↓reduceIte, reduceCtorEq, Int.reduceNeg, Nat.reduceLeDiff]) (by simp only [AV.und, AV.unds, and_self])
    | true =>
      rw [e1] at gb
      have fy := fy (w1 e1)
      have n1 := n1 (w1 e1)
      generalize hd0 S.ws = x at *
      generalize hd0 S.vs = y at *
      by_cases hxy : x < y
      · have e2 : ¬ y ≤ x := by omega
        simp only [e2, Bool.true_eq_false, or_self, and_false, ↓reduceIte]
        simp (maxSteps := 1000000) (disch := omega) only [go_sem, Nat.reduceEqDiff, Nat.reduceLT, Nat.reduceAdd, Nat.reduceSub, Nat.reduceMul, Nat.reduceBEq, Int.reduceLT, Int.reduceAdd, Int.reduceMul, Int.reduceSub, Int.reduceToNat, Int.reduceLE, Int.reduceEq, ↓reduceIte, reduceCtorEq, Int.reduceNeg, Nat.reduceLeDiff]
        first | refine callB_intro (ga _) ?_ | refine callD_intro (ga _) ?_ | refine callP_intro (fun _ => (ga _)) ?_ | refine callX_pure (ga _) ?_
        simp (maxSteps := 1000000) (disch := omega) only [go_sem, Nat.reduceEqDiff, Nat.reduceLT, Nat.reduceAdd, Nat.reduceSub, Nat.reduceMul, Nat.reduceBEq, Int.reduceLT, Int.reduceAdd, Int.reduceMul, Int.reduceSub, Int.reduceToNat, Int.reduceLE, Int.reduceEq, ↓reduceIte, reduceCtorEq, Int.reduceNeg, Nat.reduceLeDiff]
        first | refine callB_intro (gb _) ?_ | refine callD_intro (gb _) ?_ | refine callP_intro (fun _ => (gb _)) ?_ | refine callX_pure (gb _) ?_
        simp (maxSteps := 1000000) (disch := omega) only [go_sem, Nat.reduceEqDiff, Nat.reduceLT, Nat.reduceAdd, Nat.reduceSub, Nat.reduceMul, Nat.reduceBEq, Int.reduceLT, Int.reduceAdd, Int.reduceMul, Int.reduceSub, Int.reduceToNat, Int.reduceLE, Int.reduceEq, ↓reduceIte, reduceCtorEq, Int.reduceNeg, Nat.reduceLeDiff,  blkAt_lo, hpl, hp, hql, hq, fx, fy, n0, n1, hxy]
        exact fin_same (by simp) _ (by first | exact (List.append_nil _).symm | rfl) (by simp (maxSteps := 1000000) (disch := omega) only [resVal, resAll, resOne, rs30, Env.get, go_sem, Nat.reduceEqDiff, Nat.reduceLT, Nat.reduceAdd, Nat.reduceSub, Nat.reduceMul, Nat.reduceBEq, Int.reduceLT, Int.reduceAdd, Int.reduceMul, Int.reduceSub, Int.reduceToNat, Int.reduceLE, Int.reduceEq, ↓reduceIte, reduceCtorEq, Int.reduceNeg, Nat.reduceLeDiff]) (by simp only [AV.und, AV.unds, and_self])
      · have e2 : y ≤ x := by omega
        simp only [e2, or_true, and_self, ↓reduceIte]
        simp (maxSteps := 1000000) (disch := omega) only [go_sem, Nat.reduceEqDiff, Nat.reduceLT, Nat.reduceAdd, Nat.reduceSub, Nat.reduceMul, Nat.reduceBEq, Int.reduceLT, Int.reduceAdd, Int.reduceMul, Int.reduceSub, Int.reduceToNat, Int.reduceLE, Int.reduceEq, ↓reduceIte, reduceCtorEq, Int.reduceNeg, Nat.reduceLeDiff]
        first | refine callB_intro (ga _) ?_ | refine callD_intro (ga _) ?_ | refine callP_intro (fun _ => (ga _)) ?_ | refine callX_pure (ga _) ?_
        simp (maxSteps := 1000000) (disch := omega) only [go_sem, Nat.reduceEqDiff, Nat.reduceLT, Nat.reduceAdd, Nat.reduceSub, Nat.reduceMul, Nat.reduceBEq, Int.reduceLT, Int.reduceAdd, Int.reduceMul, Int.reduceSub, Int.reduceToNat, Int.reduceLE, Int.reduceEq, ↓reduceIte, reduceCtorEq, Int.reduceNeg, Nat.reduceLeDiff]
        first | refine callB_intro (gb _) ?_ | refine callD_intro (gb _) ?_ | refine callP_intro (fun _ => (gb _)) ?_ | refine callX_pure (gb _) ?_
        simp (maxSteps := 1000000) (disch := omega) only [go_sem, Nat.reduceEqDiff, Nat.reduceLT, Nat.reduceAdd, Nat.reduceSub, Nat.reduceMul, Nat.reduceBEq, Int.reduceLT, Int.reduceAdd, Int.reduceMul, Int.reduceSub, Int.reduceToNat, Int.reduceLE, Int.reduceEq, ↓reduceIte, reduceCtorEq, Int.reduceNeg, Nat.reduceLeDiff,  blkAt_lo, hpl, hp, hql, hq, fx, fy, n0, n1, hxy]
        exact fin_same (by simp) _ (by first | exact (List.append_nil _).symm | rfl) (by simp (maxSteps := 1000000) (disch := omega) only [resVal, resAll, resOne, rs30, Env.get, go_sem, Nat.reduceEqDiff, Nat.reduceLT, Nat.reduceAdd, Nat.reduceSub, Nat.reduceMul, Nat.reduceBEq, Int.reduceLT, Int.reduceAdd, Int.reduceMul, Int.reduceSub, Int.reduceToNat, Int.reduceLE, Int.reduceEq, ↓reduceIte, reduceCtorEq, Int.reduceNeg, Nat.reduceLeDiff]) (by simp only [AV.und, AV.unds, and_self])
def Rdn (S : Stt) (v : AV) (H' : Heap) : Prop := ∃ w, v = .tup [w, .int .i64 (lastP S.pu), .bool (onP S.pu)] ∧ Rw i64 H' w (rdP S.pu)
theorem f12_t {S : Stt} {H : Heap} (h : S.ok H) : ACallE Try.prog 12 [.agg S.av] H (Rdn S) := by
  have g := f12_all h
  rcases nw_cases S.ws S.c0 S.vs S.c1 with ⟨hw, a, b⟩ | ⟨hw, a, b⟩ | ⟨hw, a, b⟩
  · have en : nwP S.pu = -1 := hw
    rw [rd_no (S := S) hw] at g
    refine callE_nlr 1 ⟨_, _, g, ⟨_, rfl⟩, _, ?_, by unfold rdP; rw [if_pos en]; exact Rw.empty _⟩
    simp only [AV.nl, AV.nls, RdK.av, RdK.i, RdK.b, RdK.e, lastP, onP, en, ↓reduceIte, decide_true, Bool.not_true]
  · have en : nwP S.pu = 0 := hw
    rw [rd_0 (S := S) hw] at g
    refine ⟨_, _, g, ⟨_, rfl⟩, RdK.av H.length (.so (S.ws.drop 1) (hd0 S.ws)), ?_, ?_⟩
    · simp only [RdK.i, RdK.b, lastP, onP, en, Int.reduceNeg, ↓reduceIte, Int.reduceEq, decide_false, Bool.not_false]
      rfl
    · unfold rdP
      rw [if_neg (by omega), if_pos en]
      exact ⟨_, _, _, rfl, Sl.whole (o := false) (by simp only [RdK.e, go_sem, Nat.reduceEqDiff, Nat.reduceLT, Nat.reduceAdd, Nat.reduceSub, Nat.reduceMul, Nat.reduceBEq, Int.reduceLT, Int.reduceAdd, Int.reduceMul, Int.reduceSub, Int.reduceToNat, Int.reduceLE, Int.reduceEq, ↓reduceIte, reduceCtorEq, Int.reduceNeg, Nat.reduceLeDiff]; rfl)⟩
  · have en : nwP S.pu = 1 := hw
    rw [rd_1 (S := S) hw] at g
    refine ⟨_, _, g, ⟨_, rfl⟩, RdK.av H.length (.so (S.vs.drop 1) (hd0 S.vs)), ?_, ?_⟩
    · simp only [RdK.i, RdK.b, lastP, onP, en, Int.reduceNeg, ↓reduceIte, Int.reduceEq, decide_false, Bool.not_false]
      rfl
    · unfold rdP
      rw [if_neg (by omega), if_neg (by omega)]
      exact ⟨_, _, _, rfl, Sl.whole (o := false) (by simp only [RdK.e, go_sem, Nat.reduceEqDiff, Nat.reduceLT, Nat.reduceAdd, Nat.reduceSub, Nat.reduceMul, Nat.reduceBEq, Int.reduceLT, Int.reduceAdd, Int.reduceMul, Int.reduceSub, Int.reduceToNat, Int.reduceLE, Int.reduceEq, ↓reduceIte, reduceCtorEq, Int.reduceNeg, Nat.reduceLeDiff]; rfl)⟩
theorem f20 {S : Stt} {H : Heap} (h : S.ok H) : ACallE Try.prog 20 [.agg S.av] H (Rdn S) := by
  refine acallE (fun v Hf h => acallK20 (by simp) h) (acs_start ?_)
  have g := fun G => f30 (h.app G)
  obtain ⟨h0, h1, l0, l1⟩ := h
  have hpl := h0.lt
  have hql := h1.lt
  have q1 : S.pu.1.1 = S.ws := rfl
  have q2 : S.pu.2.1 = S.vs := rfl
  unfold Rdn rdP lastP onP
  rcases nw_cases S.ws S.c0 S.vs S.c1 with ⟨hw, a, b⟩ | ⟨hw, a, b⟩ | ⟨hw, a, b⟩
  · have en : nwP S.pu = -1 := hw
    have er : nwr (-1) = 2 := rfl
    rw [en, er] at g
    simp only [en, ↓reduceIte, decide_true, Bool.not_true]
    unfold Stt.av nvc at *
    unfold c20
    simp (maxSteps := 1000000) (disch := omega) only [go_sem, Nat.reduceEqDiff, Nat.reduceLT, Nat.reduceAdd, Nat.reduceSub, Nat.reduceMul, Nat.reduceBEq, Int.reduceLT, Int.reduceAdd, Int.reduceMul, Int.reduceSub, Int.reduceToNat, Int.reduceLE, Int.reduceEq, ↓reduceIte, reduceCtorEq, Int.reduceNeg, Nat.reduceLeDiff]
    first | refine callB_intro (g _) ?_ | refine callD_intro (g _) ?_ | refine callP_intro (fun _ => (g _)) ?_ | refine callX_pure (g _) ?_
    simp (maxSteps := 1000000) (disch := omega) only [go_sem, Nat.reduceEqDiff, Nat.reduceLT, Nat.reduceAdd, Nat.reduceSub, Nat.reduceMul, Nat.reduceBEq, Int.reduceLT, Int.reduceAdd, Int.reduceMul, Int.reduceSub, Int.reduceToNat, Int.reduceLE, Int.reduceEq, ↓reduceIte, reduceCtorEq, Int.reduceNeg, Nat.reduceLeDiff]
    refine fin_en 1 (by simp) (by simp (maxSteps := 1000000) (disch := omega) only [resVal, resAll, resOne, rs20, Env.get, go_sem, Nat.reduceEqDiff, Nat.reduceLT, Nat.reduceAdd, Nat.reduceSub, Nat.reduceMul, Nat.reduceBEq, Int.reduceLT, Int.reduceAdd, Int.reduceMul, Int.reduceSub, Int.reduceToNat, Int.reduceLE, Int.reduceEq, ↓reduceIte, reduceCtorEq, Int.reduceNeg, Nat.reduceLeDiff, ] <;> rfl) ⟨_, rfl⟩ ⟨_, rfl, Rw.empty _⟩
  · have en : nwP S.pu = 0 := hw
    have er : nwr 0 = 0 := rfl
    have hn := wh_pos a
    have ld : (S.ws.drop 1).length = S.ws.length - 1 := List.length_drop
    have hdr := h0.drop (n := 1) (by omega)
    obtain ⟨cs, o, hp, hle, hcs⟩ := h0
    have fx : cs[S.o0]? = some (.int .i64 (hd0 S.ws)) := by have := sl_get hcs (j := 0) (hd0_get hn); rwa [Nat.add_zero] at this
    obtain ⟨cs', o', hp', hle', hcs'⟩ := hdr
    rw [hp] at hp'
    cases hp'
    rw [ld] at hle' hcs'
    have hle1 : S.o0 + 1 ≤ cs.length := by omega
    have hle2 : S.o0 + (1 + (S.ws.length - 1)) ≤ cs.length := by omega
    have n0 : (0 : Int) < (S.ws.length : Int) := by omega
    have n1 : (1 : Int) ≤ (S.ws.length : Int) := by omega
    have n2 : S.ws.length - 1 ≤ 140737488355328 := by omega
    have n3 : (S.ws.length - 1) * 8 ≤ 140737488355328 := by omega
    rw [en, er] at g
    simp only [en, Int.reduceNeg, ↓reduceIte, Int.reduceEq, decide_false, Bool.not_false, q1, q2]
    clear hcs hle hw a b
    generalize hL : S.ws.drop 1 = L at *
    generalize hd0 S.ws = w at *
    unfold Stt.av nvc at *
    unfold c20
    simp (maxSteps := 1000000) (disch := omega) only [go_sem, Nat.reduceEqDiff, Nat.reduceLT, Nat.reduceAdd, Nat.reduceSub, Nat.reduceMul, Nat.reduceBEq, Int.reduceLT, Int.reduceAdd, Int.reduceMul, Int.reduceSub, Int.reduceToNat, Int.reduceLE, Int.reduceEq, ↓reduceIte, reduceCtorEq, Int.reduceNeg, Nat.reduceLeDiff]
    first | refine callB_intro (g _) ?_ | refine callD_intro (g _) ?_ | refine callP_intro (fun _ => (g _)) ?_ | refine callX_pure (g _) ?_
    by_cases hz : S.ws.length - 1 = 0
    · have eL : L = [] := List.eq_nil_of_length_eq_zero (by omega)
      subst eL
      simp (maxSteps := 1000000) (disch := omega) only [go_sem, Nat.reduceEqDiff, Nat.reduceLT, Nat.reduceAdd, Nat.reduceSub, Nat.reduceMul, Nat.reduceBEq, Int.reduceLT, Int.reduceAdd, Int.reduceMul, Int.reduceSub, Int.reduceToNat, Int.reduceLE, Int.reduceEq, ↓reduceIte, reduceCtorEq, Int.reduceNeg, Nat.reduceLeDiff,  n1, blkAt_lo, hpl, hql, hp, fx, n0, hz, hle', hle1]
      refine fin_e (by simp) (by simp (maxSteps := 1000000) (disch := omega) only [resVal, resAll, resOne, rs20, Env.get, go_sem, Nat.reduceEqDiff, Nat.reduceLT, Nat.reduceAdd, Nat.reduceSub, Nat.reduceMul, Nat.reduceBEq, Int.reduceLT, Int.reduceAdd, Int.reduceMul, Int.reduceSub, Int.reduceToNat, Int.reduceLE, Int.reduceEq, ↓reduceIte, reduceCtorEq, Int.reduceNeg, Nat.reduceLeDiff, ] <;> rfl) ⟨_, rfl⟩ ⟨_, rfl, ⟨_, _, _, rfl, ⟨[], true, by simp only [go_sem, Nat.reduceEqDiff, Nat.reduceLT, Nat.reduceAdd, Nat.reduceSub, Nat.reduceMul, Nat.reduceBEq, Int.reduceLT, Int.reduceAdd, Int.reduceMul, Int.reduceSub, Int.reduceToNat, Int.reduceLE, Int.reduceEq, ↓reduceIte, reduceCtorEq, Int.reduceNeg, Nat.reduceLeDiff], by simp, by simp⟩⟩⟩
    · have hz2 : 0 < S.ws.length - 1 := by omega
      simp (maxSteps := 1000000) (disch := omega) only [go_sem, Nat.reduceEqDiff, Nat.reduceLT, Nat.reduceAdd, Nat.reduceSub, Nat.reduceMul, Nat.reduceBEq, Int.reduceLT, Int.reduceAdd, Int.reduceMul, Int.reduceSub, Int.reduceToNat, Int.reduceLE, Int.reduceEq, ↓reduceIte, reduceCtorEq, Int.reduceNeg, Nat.reduceLeDiff,  n1, blkAt_lo, hpl, hql, hp, fx, n0, hz, hz2, hle', hle1, hle2, hcs', n2, n3]
      rw [← ld]
      refine fin_e (by simp) (by simp (maxSteps := 1000000) (disch := omega) only [resVal, resAll, resOne, rs20, Env.get, go_sem, Nat.reduceEqDiff, Nat.reduceLT, Nat.reduceAdd, Nat.reduceSub, Nat.reduceMul, Nat.reduceBEq, Int.reduceLT, Int.reduceAdd, Int.reduceMul, Int.reduceSub, Int.reduceToNat, Int.reduceLE, Int.reduceEq, ↓reduceIte, reduceCtorEq, Int.reduceNeg, Nat.reduceLeDiff, ] <;> rfl) ⟨_, rfl⟩ ⟨_, rfl, Rw.mk _ (Sl.whole (o := true) (by simp only [go_sem, Nat.reduceEqDiff, Nat.reduceLT, Nat.reduceAdd, Nat.reduceSub, Nat.reduceMul, Nat.reduceBEq, Int.reduceLT, Int.reduceAdd, Int.reduceMul, Int.reduceSub, Int.reduceToNat, Int.reduceLE, Int.reduceEq, ↓reduceIte, reduceCtorEq, Int.reduceNeg, Nat.reduceLeDiff]))⟩
  · have en : nwP S.pu = 1 := hw
    have er : nwr 1 = 1 := rfl
    have hn := wh_pos a
    have ld : (S.vs.drop 1).length = S.vs.length - 1 := List.length_drop
    have hdr := h1.drop (n := 1) (by omega)
    obtain ⟨cs, o, hp, hle, hcs⟩ := h1
    have fx : cs[S.o1]? = some (.int .i64 (hd0 S.vs)) := by have := sl_get hcs (j := 0) (hd0_get hn); rwa [Nat.add_zero] at this
    obtain ⟨cs', o', hp', hle', hcs'⟩ := hdr
    rw [hp] at hp'
    cases hp'
    rw [ld] at hle' hcs'
    have hle1 : S.o1 + 1 ≤ cs.length := by omega
    have hle2 : S.o1 + (1 + (S.vs.length - 1)) ≤ cs.length := by omega
    have n0 : (0 : Int) < (S.vs.length : Int) := by omega
    have n1 : (1 : Int) ≤ (S.vs.length : Int) := by omega
    have n2 : S.vs.length - 1 ≤ 140737488355328 := by omega
    have n3 : (S.vs.length - 1) * 8 ≤ 140737488355328 := by omega
    rw [en, er] at g
    simp only [en, Int.reduceNeg, ↓reduceIte, Int.reduceEq, decide_false, Bool.not_false, q1, q2]
    clear hcs hle hw a b
    generalize hL : S.vs.drop 1 = L at *
    generalize hd0 S.vs = w at *
    unfold Stt.av nvc at *
    unfold c20
    simp (maxSteps := 1000000) (disch := omega) only [go_sem, Nat.reduceEqDiff, Nat.reduceLT, Nat.reduceAdd, Nat.reduceSub, Nat.reduceMul, Nat.reduceBEq, Int.reduceLT, Int.reduceAdd, Int.reduceMul, Int.reduceSub, Int.reduceToNat, Int.reduceLE, Int.reduceEq, ↓reduceIte, reduceCtorEq, Int.reduceNeg, Nat.reduceLeDiff]
    first | refine callB_intro (g _) ?_ | refine callD_intro (g _) ?_ | refine callP_intro (fun _ => (g _)) ?_ | refine callX_pure (g _) ?_
    by_cases hz : S.vs.length - 1 = 0
    · have eL : L = [] := List.eq_nil_of_length_eq_zero (by omega)
      subst eL
      simp (maxSteps := 1000000) (disch := omega) only [go_sem, Nat.reduceEqDiff, Nat.reduceLT, Nat.reduceAdd, Nat.reduceSub, Nat.reduceMul, Nat.reduceBEq, Int.reduceLT, Int.reduceAdd, Int.reduceMul, Int.reduceSub, Int.reduceToNat, Int.reduceLE, Int.reduceEq, ↓reduceIte, reduceCtorEq, Int.reduceNeg, Nat.reduceLeDiff,  n1, blkAt_lo, hpl, hql, hp, fx, n0, hz, hle', hle1]
      refine fin_e (by simp) (by simp (maxSteps := 1000000) (disch := omega) only [resVal, resAll, resOne, rs20, Env.get, go_sem, Nat.reduceEqDiff, Nat.reduceLT, Nat.reduceAdd, Nat.reduceSub, Nat.reduceMul, Nat.reduceBEq, Int.reduceLT, Int.reduceAdd, Int.reduceMul, Int.reduceSub, Int.reduceToNat, Int.reduceLE, Int.reduceEq, ↓reduceIte, reduceCtorEq, Int.reduceNeg, Nat.reduceLeDiff, ] <;> rfl) ⟨_, rfl⟩ ⟨_, rfl, ⟨_, _, _, rfl, ⟨[], true, by simp only [go_sem, Nat.reduceEqDiff, Nat.reduceLT, Nat.reduceAdd, Nat.reduceSub, Nat.reduceMul, Nat.reduceBEq, Int.reduceLT, Int.reduceAdd, Int.reduceMul, Int.reduceSub, Int.reduceToNat, Int.reduceLE, Int.reduceEq, ↓reduceIte, reduceCtorEq, Int.reduceNeg, Nat.reduceLeDiff], by simp, by simp⟩⟩⟩
    · have hz2 : 0 < S.vs.length - 1 := by omega
      simp (maxSteps := 1000000) (disch := omega) only [go_sem, Nat.reduceEqDiff, Nat.reduceLT, Nat.reduceAdd, Nat.reduceSub, Nat.reduceMul, Nat.reduceBEq, Int.reduceLT, Int.reduceAdd, Int.reduceMul, Int.reduceSub, Int.reduceToNat, Int.reduceLE, Int.reduceEq, ↓reduceIte, reduceCtorEq, Int.reduceNeg, Nat.reduceLeDiff,  n1, blkAt_lo, hpl, hql, hp, fx, n0, hz, hz2, hle', hle1, hle2, hcs', n2, n3]
      rw [← ld]
      refine fin_e (by simp) (by simp (maxSteps := 1000000) (disch := omega) only [resVal, resAll, resOne, rs20, Env.get, go_sem, Nat.reduceEqDiff, Nat.reduceLT, Nat.reduceAdd, Nat.reduceSub, Nat.reduceMul, Nat.reduceBEq, Int.reduceLT, Int.reduceAdd, Int.reduceMul, Int.reduceSub, Int.reduceToNat, Int.reduceLE, Int.reduceEq, ↓reduceIte, reduceCtorEq, Int.reduceNeg, Nat.reduceLeDiff, ] <;> rfl) ⟨_, rfl⟩ ⟨_, rfl, Rw.mk _ (Sl.whole (o := true) (by simp only [go_sem, Nat.reduceEqDiff, Nat.reduceLT, Nat.reduceAdd, Nat.reduceSub, Nat.reduceMul, Nat.reduceBEq, Int.reduceLT, Int.reduceAdd, Int.reduceMul, Int.reduceSub, Int.reduceToNat, Int.reduceLE, Int.reduceEq, ↓reduceIte, reduceCtorEq, Int.reduceNeg, Nat.reduceLeDiff]))⟩
end Go.Proofs.Ytjibcbfdfambeaa.Ah
