/- V10u: a part of the proof: contracts of functions, or plain laws. Conditions: none. -/
import Derived.Test.YtjibcbfdfambeaaV10t
namespace Go.Proofs.Ytjibcbfdfambeaa.Ah
open Go Go.WideShapes
attribute [local irreducible] acs aopsK drawK leave condK bindR bindD bindX guardK guardD callB callD callX callP callPv
attribute [local go_sem] acs_nil acs_blk acs_skip acs_reg acs_dreg acs_seq acs_cond acs_block acs_exit acs_ret acs_kl acs_loop leave_nil leave_code leave_lp leave_blk aopsK_nil aopsK_cons aopsK_guard bindR_val bindR_need bindR_br bindR_call bindR_bad drawK_nil drawK_cons drawK_ext drawK_pur drawK_guard callPv_fn drawK_purv bindD_val bindD_need bindD_br bindD_call bindD_bad bindX_val bindX_need bindX_br bindX_call guardD_bool guardD_tup grows grows0 List.append_cancel_left_eq List.cons.injEq exists_eq' exists_eq condK_bool guardK_bool guardK_tup sor r0 r1 r2 r3 rC rB rI rP rA rT rS rF rSl rO rbin rcut run1 Env.evals Env.eval Env.get Env.put Env.ins Env.del Env.dels argEnv AV.full AV.cells AV.cell eqCells decide_true decide_false decide_eq_true_eq decide_eq_false_iff_not Bool.not_eq_true' Bool.not_eq_false' true_and and_true false_implies true_implies forall_const Bool.not_true Bool.not_false Bool.false_eq_true Bool.true_eq_false List.getElem?_cons_zero List.getElem?_cons_succ List.length_cons List.length_nil List.length_append List.all_cons List.all_nil Bool.and_true Bool.and_self implies_true List.append_assoc List.cons_append List.nil_append List.append_nil i64_in imin_eq imax_eq cast3 cast0 cast1 cast2 Option.map_none ite_self and_false false_and Option.isSome_some or_true true_or Int.sub_zero Int.mul_one Nat.sub_zero Nat.zero_le Int.cast_ofNat_Int Int.natCast_nonneg Int.toNat_natCast ne_eq not_false_eq_true not_true_eq_false strC blkAt_app blkAt_app0 blkAt_zero blkAt_succ List.set_cons_zero List.set_cons_succ set_app set_app0 Option.map_some Option.bind_some rd setCells lay rdS szOk rapp ownAt lenAt Option.any_some Option.getD_some List.drop_zero List.drop_succ_cons List.take_succ_cons List.take_zero List.drop_nil List.take_nil Nat.lt_irrefl Nat.zero_add Nat.add_zero Nat.mul_one Nat.one_mul Nat.add_assoc Option.some.injEq eq_self
set_option maxHeartbeats 4000000
set_option linter.unusedSimpArgs false
set_option linter.unusedVariables false
/-! The document's writing. -/
theorem f22_n {S : Stt} {us : List Int} {q oq : Nat} {kq : Option Nat} {done : Int} {H : Heap} (h : S.ok H) (hu : Sl i64 H q oq us) (lu : us.length ≤ 1000) (en : nwP S.pu = -1) :
    ACallE Try.prog 22 [.agg S.av, .sl q oq us.length 1 kq, .int .i64 done] H (Torn S us done) := by
  refine acallE (fun v Hf h => acallK22 (by simp) h) (acs_start ?_)
  have g := fun G => f30 (h.app G)
  have ok0 := fun G => h.app G
  obtain ⟨h0, h1, l0, l1⟩ := h
  have hpl := h0.lt
  have hql := h1.lt
  have hul := hu.lt
  have er : nwr (-1) = 2 := rfl
  rw [en, er] at g
  unfold Torn
  have el : lastP S.pu = 0 := by unfold lastP; rw [if_pos en]
  by_cases hb : 600 < us.length
  · have hb1 : (600 : Int) < (us.length : Int) := by omega
    have e1 : errP S.pu us = 5 := by unfold errP; rw [if_pos (.inl hb)]
    have e2 : tornP S.pu us done = S.pu := by unfold tornP; rw [if_pos (.inl hb)]
    rw [e1, e2]
    unfold Stt.av nvc at *
    unfold c22
    simp (maxSteps := 1000000) (disch := omega) only [go_sem, Nat.reduceEqDiff, Nat.reduceLT, Nat.reduceAdd, Nat.reduceSub, Nat.reduceMul, Nat.reduceBEq, Int.reduceLT, Int.reduceAdd, Int.reduceMul, Int.reduceSub, Int.reduceToNat, Int.reduceLE, Int.reduceEq, ↓reduceIte, reduceCtorEq, Int.reduceNeg, Nat.reduceLeDiff]
    first | refine callB_intro (g _) ?_ | refine callD_intro (g _) ?_ | refine callP_intro (fun _ => (g _)) ?_ | refine callX_pure (g _) ?_
    simp (maxSteps := 1000000) (disch := omega) only [go_sem, Nat.reduceEqDiff, Nat.reduceLT, Nat.reduceAdd, Nat.reduceSub, Nat.reduceMul, Nat.reduceBEq, Int.reduceLT, Int.reduceAdd, Int.reduceMul, Int.reduceSub, Int.reduceToNat, Int.reduceLE, Int.reduceEq, ↓reduceIte, reduceCtorEq, Int.reduceNeg, Nat.reduceLeDiff,  hb1]
    refine fin_e (by simp) (by simp (maxSteps := 1000000) (disch := omega) only [resVal, resAll, resOne, rs22, Env.get, go_sem, Nat.reduceEqDiff, Nat.reduceLT, Nat.reduceAdd, Nat.reduceSub, Nat.reduceMul, Nat.reduceBEq, Int.reduceLT, Int.reduceAdd, Int.reduceMul, Int.reduceSub, Int.reduceToNat, Int.reduceLE, Int.reduceEq, ↓reduceIte, reduceCtorEq, Int.reduceNeg, Nat.reduceLeDiff, ] <;> rfl) ⟨_, rfl⟩ ⟨S, rfl, ok0 _, rfl⟩
  have hb1 : ¬ (600 : Int) < (us.length : Int) := by omega
  have e1 : errP S.pu us = 0 := by unfold errP; rw [el, if_neg (by omega)]
  have e2 : tornP S.pu us done = (slotP (S.ws, S.c0) 1 us done, (S.vs, S.c1)) := by unfold tornP; rw [el, if_neg (by omega), if_neg (by omega)]; rfl
  rw [e1, e2]
  by_cases hdz : done ≤ 0
  · have e3 : slotP (S.ws, S.c0) 1 us done = (S.ws, S.c0) := by unfold slotP; rw [if_neg (by omega), if_neg (by omega), if_neg (by omega)]
    rw [e3]
    unfold Stt.av nvc at *
    unfold c22
    simp (maxSteps := 1000000) (disch := omega) only [go_sem, Nat.reduceEqDiff, Nat.reduceLT, Nat.reduceAdd, Nat.reduceSub, Nat.reduceMul, Nat.reduceBEq, Int.reduceLT, Int.reduceAdd, Int.reduceMul, Int.reduceSub, Int.reduceToNat, Int.reduceLE, Int.reduceEq, ↓reduceIte, reduceCtorEq, Int.reduceNeg, Nat.reduceLeDiff]
    first | refine callB_intro (g _) ?_ | refine callD_intro (g _) ?_ | refine callP_intro (fun _ => (g _)) ?_ | refine callX_pure (g _) ?_
    simp (maxSteps := 1000000) (disch := omega) only [go_sem, Nat.reduceEqDiff, Nat.reduceLT, Nat.reduceAdd, Nat.reduceSub, Nat.reduceMul, Nat.reduceBEq, Int.reduceLT, Int.reduceAdd, Int.reduceMul, Int.reduceSub, Int.reduceToNat, Int.reduceLE, Int.reduceEq, ↓reduceIte, reduceCtorEq, Int.reduceNeg, Nat.reduceLeDiff,  hb1, hdz]
    refine fin_e (by simp) (by simp (maxSteps := 1000000) (disch := omega) only [resVal, resAll, resOne, rs22, Env.get, go_sem, Nat.reduceEqDiff, Nat.reduceLT, Nat.reduceAdd, Nat.reduceSub, Nat.reduceMul, Nat.reduceBEq, Int.reduceLT, Int.reduceAdd, Int.reduceMul, Int.reduceSub, Int.reduceToNat, Int.reduceLE, Int.reduceEq, ↓reduceIte, reduceCtorEq, Int.reduceNeg, Nat.reduceLeDiff, ] <;> rfl) ⟨_, rfl⟩ ⟨S, rfl, ok0 _, rfl⟩
  by_cases hd1 : done = 1
  · have e3 : slotP (S.ws, S.c0) 1 us done = (S.ws, 0) := by unfold slotP; rw [if_neg (by omega), if_neg (by omega), if_pos hd1]
    rw [e3]
    subst hd1
    unfold Stt.av nvc at *
    unfold c22
    simp (maxSteps := 1000000) (disch := omega) only [go_sem, Nat.reduceEqDiff, Nat.reduceLT, Nat.reduceAdd, Nat.reduceSub, Nat.reduceMul, Nat.reduceBEq, Int.reduceLT, Int.reduceAdd, Int.reduceMul, Int.reduceSub, Int.reduceToNat, Int.reduceLE, Int.reduceEq, ↓reduceIte, reduceCtorEq, Int.reduceNeg, Nat.reduceLeDiff]
    first | refine callB_intro (g _) ?_ | refine callD_intro (g _) ?_ | refine callP_intro (fun _ => (g _)) ?_ | refine callX_pure (g _) ?_
    simp (maxSteps := 1000000) (disch := omega) only [go_sem, Nat.reduceEqDiff, Nat.reduceLT, Nat.reduceAdd, Nat.reduceSub, Nat.reduceMul, Nat.reduceBEq, Int.reduceLT, Int.reduceAdd, Int.reduceMul, Int.reduceSub, Int.reduceToNat, Int.reduceLE, Int.reduceEq, ↓reduceIte, reduceCtorEq, Int.reduceNeg, Nat.reduceLeDiff,  hb1]
    refine fin_e (by simp) (by simp (maxSteps := 1000000) (disch := omega) only [resVal, resAll, resOne, rs22, Env.get, go_sem, Nat.reduceEqDiff, Nat.reduceLT, Nat.reduceAdd, Nat.reduceSub, Nat.reduceMul, Nat.reduceBEq, Int.reduceLT, Int.reduceAdd, Int.reduceMul, Int.reduceSub, Int.reduceToNat, Int.reduceLE, Int.reduceEq, ↓reduceIte, reduceCtorEq, Int.reduceNeg, Nat.reduceLeDiff, ] <;> rfl) ⟨_, rfl⟩ ⟨⟨S.p0, S.o0, S.k0, S.ws, 0, S.p1, S.o1, S.k1, S.vs, S.c1⟩, rfl, ⟨(ok0 _).h0, (ok0 _).h1, l0, l1⟩, rfl⟩
  have hd2 : 1 < done := by omega
  obtain ⟨cu, ou, hq, hle', hcu⟩ := hu
  have hq3 : us.length ≤ 140737488355328 := by omega
  have hq4 : (1 + us.length) * 8 ≤ 140737488355328 := by omega
  have hcu' : (cu.drop oq).take us.length = us.map i64 := hcu
  by_cases hz : us.length = 0
  · have eu : us = [] := List.eq_nil_of_length_eq_zero hz
    subst eu
    have hoq : oq ≤ cu.length := by simpa using hle'
    by_cases hd3 : done < 3
    · have e3 : slotP (S.ws, S.c0) 1 [] done = ([1], 0) := by
        have : (done - 1).toNat = 1 := by omega
        unfold slotP
        rw [if_neg (by simp; omega), if_pos hd2, this]
        rfl
      have hk : (done - 1).toNat = 1 := by omega
      rw [e3]
      unfold Stt.av nvc at *
      unfold c22
      simp (maxSteps := 1000000) (disch := omega) only [go_sem, Nat.reduceEqDiff, Nat.reduceLT, Nat.reduceAdd, Nat.reduceSub, Nat.reduceMul, Nat.reduceBEq, Int.reduceLT, Int.reduceAdd, Int.reduceMul, Int.reduceSub, Int.reduceToNat, Int.reduceLE, Int.reduceEq, ↓reduceIte, reduceCtorEq, Int.reduceNeg, Nat.reduceLeDiff]
      first | refine callB_intro (g _) ?_ | refine callD_intro (g _) ?_ | refine callP_intro (fun _ => (g _)) ?_ | refine callX_pure (g _) ?_
      simp (maxSteps := 1000000) (disch := omega) only [go_sem, Nat.reduceEqDiff, Nat.reduceLT, Nat.reduceAdd, Nat.reduceSub, Nat.reduceMul, Nat.reduceBEq, Int.reduceLT, Int.reduceAdd, Int.reduceMul, Int.reduceSub, Int.reduceToNat, Int.reduceLE, Int.reduceEq, ↓reduceIte, reduceCtorEq, Int.reduceNeg, Nat.reduceLeDiff,  hb1, hdz, hd2, hd3, hq, hul, hoq, hk, blkAt_lo]
      refine ⟨by omega, ?_⟩
      refine fin_e (by simp) (by simp (maxSteps := 1000000) (disch := omega) only [resVal, resAll, resOne, rs22, Env.get, go_sem, Nat.reduceEqDiff, Nat.reduceLT, Nat.reduceAdd, Nat.reduceSub, Nat.reduceMul, Nat.reduceBEq, Int.reduceLT, Int.reduceAdd, Int.reduceMul, Int.reduceSub, Int.reduceToNat, Int.reduceLE, Int.reduceEq, ↓reduceIte, reduceCtorEq, Int.reduceNeg, Nat.reduceLeDiff, ] <;> rfl) ⟨_, rfl⟩ ⟨⟨H.length + 3, 0, some 1, [1], 0, S.p1, S.o1, S.k1, S.vs, S.c1⟩, rfl, ⟨Sl.whole (o := true) (by simp only [go_sem, Nat.reduceEqDiff, Nat.reduceLT, Nat.reduceAdd, Nat.reduceSub, Nat.reduceMul, Nat.reduceBEq, Int.reduceLT, Int.reduceAdd, Int.reduceMul, Int.reduceSub, Int.reduceToNat, Int.reduceLE, Int.reduceEq, ↓reduceIte, reduceCtorEq, Int.reduceNeg, Nat.reduceLeDiff]; rfl), (ok0 _).h1, by simp, l1⟩, rfl⟩
    · have hd3' : 3 ≤ done := by omega
      have e3 : slotP (S.ws, S.c0) 1 [] done = ([1], com [1]) := by
        unfold slotP
        rw [if_pos (by simp; omega)]
      have gC := fun G (h : blkAt (H ++ G) (H.length + 3) = some ⟨[1].map i64, true⟩) => f18 (cp := some 1) (Sl.whole h) (by simp)
      rw [e3]
      generalize hcc : com [1] = cc at *
      unfold Stt.av nvc at *
      unfold c22
      simp (maxSteps := 1000000) (disch := omega) only [go_sem, Nat.reduceEqDiff, Nat.reduceLT, Nat.reduceAdd, Nat.reduceSub, Nat.reduceMul, Nat.reduceBEq, Int.reduceLT, Int.reduceAdd, Int.reduceMul, Int.reduceSub, Int.reduceToNat, Int.reduceLE, Int.reduceEq, ↓reduceIte, reduceCtorEq, Int.reduceNeg, Nat.reduceLeDiff]
      first | refine callB_intro (g _) ?_ | refine callD_intro (g _) ?_ | refine callP_intro (fun _ => (g _)) ?_ | refine callX_pure (g _) ?_
      simp (maxSteps := 1000000) (disch := omega) only [go_sem, Nat.reduceEqDiff, Nat.reduceLT, Nat.reduceAdd, Nat.reduceSub, Nat.reduceMul, Nat.reduceBEq, Int.reduceLT, Int.reduceAdd, Int.reduceMul, Int.reduceSub, Int.reduceToNat, Int.reduceLE, Int.reduceEq, ↓reduceIte, reduceCtorEq, Int.reduceNeg, Nat.reduceLeDiff,  hb1, hdz, hd2, hd3, hq, hul, hoq, blkAt_lo]
      refine callB_intro (gC _ (by simp only [go_sem, Nat.reduceEqDiff, Nat.reduceLT, Nat.reduceAdd, Nat.reduceSub, Nat.reduceMul, Nat.reduceBEq, Int.reduceLT, Int.reduceAdd, Int.reduceMul, Int.reduceSub, Int.reduceToNat, Int.reduceLE, Int.reduceEq, ↓reduceIte, reduceCtorEq, Int.reduceNeg, Nat.reduceLeDiff]; rfl)) ?_
      simp (maxSteps := 1000000) (disch := omega) only [go_sem, Nat.reduceEqDiff, Nat.reduceLT, Nat.reduceAdd, Nat.reduceSub, Nat.reduceMul, Nat.reduceBEq, Int.reduceLT, Int.reduceAdd, Int.reduceMul, Int.reduceSub, Int.reduceToNat, Int.reduceLE, Int.reduceEq, ↓reduceIte, reduceCtorEq, Int.reduceNeg, Nat.reduceLeDiff]
      refine fin_e (by simp) (by simp (maxSteps := 1000000) (disch := omega) only [resVal, resAll, resOne, rs22, Env.get, go_sem, Nat.reduceEqDiff, Nat.reduceLT, Nat.reduceAdd, Nat.reduceSub, Nat.reduceMul, Nat.reduceBEq, Int.reduceLT, Int.reduceAdd, Int.reduceMul, Int.reduceSub, Int.reduceToNat, Int.reduceLE, Int.reduceEq, ↓reduceIte, reduceCtorEq, Int.reduceNeg, Nat.reduceLeDiff, ] <;> rfl) ⟨_, rfl⟩ ⟨⟨H.length + 3, 0, some 1, [1], cc, S.p1, S.o1, S.k1, S.vs, S.c1⟩, rfl, ⟨Sl.whole (o := true) (by simp only [go_sem, Nat.reduceEqDiff, Nat.reduceLT, Nat.reduceAdd, Nat.reduceSub, Nat.reduceMul, Nat.reduceBEq, Int.reduceLT, Int.reduceAdd, Int.reduceMul, Int.reduceSub, Int.reduceToNat, Int.reduceLE, Int.reduceEq, ↓reduceIte, reduceCtorEq, Int.reduceNeg, Nat.reduceLeDiff]; rfl), (ok0 _).h1, by simp, l1⟩, rfl⟩
  · have hz2 : 1 < 1 + us.length := by omega
    have nl : (1 : Nat) + us.length = (1 :: us).length := by rw [List.length_cons]; omega
    have nm : (1 :: us).map i64 = AV.int .i64 1 :: us.map i64 := rfl
    by_cases hd3 : done < 3 + (us.length : Int)
    · have hk1 : (done - 1).toNat ≤ 1 + us.length := by omega
      have hk2 : done - 1 ≤ 1 + (us.length : Int) := by omega
      have hk3 : ((1 :: us).take (done - 1).toNat).length = (done - 1).toNat := by rw [List.length_take, List.length_cons]; omega
      have e3 : slotP (S.ws, S.c0) 1 us done = ((1 :: us).take (done - 1).toNat, 0) := by
        unfold slotP
        rw [if_neg (by omega), if_pos hd2]
      rw [e3]
      unfold Stt.av nvc at *
      unfold c22
      simp (maxSteps := 1000000) (disch := omega) only [go_sem, Nat.reduceEqDiff, Nat.reduceLT, Nat.reduceAdd, Nat.reduceSub, Nat.reduceMul, Nat.reduceBEq, Int.reduceLT, Int.reduceAdd, Int.reduceMul, Int.reduceSub, Int.reduceToNat, Int.reduceLE, Int.reduceEq, ↓reduceIte, reduceCtorEq, Int.reduceNeg, Nat.reduceLeDiff]
      first | refine callB_intro (g _) ?_ | refine callD_intro (g _) ?_ | refine callP_intro (fun _ => (g _)) ?_ | refine callX_pure (g _) ?_
      simp (maxSteps := 1000000) (disch := omega) only [go_sem, Nat.reduceEqDiff, Nat.reduceLT, Nat.reduceAdd, Nat.reduceSub, Nat.reduceMul, Nat.reduceBEq, Int.reduceLT, Int.reduceAdd, Int.reduceMul, Int.reduceSub, Int.reduceToNat, Int.reduceLE, Int.reduceEq, ↓reduceIte, reduceCtorEq, Int.reduceNeg, Nat.reduceLeDiff,  hb1, hdz, hd2, hd3, hq, hul, hq3, hq4, hle', hcu', hz, hz2, hk1, hk2, blkAt_lo]
      refine ⟨by omega, ?_⟩
      generalize (done - 1).toNat = d at *
      refine fin_e (by simp) (by simp (maxSteps := 1000000) (disch := omega) only [resVal, resAll, resOne, rs22, Env.get, go_sem, Nat.reduceEqDiff, Nat.reduceLT, Nat.reduceAdd, Nat.reduceSub, Nat.reduceMul, Nat.reduceBEq, Int.reduceLT, Int.reduceAdd, Int.reduceMul, Int.reduceSub, Int.reduceToNat, Int.reduceLE, Int.reduceEq, ↓reduceIte, reduceCtorEq, Int.reduceNeg, Nat.reduceLeDiff, ] <;> rfl) ⟨_, rfl⟩ ⟨⟨H.length + 4, 0, none, (1 :: us).take d, 0, S.p1, S.o1, S.k1, S.vs, S.c1⟩, by simp only [hk3], ⟨(Sl.whole (o := true) (zs := 1 :: us) (by simp only [go_sem, Nat.reduceEqDiff, Nat.reduceLT, Nat.reduceAdd, Nat.reduceSub, Nat.reduceMul, Nat.reduceBEq, Int.reduceLT, Int.reduceAdd, Int.reduceMul, Int.reduceSub, Int.reduceToNat, Int.reduceLE, Int.reduceEq, ↓reduceIte, reduceCtorEq, Int.reduceNeg, Nat.reduceLeDiff]; rfl)).take d, (ok0 _).h1, Nat.le_trans (Nat.le_of_eq hk3) (by omega), l1⟩, rfl⟩
    · have e3 : slotP (S.ws, S.c0) 1 us done = (1 :: us, com (1 :: us)) := by
        unfold slotP
        rw [if_pos (by omega)]
      have gC := fun G (h : blkAt (H ++ G) (H.length + 4) = some ⟨(1 :: us).map i64, true⟩) => f18 (cp := none) (Sl.whole h) (by rw [List.length_cons]; omega)
      rw [← nl] at gC
      rw [e3]
      generalize hcc : com (1 :: us) = cc at *
      unfold Stt.av nvc at *
      unfold c22
      simp (maxSteps := 1000000) (disch := omega) only [go_sem, Nat.reduceEqDiff, Nat.reduceLT, Nat.reduceAdd, Nat.reduceSub, Nat.reduceMul, Nat.reduceBEq, Int.reduceLT, Int.reduceAdd, Int.reduceMul, Int.reduceSub, Int.reduceToNat, Int.reduceLE, Int.reduceEq, ↓reduceIte, reduceCtorEq, Int.reduceNeg, Nat.reduceLeDiff]
      first | refine callB_intro (g _) ?_ | refine callD_intro (g _) ?_ | refine callP_intro (fun _ => (g _)) ?_ | refine callX_pure (g _) ?_
      simp (maxSteps := 1000000) (disch := omega) only [go_sem, Nat.reduceEqDiff, Nat.reduceLT, Nat.reduceAdd, Nat.reduceSub, Nat.reduceMul, Nat.reduceBEq, Int.reduceLT, Int.reduceAdd, Int.reduceMul, Int.reduceSub, Int.reduceToNat, Int.reduceLE, Int.reduceEq, ↓reduceIte, reduceCtorEq, Int.reduceNeg, Nat.reduceLeDiff,  hb1, hdz, hd2, hd3, hq, hul, hq3, hq4, hle', hcu', hz, hz2, blkAt_lo]
      refine callB_intro (gC _ (by simp only [go_sem, Nat.reduceEqDiff, Nat.reduceLT, Nat.reduceAdd, Nat.reduceSub, Nat.reduceMul, Nat.reduceBEq, Int.reduceLT, Int.reduceAdd, Int.reduceMul, Int.reduceSub, Int.reduceToNat, Int.reduceLE, Int.reduceEq, ↓reduceIte, reduceCtorEq, Int.reduceNeg, Nat.reduceLeDiff]; rfl)) ?_
      simp (maxSteps := 1000000) (disch := omega) only [go_sem, Nat.reduceEqDiff, Nat.reduceLT, Nat.reduceAdd, Nat.reduceSub, Nat.reduceMul, Nat.reduceBEq, Int.reduceLT, Int.reduceAdd, Int.reduceMul, Int.reduceSub, Int.reduceToNat, Int.reduceLE, Int.reduceEq, ↓reduceIte, reduceCtorEq, Int.reduceNeg, Nat.reduceLeDiff]
      refine fin_e (by simp) (by simp (maxSteps := 1000000) (disch := omega) only [resVal, resAll, resOne, rs22, Env.get, go_sem, Nat.reduceEqDiff, Nat.reduceLT, Nat.reduceAdd, Nat.reduceSub, Nat.reduceMul, Nat.reduceBEq, Int.reduceLT, Int.reduceAdd, Int.reduceMul, Int.reduceSub, Int.reduceToNat, Int.reduceLE, Int.reduceEq, ↓reduceIte, reduceCtorEq, Int.reduceNeg, Nat.reduceLeDiff, ] <;> rfl) ⟨_, rfl⟩ ⟨⟨H.length + 4, 0, none, 1 :: us, cc, S.p1, S.o1, S.k1, S.vs, S.c1⟩, by simp only [← nl], ⟨Sl.whole (o := true) (by simp only [go_sem, Nat.reduceEqDiff, Nat.reduceLT, Nat.reduceAdd, Nat.reduceSub, Nat.reduceMul, Nat.reduceBEq, Int.reduceLT, Int.reduceAdd, Int.reduceMul, Int.reduceSub, Int.reduceToNat, Int.reduceLE, Int.reduceEq, ↓reduceIte, reduceCtorEq, Int.reduceNeg, Nat.reduceLeDiff]; rfl), (ok0 _).h1, Nat.le_trans (Nat.le_of_eq nl.symm) (by omega), l1⟩, rfl⟩
theorem f22_0 {S : Stt} {us : List Int} {q oq : Nat} {kq : Option Nat} {done : Int} {H : Heap} (h : S.ok H) (hu : Sl i64 H q oq us) (lu : us.length ≤ 1000) (en : nwP S.pu = 0) (a : wh S.ws S.c0 = true) :
    ACallE Try.prog 22 [.agg S.av, .sl q oq us.length 1 kq, .int .i64 done] H (Torn S us done) := by
  refine acallE (fun v Hf h => acallK22 (by simp) h) (acs_start ?_)
  have g := fun G => f30 (h.app G)
  have ok0 := fun G => h.app G
  obtain ⟨h0, h1, l0, l1⟩ := h
  have hpl := h0.lt
  have hql := h1.lt
  have hul := hu.lt
  have er : nwr (0) = 0 := rfl
  rw [en, er] at g
  unfold Torn
  have el : lastP S.pu = hd0 S.ws := by unfold lastP; rw [if_neg (by omega), if_pos (by omega)]; rfl
  have hn := wh_pos a
  have hh := wh_hd a
  have hpl0 := hpl
  obtain ⟨cs, o, hp, hle, hcs⟩ := h0
  have fx : cs[S.o0]? = some (.int .i64 (hd0 S.ws)) := by have := sl_get hcs (j := 0) (hd0_get hn); rwa [Nat.add_zero] at this
  have n0 : (0 : Int) < (S.ws.length : Int) := by omega
  clear hcs hle
  by_cases hb : 600 < us.length
  · have hb1 : (600 : Int) < (us.length : Int) := by omega
    have e1 : errP S.pu us = 5 := by unfold errP; rw [if_pos (.inl hb)]
    have e2 : tornP S.pu us done = S.pu := by unfold tornP; rw [if_pos (.inl hb)]
    rw [e1, e2]
    unfold Stt.av nvc at *
    unfold c22
    simp (maxSteps := 1000000) (disch := omega) only [go_sem, Nat.reduceEqDiff, Nat.reduceLT, Nat.reduceAdd, Nat.reduceSub, Nat.reduceMul, Nat.reduceBEq, Int.reduceLT, Int.reduceAdd, Int.reduceMul, Int.reduceSub, Int.reduceToNat, Int.reduceLE, Int.reduceEq, ↓reduceIte, reduceCtorEq, Int.reduceNeg, Nat.reduceLeDiff]
    first | refine callB_intro (g _) ?_ | refine callD_intro (g _) ?_ | refine callP_intro (fun _ => (g _)) ?_ | refine callX_pure (g _) ?_
    simp (maxSteps := 1000000) (disch := omega) only [go_sem, Nat.reduceEqDiff, Nat.reduceLT, Nat.reduceAdd, Nat.reduceSub, Nat.reduceMul, Nat.reduceBEq, Int.reduceLT, Int.reduceAdd, Int.reduceMul, Int.reduceSub, Int.reduceToNat, Int.reduceLE, Int.reduceEq, ↓reduceIte, reduceCtorEq, Int.reduceNeg, Nat.reduceLeDiff,  blkAt_lo, hpl, hql, hp, fx, n0, hb1]
    refine fin_e (by simp) (by simp (maxSteps := 1000000) (disch := omega) only [resVal, resAll, resOne, rs22, Env.get, go_sem, Nat.reduceEqDiff, Nat.reduceLT, Nat.reduceAdd, Nat.reduceSub, Nat.reduceMul, Nat.reduceBEq, Int.reduceLT, Int.reduceAdd, Int.reduceMul, Int.reduceSub, Int.reduceToNat, Int.reduceLE, Int.reduceEq, ↓reduceIte, reduceCtorEq, Int.reduceNeg, Nat.reduceLeDiff, ] <;> rfl) ⟨_, rfl⟩ ⟨S, rfl, ok0 _, rfl⟩
  have hb1 : ¬ (600 : Int) < (us.length : Int) := by omega
  by_cases hf : hd0 S.ws = 4611686018427387904
  · have e1 : errP S.pu us = 5 := by unfold errP; rw [el, if_pos (.inr hf)]
    have e2 : tornP S.pu us done = S.pu := by unfold tornP; rw [el, if_pos (.inr hf)]
    rw [e1, e2]
    unfold Stt.av nvc at *
    unfold c22
    simp (maxSteps := 1000000) (disch := omega) only [go_sem, Nat.reduceEqDiff, Nat.reduceLT, Nat.reduceAdd, Nat.reduceSub, Nat.reduceMul, Nat.reduceBEq, Int.reduceLT, Int.reduceAdd, Int.reduceMul, Int.reduceSub, Int.reduceToNat, Int.reduceLE, Int.reduceEq, ↓reduceIte, reduceCtorEq, Int.reduceNeg, Nat.reduceLeDiff]
    first | refine callB_intro (g _) ?_ | refine callD_intro (g _) ?_ | refine callP_intro (fun _ => (g _)) ?_ | refine callX_pure (g _) ?_
    simp (maxSteps := 1000000) (disch := omega) only [go_sem, Nat.reduceEqDiff, Nat.reduceLT, Nat.reduceAdd, Nat.reduceSub, Nat.reduceMul, Nat.reduceBEq, Int.reduceLT, Int.reduceAdd, Int.reduceMul, Int.reduceSub, Int.reduceToNat, Int.reduceLE, Int.reduceEq, ↓reduceIte, reduceCtorEq, Int.reduceNeg, Nat.reduceLeDiff,  blkAt_lo, hpl, hql, hp, fx, n0, hb1, hf]
    refine fin_e (by simp) (by simp (maxSteps := 1000000) (disch := omega) only [resVal, resAll, resOne, rs22, Env.get, go_sem, Nat.reduceEqDiff, Nat.reduceLT, Nat.reduceAdd, Nat.reduceSub, Nat.reduceMul, Nat.reduceBEq, Int.reduceLT, Int.reduceAdd, Int.reduceMul, Int.reduceSub, Int.reduceToNat, Int.reduceLE, Int.reduceEq, ↓reduceIte, reduceCtorEq, Int.reduceNeg, Nat.reduceLeDiff, ] <;> rfl) ⟨_, rfl⟩ ⟨S, rfl, ok0 _, rfl⟩
  have e1 : errP S.pu us = 0 := by unfold errP; rw [el, if_neg (by omega)]
  have e2 : tornP S.pu us done = ((S.ws, S.c0), slotP (S.vs, S.c1) (hd0 S.ws + 1) us done) := by unfold tornP; rw [el, if_neg (by omega), if_pos en]; rfl
  rw [e1, e2]
  by_cases hdz : done ≤ 0
  · have e3 : slotP (S.vs, S.c1) (hd0 S.ws + 1) us done = (S.vs, S.c1) := by unfold slotP; rw [if_neg (by omega), if_neg (by omega), if_neg (by omega)]
    rw [e3]
    unfold Stt.av nvc at *
    unfold c22
    simp (maxSteps := 1000000) (disch := omega) only [go_sem, Nat.reduceEqDiff, Nat.reduceLT, Nat.reduceAdd, Nat.reduceSub, Nat.reduceMul, Nat.reduceBEq, Int.reduceLT, Int.reduceAdd, Int.reduceMul, Int.reduceSub, Int.reduceToNat, Int.reduceLE, Int.reduceEq, ↓reduceIte, reduceCtorEq, Int.reduceNeg, Nat.reduceLeDiff]
    first | refine callB_intro (g _) ?_ | refine callD_intro (g _) ?_ | refine callP_intro (fun _ => (g _)) ?_ | refine callX_pure (g _) ?_
    simp (maxSteps := 1000000) (disch := omega) only [go_sem, Nat.reduceEqDiff, Nat.reduceLT, Nat.reduceAdd, Nat.reduceSub, Nat.reduceMul, Nat.reduceBEq, Int.reduceLT, Int.reduceAdd, Int.reduceMul, Int.reduceSub, Int.reduceToNat, Int.reduceLE, Int.reduceEq, ↓reduceIte, reduceCtorEq, Int.reduceNeg, Nat.reduceLeDiff,  blkAt_lo, hpl, hql, hp, fx, n0, hf, hb1, hdz]
    refine fin_e (by simp) (by simp (maxSteps := 1000000) (disch := omega) only [resVal, resAll, resOne, rs22, Env.get, go_sem, Nat.reduceEqDiff, Nat.reduceLT, Nat.reduceAdd, Nat.reduceSub, Nat.reduceMul, Nat.reduceBEq, Int.reduceLT, Int.reduceAdd, Int.reduceMul, Int.reduceSub, Int.reduceToNat, Int.reduceLE, Int.reduceEq, ↓reduceIte, reduceCtorEq, Int.reduceNeg, Nat.reduceLeDiff, ] <;> rfl) ⟨_, rfl⟩ ⟨S, rfl, ok0 _, rfl⟩
  by_cases hd1 : done = 1
  · have e3 : slotP (S.vs, S.c1) (hd0 S.ws + 1) us done = (S.vs, 0) := by unfold slotP; rw [if_neg (by omega), if_neg (by omega), if_pos hd1]
    rw [e3]
    subst hd1
    unfold Stt.av nvc at *
    unfold c22
    simp (maxSteps := 1000000) (disch := omega) only [go_sem, Nat.reduceEqDiff, Nat.reduceLT, Nat.reduceAdd, Nat.reduceSub, Nat.reduceMul, Nat.reduceBEq, Int.reduceLT, Int.reduceAdd, Int.reduceMul, Int.reduceSub, Int.reduceToNat, Int.reduceLE, Int.reduceEq, ↓reduceIte, reduceCtorEq, Int.reduceNeg, Nat.reduceLeDiff]
    first | refine callB_intro (g _) ?_ | refine callD_intro (g _) ?_ | refine callP_intro (fun _ => (g _)) ?_ | refine callX_pure (g _) ?_
    simp (maxSteps := 1000000) (disch := omega) only [go_sem, Nat.reduceEqDiff, Nat.reduceLT, Nat.reduceAdd, Nat.reduceSub, Nat.reduceMul, Nat.reduceBEq, Int.reduceLT, Int.reduceAdd, Int.reduceMul, Int.reduceSub, Int.reduceToNat, Int.reduceLE, Int.reduceEq, ↓reduceIte, reduceCtorEq, Int.reduceNeg, Nat.reduceLeDiff,  blkAt_lo, hpl, hql, hp, fx, n0, hf, hb1]
    refine fin_e (by simp) (by simp (maxSteps := 1000000) (disch := omega) only [resVal, resAll, resOne, rs22, Env.get, go_sem, Nat.reduceEqDiff, Nat.reduceLT, Nat.reduceAdd, Nat.reduceSub, Nat.reduceMul, Nat.reduceBEq, Int.reduceLT, Int.reduceAdd, Int.reduceMul, Int.reduceSub, Int.reduceToNat, Int.reduceLE, Int.reduceEq, ↓reduceIte, reduceCtorEq, Int.reduceNeg, Nat.reduceLeDiff, ] <;> rfl) ⟨_, rfl⟩ ⟨⟨S.p0, S.o0, S.k0, S.ws, S.c0, S.p1, S.o1, S.k1, S.vs, 0⟩, rfl, ⟨(ok0 _).h0, (ok0 _).h1, l0, l1⟩, rfl⟩
  have hlo : 0 ≤ hd0 S.ws := hh.1
  have hhi : hd0 S.ws < 4611686018427387904 := by omega
  clear hh hn a el
  generalize hd0 S.ws = w at *
  have hd2 : 1 < done := by omega
  obtain ⟨cu, ou, hq, hle', hcu⟩ := hu
  have hq3 : us.length ≤ 140737488355328 := by omega
  have hq4 : (1 + us.length) * 8 ≤ 140737488355328 := by omega
  have hcu' : (cu.drop oq).take us.length = us.map i64 := hcu
  by_cases hz : us.length = 0
  · have eu : us = [] := List.eq_nil_of_length_eq_zero hz
    subst eu
    have hoq : oq ≤ cu.length := by simpa using hle'
    by_cases hd3 : done < 3
    · have e3 : slotP (S.vs, S.c1) (w + 1) [] done = ([(w + 1)], 0) := by
        have : (done - 1).toNat = 1 := by omega
        unfold slotP
        rw [if_neg (by simp; omega), if_pos hd2, this]
        rfl
      have hk : (done - 1).toNat = 1 := by omega
      rw [e3]
      unfold Stt.av nvc at *
      unfold c22
      simp (maxSteps := 1000000) (disch := omega) only [go_sem, Nat.reduceEqDiff, Nat.reduceLT, Nat.reduceAdd, Nat.reduceSub, Nat.reduceMul, Nat.reduceBEq, Int.reduceLT, Int.reduceAdd, Int.reduceMul, Int.reduceSub, Int.reduceToNat, Int.reduceLE, Int.reduceEq, ↓reduceIte, reduceCtorEq, Int.reduceNeg, Nat.reduceLeDiff]
      first | refine callB_intro (g _) ?_ | refine callD_intro (g _) ?_ | refine callP_intro (fun _ => (g _)) ?_ | refine callX_pure (g _) ?_
      simp (maxSteps := 1000000) (disch := omega) only [go_sem, Nat.reduceEqDiff, Nat.reduceLT, Nat.reduceAdd, Nat.reduceSub, Nat.reduceMul, Nat.reduceBEq, Int.reduceLT, Int.reduceAdd, Int.reduceMul, Int.reduceSub, Int.reduceToNat, Int.reduceLE, Int.reduceEq, ↓reduceIte, reduceCtorEq, Int.reduceNeg, Nat.reduceLeDiff,  blkAt_lo, hpl, hql, hp, fx, n0, hf, hb1, hdz, hd2, hd3, hq, hul, hoq, hk, blkAt_lo]
      refine ⟨by omega, ?_⟩
      refine fin_e (by simp) (by simp (maxSteps := 1000000) (disch := omega) only [resVal, resAll, resOne, rs22, Env.get, go_sem, Nat.reduceEqDiff, Nat.reduceLT, Nat.reduceAdd, Nat.reduceSub, Nat.reduceMul, Nat.reduceBEq, Int.reduceLT, Int.reduceAdd, Int.reduceMul, Int.reduceSub, Int.reduceToNat, Int.reduceLE, Int.reduceEq, ↓reduceIte, reduceCtorEq, Int.reduceNeg, Nat.reduceLeDiff, ] <;> rfl) ⟨_, rfl⟩ ⟨⟨S.p0, S.o0, S.k0, S.ws, S.c0, H.length + 3, 0, some 1, [(w + 1)], 0⟩, rfl, ⟨(ok0 _).h0, Sl.whole (o := true) (by simp only [go_sem, Nat.reduceEqDiff, Nat.reduceLT, Nat.reduceAdd, Nat.reduceSub, Nat.reduceMul, Nat.reduceBEq, Int.reduceLT, Int.reduceAdd, Int.reduceMul, Int.reduceSub, Int.reduceToNat, Int.reduceLE, Int.reduceEq, ↓reduceIte, reduceCtorEq, Int.reduceNeg, Nat.reduceLeDiff]; rfl), l0, by simp⟩, rfl⟩
    · have hd3' : 3 ≤ done := by omega
      have e3 : slotP (S.vs, S.c1) (w + 1) [] done = ([(w + 1)], com [(w + 1)]) := by
        unfold slotP
        rw [if_pos (by simp; omega)]
      have gC := fun G (h : blkAt (H ++ G) (H.length + 3) = some ⟨[(w + 1)].map i64, true⟩) => f18 (cp := some 1) (Sl.whole h) (by simp)
      rw [e3]
      generalize hcc : com [(w + 1)] = cc at *
      unfold Stt.av nvc at *
      unfold c22
      simp (maxSteps := 1000000) (disch := omega) only [go_sem, Nat.reduceEqDiff, Nat.reduceLT, Nat.reduceAdd, Nat.reduceSub, Nat.reduceMul, Nat.reduceBEq, Int.reduceLT, Int.reduceAdd, Int.reduceMul, Int.reduceSub, Int.reduceToNat, Int.reduceLE, Int.reduceEq, ↓reduceIte, reduceCtorEq, Int.reduceNeg, Nat.reduceLeDiff]
      first | refine callB_intro (g _) ?_ | refine callD_intro (g _) ?_ | refine callP_intro (fun _ => (g _)) ?_ | refine callX_pure (g _) ?_
      simp (maxSteps := 1000000) (disch := omega) only [go_sem, Nat.reduceEqDiff, Nat.reduceLT, Nat.reduceAdd, Nat.reduceSub, Nat.reduceMul, Nat.reduceBEq, Int.reduceLT, Int.reduceAdd, Int.reduceMul, Int.reduceSub, Int.reduceToNat, Int.reduceLE, Int.reduceEq, ↓reduceIte, reduceCtorEq, Int.reduceNeg, Nat.reduceLeDiff,  blkAt_lo, hpl, hql, hp, fx, n0, hf, hb1, hdz, hd2, hd3, hq, hul, hoq, blkAt_lo]
      refine callB_intro (gC _ (by simp only [go_sem, Nat.reduceEqDiff, Nat.reduceLT, Nat.reduceAdd, Nat.reduceSub, Nat.reduceMul, Nat.reduceBEq, Int.reduceLT, Int.reduceAdd, Int.reduceMul, Int.reduceSub, Int.reduceToNat, Int.reduceLE, Int.reduceEq, ↓reduceIte, reduceCtorEq, Int.reduceNeg, Nat.reduceLeDiff]; rfl)) ?_
      simp (maxSteps := 1000000) (disch := omega) only [go_sem, Nat.reduceEqDiff, Nat.reduceLT, Nat.reduceAdd, Nat.reduceSub, Nat.reduceMul, Nat.reduceBEq, Int.reduceLT, Int.reduceAdd, Int.reduceMul, Int.reduceSub, Int.reduceToNat, Int.reduceLE, Int.reduceEq, ↓reduceIte, reduceCtorEq, Int.reduceNeg, Nat.reduceLeDiff]
      refine fin_e (by simp) (by simp (maxSteps := 1000000) (disch := omega) only [resVal, resAll, resOne, rs22, Env.get, go_sem, Nat.reduceEqDiff, Nat.reduceLT, Nat.reduceAdd, Nat.reduceSub, Nat.reduceMul, Nat.reduceBEq, Int.reduceLT, Int.reduceAdd, Int.reduceMul, Int.reduceSub, Int.reduceToNat, Int.reduceLE, Int.reduceEq, ↓reduceIte, reduceCtorEq, Int.reduceNeg, Nat.reduceLeDiff, ] <;> rfl) ⟨_, rfl⟩ ⟨⟨S.p0, S.o0, S.k0, S.ws, S.c0, H.length + 3, 0, some 1, [(w + 1)], cc⟩, rfl, ⟨(ok0 _).h0, Sl.whole (o := true) (by simp only [go_sem, Nat.reduceEqDiff, Nat.reduceLT, Nat.reduceAdd, Nat.reduceSub, Nat.reduceMul, Nat.reduceBEq, Int.reduceLT, Int.reduceAdd, Int.reduceMul, Int.reduceSub, Int.reduceToNat, Int.reduceLE, Int.reduceEq, ↓reduceIte, reduceCtorEq, Int.reduceNeg, Nat.reduceLeDiff]; rfl), l0, by simp⟩, rfl⟩
  · have hz2 : 1 < 1 + us.length := by omega
    have nl : (1 : Nat) + us.length = ((w + 1) :: us).length := by rw [List.length_cons]; omega
    have nm : ((w + 1) :: us).map i64 = AV.int .i64 (w + 1) :: us.map i64 := rfl
    by_cases hd3 : done < 3 + (us.length : Int)
    · have hk1 : (done - 1).toNat ≤ 1 + us.length := by omega
      have hk2 : done - 1 ≤ 1 + (us.length : Int) := by omega
      have hk3 : (((w + 1) :: us).take (done - 1).toNat).length = (done - 1).toNat := by rw [List.length_take, List.length_cons]; omega
      have e3 : slotP (S.vs, S.c1) (w + 1) us done = (((w + 1) :: us).take (done - 1).toNat, 0) := by
        unfold slotP
        rw [if_neg (by omega), if_pos hd2]
      rw [e3]
      unfold Stt.av nvc at *
      unfold c22
      simp (maxSteps := 1000000) (disch := omega) only [go_sem, Nat.reduceEqDiff, Nat.reduceLT, Nat.reduceAdd, Nat.reduceSub, Nat.reduceMul, Nat.reduceBEq, Int.reduceLT, Int.reduceAdd, Int.reduceMul, Int.reduceSub, Int.reduceToNat, Int.reduceLE, Int.reduceEq, ↓reduceIte, reduceCtorEq, Int.reduceNeg, Nat.reduceLeDiff]
      first | refine callB_intro (g _) ?_ | refine callD_intro (g _) ?_ | refine callP_intro (fun _ => (g _)) ?_ | refine callX_pure (g _) ?_
      simp (maxSteps := 1000000) (disch := omega) only [go_sem, Nat.reduceEqDiff, Nat.reduceLT, Nat.reduceAdd, Nat.reduceSub, Nat.reduceMul, Nat.reduceBEq, Int.reduceLT, Int.reduceAdd, Int.reduceMul, Int.reduceSub, Int.reduceToNat, Int.reduceLE, Int.reduceEq, ↓reduceIte, reduceCtorEq, Int.reduceNeg, Nat.reduceLeDiff,  blkAt_lo, hpl, hql, hp, fx, n0, hf, hb1, hdz, hd2, hd3, hq, hul, hq3, hq4, hle', hcu', hz, hz2, hk1, hk2, blkAt_lo]
      refine ⟨by omega, ?_⟩
      generalize (done - 1).toNat = d at *
      refine fin_e (by simp) (by simp (maxSteps := 1000000) (disch := omega) only [resVal, resAll, resOne, rs22, Env.get, go_sem, Nat.reduceEqDiff, Nat.reduceLT, Nat.reduceAdd, Nat.reduceSub, Nat.reduceMul, Nat.reduceBEq, Int.reduceLT, Int.reduceAdd, Int.reduceMul, Int.reduceSub, Int.reduceToNat, Int.reduceLE, Int.reduceEq, ↓reduceIte, reduceCtorEq, Int.reduceNeg, Nat.reduceLeDiff, ] <;> rfl) ⟨_, rfl⟩ ⟨⟨S.p0, S.o0, S.k0, S.ws, S.c0, H.length + 4, 0, none, ((w + 1) :: us).take d, 0⟩, by simp only [hk3], ⟨(ok0 _).h0, (Sl.whole (o := true) (zs := (w + 1) :: us) (by simp only [go_sem, Nat.reduceEqDiff, Nat.reduceLT, Nat.reduceAdd, Nat.reduceSub, Nat.reduceMul, Nat.reduceBEq, Int.reduceLT, Int.reduceAdd, Int.reduceMul, Int.reduceSub, Int.reduceToNat, Int.reduceLE, Int.reduceEq, ↓reduceIte, reduceCtorEq, Int.reduceNeg, Nat.reduceLeDiff]; rfl)).take d, l0, Nat.le_trans (Nat.le_of_eq hk3) (by omega)⟩, rfl⟩
    · have e3 : slotP (S.vs, S.c1) (w + 1) us done = ((w + 1) :: us, com ((w + 1) :: us)) := by
        unfold slotP
        rw [if_pos (by omega)]
      have gC := fun G (h : blkAt (H ++ G) (H.length + 4) = some ⟨((w + 1) :: us).map i64, true⟩) => f18 (cp := none) (Sl.whole h) (by rw [List.length_cons]; omega)
      rw [← nl] at gC
      rw [e3]
      generalize hcc : com ((w + 1) :: us) = cc at *
      unfold Stt.av nvc at *
      unfold c22
      simp (maxSteps := 1000000) (disch := omega) only [go_sem, Nat.reduceEqDiff, Nat.reduceLT, Nat.reduceAdd, Nat.reduceSub, Nat.reduceMul, Nat.reduceBEq, Int.reduceLT, Int.reduceAdd, Int.reduceMul, Int.reduceSub, Int.reduceToNat, Int.reduceLE, Int.reduceEq, ↓reduceIte, reduceCtorEq, Int.reduceNeg, Nat.reduceLeDiff]
      first | refine callB_intro (g _) ?_ | refine callD_intro (g _) ?_ | refine callP_intro (fun _ => (g _)) ?_ | refine callX_pure (g _) ?_
      simp (maxSteps := 1000000) (disch := omega) only [go_sem, Nat.reduceEqDiff, Nat.reduceLT, Nat.reduceAdd, Nat.reduceSub, Nat.reduceMul, Nat.reduceBEq, Int.reduceLT, Int.reduceAdd, Int.reduceMul, Int.reduceSub, Int.reduceToNat, Int.reduceLE, Int.reduceEq, ↓reduceIte, reduceCtorEq, Int.reduceNeg, Nat.reduceLeDiff,  blkAt_lo, hpl, hql, hp, fx, n0, hf, hb1, hdz, hd2, hd3, hq, hul, hq3, hq4, hle', hcu', hz, hz2, blkAt_lo]
      refine callB_intro (gC _ (by simp only [go_sem, Nat.reduceEqDiff, Nat.reduceLT, Nat.reduceAdd, Nat.reduceSub, Nat.reduceMul, Nat.reduceBEq, Int.reduceLT, Int.reduceAdd, Int.reduceMul, Int.reduceSub, Int.reduceToNat, Int.reduceLE, Int.reduceEq, ↓reduceIte, reduceCtorEq, Int.reduceNeg, Nat.reduceLeDiff]; rfl)) ?_
      simp (maxSteps := 1000000) (disch := omega) only [go_sem, Nat.reduceEqDiff, Nat.reduceLT, Nat.reduceAdd, Nat.reduceSub, Nat.reduceMul, Nat.reduceBEq, Int.reduceLT, Int.reduceAdd, Int.reduceMul, Int.reduceSub, Int.reduceToNat, Int.reduceLE, Int.reduceEq, ↓reduceIte, reduceCtorEq, Int.reduceNeg, Nat.reduceLeDiff]
      refine fin_e (by simp) (by simp (maxSteps := 1000000) (disch := omega) only [resVal, resAll, resOne, rs22, Env.get, go_sem, Nat.reduceEqDiff, Nat.reduceLT, Nat.reduceAdd, Nat.reduceSub, Nat.reduceMul, Nat.reduceBEq, Int.reduceLT, Int.reduceAdd, Int.reduceMul, Int.reduceSub, Int.reduceToNat, Int.reduceLE, Int.reduceEq, ↓reduceIte, reduceCtorEq, Int.reduceNeg, Nat.reduceLeDiff, ] <;> rfl) ⟨_, rfl⟩ ⟨⟨S.p0, S.o0, S.k0, S.ws, S.c0, H.length + 4, 0, none, (w + 1) :: us, cc⟩, by simp only [← nl], ⟨(ok0 _).h0, Sl.whole (o := true) (by simp only [go_sem, Nat.reduceEqDiff, Nat.reduceLT, Nat.reduceAdd, Nat.reduceSub, Nat.reduceMul, Nat.reduceBEq, Int.reduceLT, Int.reduceAdd, Int.reduceMul, Int.reduceSub, Int.reduceToNat, Int.reduceLE, Int.reduceEq, ↓reduceIte, reduceCtorEq, Int.reduceNeg, Nat.reduceLeDiff]; rfl), l0, Nat.le_trans (Nat.le_of_eq nl.symm) (by omega)⟩, rfl⟩
theorem f22_1 {S : Stt} {us : List Int} {q oq : Nat} {kq : Option Nat} {done : Int} {H : Heap} (h : S.ok H) (hu : Sl i64 H q oq us) (lu : us.length ≤ 1000) (en : nwP S.pu = 1) (a : wh S.vs S.c1 = true) :
    ACallE Try.prog 22 [.agg S.av, .sl q oq us.length 1 kq, .int .i64 done] H (Torn S us done) := by
  refine acallE (fun v Hf h => acallK22 (by simp) h) (acs_start ?_)
  have g := fun G => f30 (h.app G)
  have ok0 := fun G => h.app G
  obtain ⟨h0, h1, l0, l1⟩ := h
  have hpl := h0.lt
  have hql := h1.lt
  have hul := hu.lt
  have er : nwr (1) = 1 := rfl
  rw [en, er] at g
  unfold Torn
  have el : lastP S.pu = hd0 S.vs := by unfold lastP; rw [if_neg (by omega), if_neg (by omega)]; rfl
  have hn := wh_pos a
  have hh := wh_hd a
  have hpl1 := hpl
  obtain ⟨cs, o, hp, hle, hcs⟩ := h1
  have fx : cs[S.o1]? = some (.int .i64 (hd0 S.vs)) := by have := sl_get hcs (j := 0) (hd0_get hn); rwa [Nat.add_zero] at this
  have n0 : (0 : Int) < (S.vs.length : Int) := by omega
  clear hcs hle
  by_cases hb : 600 < us.length
  · have hb1 : (600 : Int) < (us.length : Int) := by omega
    have e1 : errP S.pu us = 5 := by unfold errP; rw [if_pos (.inl hb)]
    have e2 : tornP S.pu us done = S.pu := by unfold tornP; rw [if_pos (.inl hb)]
    rw [e1, e2]
    unfold Stt.av nvc at *
    unfold c22
    simp (maxSteps := 1000000) (disch := omega) only [go_sem, Nat.reduceEqDiff, Nat.reduceLT, Nat.reduceAdd, Nat.reduceSub, Nat.reduceMul, Nat.reduceBEq, Int.reduceLT, Int.reduceAdd, Int.reduceMul, Int.reduceSub, Int.reduceToNat, Int.reduceLE, Int.reduceEq, ↓reduceIte, reduceCtorEq, Int.reduceNeg, Nat.reduceLeDiff]
    first | refine callB_intro (g _) ?_ | refine callD_intro (g _) ?_ | refine callP_intro (fun _ => (g _)) ?_ | refine callX_pure (g _) ?_
    simp (maxSteps := 1000000) (disch := omega) only [go_sem, Nat.reduceEqDiff, Nat.reduceLT, Nat.reduceAdd, Nat.reduceSub, Nat.reduceMul, Nat.reduceBEq, Int.reduceLT, Int.reduceAdd, Int.reduceMul, Int.reduceSub, Int.reduceToNat, Int.reduceLE, Int.reduceEq, ↓reduceIte, reduceCtorEq, Int.reduceNeg, Nat.reduceLeDiff,  blkAt_lo, hpl, hql, hp, fx, n0, hb1]
    refine fin_e (by simp) (by simp (maxSteps := 1000000) (disch := omega) only [resVal, resAll, resOne, rs22, Env.get, go_sem, Nat.reduceEqDiff, Nat.reduceLT, Nat.reduceAdd, Nat.reduceSub, Nat.reduceMul, Nat.reduceBEq, Int.reduceLT, Int.reduceAdd, Int.reduceMul, Int.reduceSub, Int.reduceToNat, Int.reduceLE, Int.reduceEq, ↓reduceIte, reduceCtorEq, Int.reduceNeg, Nat.reduceLeDiff, ] <;> rfl) ⟨_, rfl⟩ ⟨S, rfl, ok0 _, rfl⟩
  have hb1 : ¬ (600 : Int) < (us.length : Int) := by omega
  by_cases hf : hd0 S.vs = 4611686018427387904
  · have e1 : errP S.pu us = 5 := by unfold errP; rw [el, if_pos (.inr hf)]
    have e2 : tornP S.pu us done = S.pu := by unfold tornP; rw [el, if_pos (.inr hf)]
    rw [e1, e2]
    unfold Stt.av nvc at *
    unfold c22
    simp (maxSteps := 1000000) (disch := omega) only [go_sem, Nat.reduceEqDiff, Nat.reduceLT, Nat.reduceAdd, Nat.reduceSub, Nat.reduceMul, Nat.reduceBEq, Int.reduceLT, Int.reduceAdd, Int.reduceMul, Int.reduceSub, Int.reduceToNat, Int.reduceLE, Int.reduceEq, ↓reduceIte, reduceCtorEq, Int.reduceNeg, Nat.reduceLeDiff]
    first | refine callB_intro (g _) ?_ | refine callD_intro (g _) ?_ | refine callP_intro (fun _ => (g _)) ?_ | refine callX_pure (g _) ?_
    simp (maxSteps := 1000000) (disch := omega) only [go_sem, Nat.reduceEqDiff, Nat.reduceLT, Nat.reduceAdd, Nat.reduceSub, Nat.reduceMul, Nat.reduceBEq, Int.reduceLT, Int.reduceAdd, Int.reduceMul, Int.reduceSub, Int.reduceToNat, Int.reduceLE, Int.reduceEq, ↓reduceIte, reduceCtorEq, Int.reduceNeg, Nat.reduceLeDiff,  blkAt_lo, hpl, hql, hp, fx, n0, hb1, hf]
    refine fin_e (by simp) (by simp (maxSteps := 1000000) (disch := omega) only [resVal, resAll, resOne, rs22, Env.get, go_sem, Nat.reduceEqDiff, Nat.reduceLT, Nat.reduceAdd, Nat.reduceSub, Nat.reduceMul, Nat.reduceBEq, Int.reduceLT, Int.reduceAdd, Int.reduceMul, Int.reduceSub, Int.reduceToNat, Int.reduceLE, Int.reduceEq, ↓reduceIte, reduceCtorEq, Int.reduceNeg, Nat.reduceLeDiff, ] <;> rfl) ⟨_, rfl⟩ ⟨S, rfl, ok0 _, rfl⟩
  have e1 : errP S.pu us = 0 := by unfold errP; rw [el, if_neg (by omega)]
  have e2 : tornP S.pu us done = (slotP (S.ws, S.c0) (hd0 S.vs + 1) us done, (S.vs, S.c1)) := by unfold tornP; rw [el, if_neg (by omega), if_neg (by omega)]; rfl
  rw [e1, e2]
  by_cases hdz : done ≤ 0
  · have e3 : slotP (S.ws, S.c0) (hd0 S.vs + 1) us done = (S.ws, S.c0) := by unfold slotP; rw [if_neg (by omega), if_neg (by omega), if_neg (by omega)]
    rw [e3]
    unfold Stt.av nvc at *
    unfold c22
    simp (maxSteps := 1000000) (disch := omega) only [go_sem, Nat.reduceEqDiff, Nat.reduceLT, Nat.reduceAdd, Nat.reduceSub, Nat.reduceMul, Nat.reduceBEq, Int.reduceLT, Int.reduceAdd, Int.reduceMul, Int.reduceSub, Int.reduceToNat, Int.reduceLE, Int.reduceEq, ↓reduceIte, reduceCtorEq, Int.reduceNeg, Nat.reduceLeDiff]
    first | refine callB_intro (g _) ?_ | refine callD_intro (g _) ?_ | refine callP_intro (fun _ => (g _)) ?_ | refine callX_pure (g _) ?_
    simp (maxSteps := 1000000) (disch := omega) only [go_sem, Nat.reduceEqDiff, Nat.reduceLT, Nat.reduceAdd, Nat.reduceSub, Nat.reduceMul, Nat.reduceBEq, Int.reduceLT, Int.reduceAdd, Int.reduceMul, Int.reduceSub, Int.reduceToNat, Int.reduceLE, Int.reduceEq, ↓reduceIte, reduceCtorEq, Int.reduceNeg, Nat.reduceLeDiff,  blkAt_lo, hpl, hql, hp, fx, n0, hf, hb1, hdz]
    refine fin_e (by simp) (by simp (maxSteps := 1000000) (disch := omega) only [resVal, resAll, resOne, rs22, Env.get, go_sem, Nat.reduceEqDiff, Nat.reduceLT, Nat.reduceAdd, Nat.reduceSub, Nat.reduceMul, Nat.reduceBEq, Int.reduceLT, Int.reduceAdd, Int.reduceMul, Int.reduceSub, Int.reduceToNat, Int.reduceLE, Int.reduceEq, ↓reduceIte, reduceCtorEq, Int.reduceNeg, Nat.reduceLeDiff, ] <;> rfl) ⟨_, rfl⟩ ⟨S, rfl, ok0 _, rfl⟩
  by_cases hd1 : done = 1
  · have e3 : slotP (S.ws, S.c0) (hd0 S.vs + 1) us done = (S.ws, 0) := by unfold slotP; rw [if_neg (by omega), if_neg (by omega), if_pos hd1]
    rw [e3]
    subst hd1
    unfold Stt.av nvc at *
    unfold c22
    simp (maxSteps := 1000000) (disch := omega) only [go_sem, Nat.reduceEqDiff, Nat.reduceLT, Nat.reduceAdd, Nat.reduceSub, Nat.reduceMul, Nat.reduceBEq, Int.reduceLT, Int.reduceAdd, Int.reduceMul, Int.reduceSub, Int.reduceToNat, Int.reduceLE, Int.reduceEq, ↓reduceIte, reduceCtorEq, Int.reduceNeg, Nat.reduceLeDiff]
    first | refine callB_intro (g _) ?_ | refine callD_intro (g _) ?_ | refine callP_intro (fun _ => (g _)) ?_ | refine callX_pure (g _) ?_
    simp (maxSteps := 1000000) (disch := omega) only [go_sem, Nat.reduceEqDiff, Nat.reduceLT, Nat.reduceAdd, Nat.reduceSub, Nat.reduceMul, Nat.reduceBEq, Int.reduceLT, Int.reduceAdd, Int.reduceMul, Int.reduceSub, Int.reduceToNat, Int.reduceLE, Int.reduceEq, ↓reduceIte, reduceCtorEq, Int.reduceNeg, Nat.reduceLeDiff,  blkAt_lo, hpl, hql, hp, fx, n0, hf, hb1]
    refine fin_e (by simp) (by simp (maxSteps := 1000000) (disch := omega) only [resVal, resAll, resOne, rs22, Env.get, go_sem, Nat.reduceEqDiff, Nat.reduceLT, Nat.reduceAdd, Nat.reduceSub, Nat.reduceMul, Nat.reduceBEq, Int.reduceLT, Int.reduceAdd, Int.reduceMul, Int.reduceSub, Int.reduceToNat, Int.reduceLE, Int.reduceEq, ↓reduceIte, reduceCtorEq, Int.reduceNeg, Nat.reduceLeDiff, ] <;> rfl) ⟨_, rfl⟩ ⟨⟨S.p0, S.o0, S.k0, S.ws, 0, S.p1, S.o1, S.k1, S.vs, S.c1⟩, rfl, ⟨(ok0 _).h0, (ok0 _).h1, l0, l1⟩, rfl⟩
  have hlo : 0 ≤ hd0 S.vs := hh.1
  have hhi : hd0 S.vs < 4611686018427387904 := by omega
  clear hh hn a el
  generalize hd0 S.vs = w at *
  have hd2 : 1 < done := by omega
  obtain ⟨cu, ou, hq, hle', hcu⟩ := hu
  have hq3 : us.length ≤ 140737488355328 := by omega
  have hq4 : (1 + us.length) * 8 ≤ 140737488355328 := by omega
  have hcu' : (cu.drop oq).take us.length = us.map i64 := hcu
  by_cases hz : us.length = 0
  · have eu : us = [] := List.eq_nil_of_length_eq_zero hz
    subst eu
    have hoq : oq ≤ cu.length := by simpa using hle'
    by_cases hd3 : done < 3
    · have e3 : slotP (S.ws, S.c0) (w + 1) [] done = ([(w + 1)], 0) := by
        have : (done - 1).toNat = 1 := by omega
        unfold slotP
        rw [if_neg (by simp; omega), if_pos hd2, this]
        rfl
      have hk : (done - 1).toNat = 1 := by omega
      rw [e3]
      unfold Stt.av nvc at *
      unfold c22
      simp (maxSteps := 1000000) (disch := omega) only [go_sem, Nat.reduceEqDiff, Nat.reduceLT, Nat.reduceAdd, Nat.reduceSub, Nat.reduceMul, Nat.reduceBEq, Int.reduceLT, Int.reduceAdd, Int.reduceMul, Int.reduceSub, Int.reduceToNat, Int.reduceLE, Int.reduceEq, ↓reduceIte, reduceCtorEq, Int.reduceNeg, Nat.reduceLeDiff]
      first | refine callB_intro (g _) ?_ | refine callD_intro (g _) ?_ | refine callP_intro (fun _ => (g _)) ?_ | refine callX_pure (g _) ?_
      simp (maxSteps := 1000000) (disch := omega) only [go_sem, Nat.reduceEqDiff, Nat.reduceLT, Nat.reduceAdd, Nat.reduceSub, Nat.reduceMul, Nat.reduceBEq, Int.reduceLT, Int.reduceAdd, Int.reduceMul, Int.reduceSub, Int.reduceToNat, Int.reduceLE, Int.reduceEq, ↓reduceIte, reduceCtorEq, Int.reduceNeg, Nat.reduceLeDiff,  blkAt_lo, hpl, hql, hp, fx, n0, hf, hb1, hdz, hd2, hd3, hq, hul, hoq, hk, blkAt_lo]
      refine ⟨by omega, ?_⟩
      refine fin_e (by simp) (by simp (maxSteps := 1000000) (disch := omega) only [resVal, resAll, resOne, rs22, Env.get, go_sem, Nat.reduceEqDiff, Nat.reduceLT, Nat.reduceAdd, Nat.reduceSub, Nat.reduceMul, Nat.reduceBEq, Int.reduceLT, Int.reduceAdd, Int.reduceMul, Int.reduceSub, Int.reduceToNat, Int.reduceLE, Int.reduceEq, ↓reduceIte, reduceCtorEq, Int.reduceNeg, Nat.reduceLeDiff, ] <;> rfl) ⟨_, rfl⟩ ⟨⟨H.length + 3, 0, some 1, [(w + 1)], 0, S.p1, S.o1, S.k1, S.vs, S.c1⟩, rfl, ⟨Sl.whole (o := true) (by simp only [go_sem, Nat.reduceEqDiff, Nat.reduceLT, Nat.reduceAdd, Nat.reduceSub, Nat.reduceMul, Nat.reduceBEq, Int.reduceLT, Int.reduceAdd, Int.reduceMul, Int.reduceSub, Int.reduceToNat, Int.reduceLE, Int.reduceEq, ↓reduceIte, reduceCtorEq, Int.reduceNeg, Nat.reduceLeDiff]; rfl), (ok0 _).h1, by simp, l1⟩, rfl⟩
    · have hd3' : 3 ≤ done := by omega
      have e3 : slotP (S.ws, S.c0) (w + 1) [] done = ([(w + 1)], com [(w + 1)]) := by
        unfold slotP
        rw [if_pos (by simp; omega)]
      have gC := fun G (h : blkAt (H ++ G) (H.length + 3) = some ⟨[(w + 1)].map i64, true⟩) => f18 (cp := some 1) (Sl.whole h) (by simp)
      rw [e3]
      generalize hcc : com [(w + 1)] = cc at *
      unfold Stt.av nvc at *
      unfold c22
      simp (maxSteps := 1000000) (disch := omega) only [go_sem, Nat.reduceEqDiff, Nat.reduceLT, Nat.reduceAdd, Nat.reduceSub, Nat.reduceMul, Nat.reduceBEq, Int.reduceLT, Int.reduceAdd, Int.reduceMul, Int.reduceSub, Int.reduceToNat, Int.reduceLE, Int.reduceEq, ↓reduceIte, reduceCtorEq, Int.reduceNeg, Nat.reduceLeDiff]
      first | refine callB_intro (g _) ?_ | refine callD_intro (g _) ?_ | refine callP_intro (fun _ => (g _)) ?_ | refine callX_pure (g _) ?_
      simp (maxSteps := 1000000) (disch := omega) only [go_sem, Nat.reduceEqDiff, Nat.reduceLT, Nat.reduceAdd, Nat.reduceSub, Nat.reduceMul, Nat.reduceBEq, Int.reduceLT, Int.reduceAdd, Int.reduceMul, Int.reduceSub, Int.reduceToNat, Int.reduceLE, Int.reduceEq, ↓reduceIte, reduceCtorEq, Int.reduceNeg, Nat.reduceLeDiff,  blkAt_lo, hpl, hql, hp, fx, n0, hf, hb1, hdz, hd2, hd3, hq, hul, hoq, blkAt_lo]
      refine callB_intro (gC _ (by simp only [go_sem, Nat.reduceEqDiff, Nat.reduceLT, Nat.reduceAdd, Nat.reduceSub, Nat.reduceMul, Nat.reduceBEq, Int.reduceLT, Int.reduceAdd, Int.reduceMul, Int.reduceSub, Int.reduceToNat, Int.reduceLE, Int.reduceEq, ↓reduceIte, reduceCtorEq, Int.reduceNeg, Nat.reduceLeDiff]; rfl)) ?_
      simp (maxSteps := 1000000) (disch := omega) only [go_sem, Nat.reduceEqDiff, Nat.reduceLT, Nat.reduceAdd, Nat.reduceSub, Nat.reduceMul, Nat.reduceBEq, Int.reduceLT, Int.reduceAdd, Int.reduceMul, Int.reduceSub, Int.reduceToNat, Int.reduceLE, Int.reduceEq, ↓reduceIte, reduceCtorEq, Int.reduceNeg, Nat.reduceLeDiff]
      refine fin_e (by simp) (by simp (maxSteps := 1000000) (disch := omega) only [resVal, resAll, resOne, rs22, Env.get, go_sem, Nat.reduceEqDiff, Nat.reduceLT, Nat.reduceAdd, Nat.reduceSub, Nat.reduceMul, Nat.reduceBEq, Int.reduceLT, Int.reduceAdd, Int.reduceMul, Int.reduceSub, Int.reduceToNat, Int.reduceLE, Int.reduceEq, ↓reduceIte, reduceCtorEq, Int.reduceNeg, Nat.reduceLeDiff, ] <;> rfl) ⟨_, rfl⟩ ⟨⟨H.length + 3, 0, some 1, [(w + 1)], cc, S.p1, S.o1, S.k1, S.vs, S.c1⟩, rfl, ⟨Sl.whole (o := true) (by simp only [go_sem, Nat.reduceEqDiff, Nat.reduceLT, Nat.reduceAdd, Nat.reduceSub, Nat.reduceMul, Nat.reduceBEq, Int.reduceLT, Int.reduceAdd, Int.reduceMul, Int.reduceSub, Int.reduceToNat, Int.reduceLE, Int.reduceEq, ↓reduceIte, reduceCtorEq, Int.reduceNeg, Nat.reduceLeDiff]; rfl), (ok0 _).h1, by simp, l1⟩, rfl⟩
  · have hz2 : 1 < 1 + us.length := by omega
    have nl : (1 : Nat) + us.length = ((w + 1) :: us).length := by rw [List.length_cons]; omega
    have nm : ((w + 1) :: us).map i64 = AV.int .i64 (w + 1) :: us.map i64 := rfl
    by_cases hd3 : done < 3 + (us.length : Int)
    · have hk1 : (done - 1).toNat ≤ 1 + us.length := by omega
      have hk2 : done - 1 ≤ 1 + (us.length : Int) := by omega
      have hk3 : (((w + 1) :: us).take (done - 1).toNat).length = (done - 1).toNat := by rw [List.length_take, List.length_cons]; omega
      have e3 : slotP (S.ws, S.c0) (w + 1) us done = (((w + 1) :: us).take (done - 1).toNat, 0) := by
        unfold slotP
        rw [if_neg (by omega), if_pos hd2]
      rw [e3]
      unfold Stt.av nvc at *
      unfold c22
      simp (maxSteps := 1000000) (disch := omega) only [go_sem, Nat.reduceEqDiff, Nat.reduceLT, Nat.reduceAdd, Nat.reduceSub, Nat.reduceMul, Nat.reduceBEq, Int.reduceLT, Int.reduceAdd, Int.reduceMul, Int.reduceSub, Int.reduceToNat, Int.reduceLE, Int.reduceEq, ↓reduceIte, reduceCtorEq, Int.reduceNeg, Nat.reduceLeDiff]
      first | refine callB_intro (g _) ?_ | refine callD_intro (g _) ?_ | refine callP_intro (fun _ => (g _)) ?_ | refine callX_pure (g _) ?_
      simp (maxSteps := 1000000) (disch := omega) only [go_sem, Nat.reduceEqDiff, Nat.reduceLT, Nat.reduceAdd, Nat.reduceSub, Nat.reduceMul, Nat.reduceBEq, Int.reduceLT, Int.reduceAdd, Int.reduceMul, Int.reduceSub, Int.reduceToNat, Int.reduceLE, Int.reduceEq, ↓reduceIte, reduceCtorEq, Int.reduceNeg, Nat.reduceLeDiff,  blkAt_lo, hpl, hql, hp, fx, n0, hf, hb1, hdz, hd2, hd3, hq, hul, hq3, hq4, hle', hcu', hz, hz2, hk1, hk2, blkAt_lo]
      refine ⟨by omega, ?_⟩
      generalize (done - 1).toNat = d at *
      refine fin_e (by simp) (by simp (maxSteps := 1000000) (disch := omega) only [resVal, resAll, resOne, rs22, Env.get, go_sem, Nat.reduceEqDiff, Nat.reduceLT, Nat.reduceAdd, Nat.reduceSub, Nat.reduceMul, Nat.reduceBEq, Int.reduceLT, Int.reduceAdd, Int.reduceMul, Int.reduceSub, Int.reduceToNat, Int.reduceLE, Int.reduceEq, ↓reduceIte, reduceCtorEq, Int.reduceNeg, Nat.reduceLeDiff, ] <;> rfl) ⟨_, rfl⟩ ⟨⟨H.length + 4, 0, none, ((w + 1) :: us).take d, 0, S.p1, S.o1, S.k1, S.vs, S.c1⟩, by simp only [hk3], ⟨(Sl.whole (o := true) (zs := (w + 1) :: us) (by simp only [go_sem, Nat.reduceEqDiff, Nat.reduceLT, Nat.reduceAdd, Nat.reduceSub, Nat.reduceMul, Nat.reduceBEq, Int.reduceLT, Int.reduceAdd, Int.reduceMul, Int.reduceSub, Int.reduceToNat, Int.reduceLE, Int.reduceEq, ↓reduceIte, reduceCtorEq, Int.reduceNeg, Nat.reduceLeDiff]; rfl)).take d, (ok0 _).h1, Nat.le_trans (Nat.le_of_eq hk3) (by omega), l1⟩, rfl⟩
    · have e3 : slotP (S.ws, S.c0) (w + 1) us done = ((w + 1) :: us, com ((w + 1) :: us)) := by
        unfold slotP
        rw [if_pos (by omega)]
      have gC := fun G (h : blkAt (H ++ G) (H.length + 4) = some ⟨((w + 1) :: us).map i64, true⟩) => f18 (cp := none) (Sl.whole h) (by rw [List.length_cons]; omega)
      rw [← nl] at gC
      rw [e3]
      generalize hcc : com ((w + 1) :: us) = cc at *
      unfold Stt.av nvc at *
      unfold c22
      simp (maxSteps := 1000000) (disch := omega) only [go_sem, Nat.reduceEqDiff, Nat.reduceLT, Nat.reduceAdd, Nat.reduceSub, Nat.reduceMul, Nat.reduceBEq, Int.reduceLT, Int.reduceAdd, Int.reduceMul, Int.reduceSub, Int.reduceToNat, Int.reduceLE, Int.reduceEq, ↓reduceIte, reduceCtorEq, Int.reduceNeg, Nat.reduceLeDiff]
      first | refine callB_intro (g _) ?_ | refine callD_intro (g _) ?_ | refine callP_intro (fun _ => (g _)) ?_ | refine callX_pure (g _) ?_
      simp (maxSteps := 1000000) (disch := omega) only [go_sem, Nat.reduceEqDiff, Nat.reduceLT, Nat.reduceAdd, Nat.reduceSub, Nat.reduceMul, Nat.reduceBEq, Int.reduceLT, Int.reduceAdd, Int.reduceMul, Int.reduceSub, Int.reduceToNat, Int.reduceLE, Int.reduceEq, ↓reduceIte, reduceCtorEq, Int.reduceNeg, Nat.reduceLeDiff,  blkAt_lo, hpl, hql, hp, fx, n0, hf, hb1, hdz, hd2, hd3, hq, hul, hq3, hq4, hle', hcu', hz, hz2, blkAt_lo]
      refine callB_intro (gC _ (by simp only [go_sem, Nat.reduceEqDiff, Nat.reduceLT, Nat.reduceAdd, Nat.reduceSub, Nat.reduceMul, Nat.reduceBEq, Int.reduceLT, Int.reduceAdd, Int.reduceMul, Int.reduceSub, Int.reduceToNat, Int.reduceLE, Int.reduceEq, ↓reduceIte, reduceCtorEq, Int.reduceNeg, Nat.reduceLeDiff]; rfl)) ?_
      simp (maxSteps := 1000000) (disch := omega) only [go_sem, Nat.reduceEqDiff, Nat.reduceLT, Nat.reduceAdd, Nat.reduceSub, Nat.reduceMul, Nat.reduceBEq, Int.reduceLT, Int.reduceAdd, Int.reduceMul, Int.reduceSub, Int.reduceToNat, Int.reduceLE, Int.reduceEq, ↓reduceIte, reduceCtorEq, Int.reduceNeg, Nat.reduceLeDiff]
      refine fin_e (by simp) (by simp (maxSteps := 1000000) (disch := omega) only [resVal, resAll, resOne, rs22, Env.get, go_sem, Nat.reduceEqDiff, Nat.reduceLT, Nat.reduceAdd, Nat.reduceSub, Nat.reduceMul, Nat.reduceBEq, Int.reduceLT, Int.reduceAdd, Int.reduceMul, Int.reduceSub, Int.reduceToNat, Int.reduceLE, Int.reduceEq, ↓reduceIte, reduceCtorEq, Int.reduceNeg, Nat.reduceLeDiff, ] <;> rfl) ⟨_, rfl⟩ ⟨⟨H.length + 4, 0, none, (w + 1) :: us, cc, S.p1, S.o1, S.k1, S.vs, S.c1⟩, by simp only [← nl], ⟨Sl.whole (o := true) (by simp only [go_sem, Nat.reduceEqDiff, Nat.reduceLT, Nat.reduceAdd, Nat.reduceSub, Nat.reduceMul, Nat.reduceBEq, Int.reduceLT, Int.reduceAdd, Int.reduceMul, Int.reduceSub, Int.reduceToNat, Int.reduceLE, Int.reduceEq, ↓reduceIte, reduceCtorEq, Int.reduceNeg, Nat.reduceLeDiff]; rfl), (ok0 _).h1, Nat.le_trans (Nat.le_of_eq nl.symm) (by omega), l1⟩, rfl⟩
theorem f22 {S : Stt} {us : List Int} {q oq : Nat} {kq : Option Nat} {done : Int} {H : Heap} (h : S.ok H) (hu : Sl i64 H q oq us) (lu : us.length ≤ 1000) :
    ACallE Try.prog 22 [.agg S.av, .sl q oq us.length 1 kq, .int .i64 done] H (Torn S us done) := by
  rcases nw_cases S.ws S.c0 S.vs S.c1 with ⟨hw, a, b⟩ | ⟨hw, a, b⟩ | ⟨hw, a, b⟩
  · exact f22_n h hu lu hw
  · exact f22_0 h hu lu hw a
  · exact f22_1 h hu lu hw a
theorem f21 {S : Stt} {us : List Int} {q oq : Nat} {kq : Option Nat} {H : Heap} (h : S.ok H) (hu : Sl i64 H q oq us) (lu : us.length ≤ 1000) :
    ACallE Try.prog 21 [.agg S.av, .sl q oq us.length 1 kq] H (Torn S us ((us.length : Int) + 3)) := by
  refine acallE (fun v Hf h => acallK21 (by simp) h) (acs_start ?_)
  have g2 := fun G => f22 (kq := kq) (done := (us.length : Int) + 3) (h.app_set (G := G) (b := H.length + 1) (by omega) none) (hu.app_set (G := G) (b := H.length + 1) (by omega) none) lu
  have av1 := av_len S
  have av2 := av_all S
  have av3 := av_take S
  have e3 : (3 : Int) + (us.length : Int) = (us.length : Int) + 3 := by omega
  generalize S.av = X at *
  unfold c21
  simp (maxSteps := 1000000) (disch := omega) only [go_sem, Nat.reduceEqDiff, Nat.reduceLT, Nat.reduceAdd, Nat.reduceSub, Nat.reduceMul, Nat.reduceBEq, Int.reduceLT, Int.reduceAdd, Int.reduceMul, Int.reduceSub, Int.reduceToNat, Int.reduceLE, Int.reduceEq, ↓reduceIte, reduceCtorEq, Int.reduceNeg, Nat.reduceLeDiff,  av1, av2, av3, e3]
  first | refine callBE (ACallE.frame (b := H.length + 1) (x := ⟨[.nils, .int .i64 0, .nils, .int .i64 0], true⟩) (by simp only [go_sem, Nat.reduceEqDiff, Nat.reduceLT, Nat.reduceAdd, Nat.reduceSub, Nat.reduceMul, Nat.reduceBEq, Int.reduceLT, Int.reduceAdd, Int.reduceMul, Int.reduceSub, Int.reduceToNat, Int.reduceLE, Int.reduceEq, ↓reduceIte, reduceCtorEq, Int.reduceNeg, Nat.reduceLeDiff]) rfl (g2 _)) ?_ | refine callDE (ACallE.frame (b := H.length + 1) (x := ⟨[.nils, .int .i64 0, .nils, .int .i64 0], true⟩) (by simp only [go_sem, Nat.reduceEqDiff, Nat.reduceLT, Nat.reduceAdd, Nat.reduceSub, Nat.reduceMul, Nat.reduceBEq, Int.reduceLT, Int.reduceAdd, Int.reduceMul, Int.reduceSub, Int.reduceToNat, Int.reduceLE, Int.reduceEq, ↓reduceIte, reduceCtorEq, Int.reduceNeg, Nat.reduceLeDiff]) rfl (g2 _)) ?_ | refine callXE (ACallE.frame (b := H.length + 1) (x := ⟨[.nils, .int .i64 0, .nils, .int .i64 0], true⟩) (by simp only [go_sem, Nat.reduceEqDiff, Nat.reduceLT, Nat.reduceAdd, Nat.reduceSub, Nat.reduceMul, Nat.reduceBEq, Int.reduceLT, Int.reduceAdd, Int.reduceMul, Int.reduceSub, Int.reduceToNat, Int.reduceLE, Int.reduceEq, ↓reduceIte, reduceCtorEq, Int.reduceNeg, Nat.reduceLeDiff]) rfl (g2 _)) ?_
  rintro v H1 hx ⟨b, S', rfl, ok, hp⟩
  have bl := blkAt_lt b
  have w1 := av_len S'
  have w2 := av_all S'
  have w3 := av_take S'
  have ok2 := fun y => ok.unset (some ⟨y, true⟩)
  simp (maxSteps := 1000000) (disch := omega) only [go_sem, Nat.reduceEqDiff, Nat.reduceLT, Nat.reduceAdd, Nat.reduceSub, Nat.reduceMul, Nat.reduceBEq, Int.reduceLT, Int.reduceAdd, Int.reduceMul, Int.reduceSub, Int.reduceToNat, Int.reduceLE, Int.reduceEq, ↓reduceIte, reduceCtorEq, Int.reduceNeg, Nat.reduceLeDiff,  b, w1, w2, w3, blkAt_set_self, set_lo]
  refine fin_e (by simp) (by simp (maxSteps := 1000000) (disch := omega) only [resVal, resAll, resOne, rs21, Env.get, go_sem, Nat.reduceEqDiff, Nat.reduceLT, Nat.reduceAdd, Nat.reduceSub, Nat.reduceMul, Nat.reduceBEq, Int.reduceLT, Int.reduceAdd, Int.reduceMul, Int.reduceSub, Int.reduceToNat, Int.reduceLE, Int.reduceEq, ↓reduceIte, reduceCtorEq, Int.reduceNeg, Nat.reduceLeDiff, blkAt_set_self, bl, List.length_set, w1, w3] <;> rfl) (((Ext.app _ _).trans hx).set (by omega) _) ⟨S', rfl, ok2 _, hp⟩
end Go.Proofs.Ytjibcbfdfambeaa.Ah
