/- V08B: a part of the proof: contracts of functions, or plain laws. Conditions: none. -/
import Derived.Test.YtjibphejlmiocaaV08A
namespace Go.Proofs.Ytjibphejlmiocaa.Ah
open Go Go.WideShapes
attribute [local irreducible] acs aopsK drawK leave condK bindR bindD bindX guardK guardD callB callD callX callP callPv rfunG rfunK yldB yldD
attribute [local go_sem] acs_nil acs_blk acs_skip acs_reg acs_dreg acs_freg acs_nam0 acs_nam nones acs_seq acs_cond acs_block acs_exit acs_ret acs_kl acs_loop leave_nil leave_code leave_lp leave_blk aopsK_nil aopsK_cons aopsK_guard bindR_val bindR_need bindR_br bindR_call bindR_ycall acs_rfun rfunG_fn bindR_bad drawK_nil drawK_cons drawK_ext drawK_pur drawK_guard callPv_fn drawK_purv bindD_val bindD_need bindD_br bindD_call bindD_ycall bindD_bad bindX_val bindX_need bindX_br bindX_call guardD_bool guardD_tup grows grows0 List.append_cancel_left_eq List.cons.injEq exists_eq' exists_eq condK_bool guardK_bool guardK_tup sor r0 r1 r2 r3 rC rB rI rP rA rT rS rF rSl rO rbin rcut run1 Env.evals Env.eval Env.get Env.put Env.ins Env.del Env.dels argEnv AV.full AV.cells AV.cell eqCells decide_true decide_false decide_eq_true_eq decide_eq_false_iff_not Bool.not_eq_true' Bool.not_eq_false' true_and and_true false_implies true_implies forall_const Bool.not_true Bool.not_false Bool.false_eq_true Bool.true_eq_false List.getElem?_cons_zero List.getElem?_cons_succ List.length_cons List.length_nil List.length_append List.all_cons List.all_nil Bool.and_true Bool.and_self implies_true List.append_assoc List.cons_append List.nil_append List.append_nil i64_in imin_eq imax_eq cast3 cast0 cast1 cast2 Option.map_none ite_self and_false false_and Option.isSome_some or_true true_or Int.sub_zero Int.mul_one Nat.sub_zero Nat.zero_le Int.cast_ofNat_Int Int.natCast_nonneg Int.toNat_natCast ne_eq not_false_eq_true not_true_eq_false strC blkAt_app blkAt_app0 blkAt_zero blkAt_succ List.set_cons_zero List.set_cons_succ set_app set_app0 Option.map_some Option.bind_some rd setCells lay rdS szOk rapp ownAt lenAt Option.any_some Option.getD_some List.drop_zero List.drop_succ_cons List.take_succ_cons List.take_zero List.drop_nil List.take_nil Nat.lt_irrefl Nat.zero_add Nat.add_zero Nat.mul_one Nat.one_mul Nat.add_assoc Option.some.injEq eq_self
set_option maxHeartbeats 4000000
set_option linter.unusedSimpArgs false
set_option linter.unusedVariables false
/-! The law FrameBytes. -/
theorem decL_len (zs : List Nat) : (decL zs).length ≤ 18 := by
  unfold decL
  split
  · have := (decM_eq zs).2; simp [decW]; omega
  · simp
theorem f8 (k l : Int) (ns ms : List Int) (zs : List Nat) (p o p' o' q o2 : Nat) (c c' c2 : Option Nat) (H : Heap) (hs : Sl i64 H p o ns) (hs' : Sl i64 H p' o' ms) (hb : Sl u8 H q o2 zs) (hz : By zs) (l1 : ns.length ≤ 140737488351232) (l1' : ms.length ≤ 140737488351232) (l2 : zs.length ≤ 140737488351232) :
    ACall Try.prog 8 [.agg [.int .i64 k, .sl p o ns.length 1 c], .agg [.int .i64 l, .sl p' o' ms.length 1 c'], .sl q o2 zs.length 1 c2] H (.bool true) H := by
  refine acall8 (by simp) (acs_start ?_)
  unfold c8
  by_cases hl : 100 < ns.length + ms.length
  · have hl1 : (100 : Int) < (ns.length : Int) + (ms.length : Int) := by omega
    simp (maxSteps := 1000000) (disch := omega) only [go_sem, Nat.reduceEqDiff, Nat.reduceLT, Nat.reduceAdd, Nat.reduceSub, Nat.reduceMul, Nat.reduceBEq, Int.reduceLT, Int.reduceAdd, Int.reduceMul, Int.reduceSub, Int.reduceToNat, Int.reduceLE, Int.reduceEq, ↓reduceIte, reduceCtorEq, Int.reduceNeg, Nat.reduceLeDiff]
    first | refine callB_intro (f10 _) ?_ | refine callD_intro (f10 _) ?_ | refine callP_intro (fun _ => (f10 _)) ?_ | refine callX_pure (f10 _) ?_
    simp (maxSteps := 1000000) (disch := omega) only [go_sem, Nat.reduceEqDiff, Nat.reduceLT, Nat.reduceAdd, Nat.reduceSub, Nat.reduceMul, Nat.reduceBEq, Int.reduceLT, Int.reduceAdd, Int.reduceMul, Int.reduceSub, Int.reduceToNat, Int.reduceLE, Int.reduceEq, ↓reduceIte, reduceCtorEq, Int.reduceNeg, Nat.reduceLeDiff,  hl1]
    exact fin_same (by simp) _ (by first | exact (List.append_nil _).symm | rfl) (by simp (maxSteps := 1000000) (disch := omega) only [resVal, resAll, resOne, rs8, Env.get, go_sem, Nat.reduceEqDiff, Nat.reduceLT, Nat.reduceAdd, Nat.reduceSub, Nat.reduceMul, Nat.reduceBEq, Int.reduceLT, Int.reduceAdd, Int.reduceMul, Int.reduceSub, Int.reduceToNat, Int.reduceLE, Int.reduceEq, ↓reduceIte, reduceCtorEq, Int.reduceNeg, Nat.reduceLeDiff]) (by simp only [AV.und, AV.unds, and_self])
  have hl1 : ¬ (100 : Int) < (ns.length : Int) + (ms.length : Int) := by omega
  by_cases hm : 500 < zs.length
  · have hm1 : (500 : Int) < (zs.length : Int) := by omega
    simp (maxSteps := 1000000) (disch := omega) only [go_sem, Nat.reduceEqDiff, Nat.reduceLT, Nat.reduceAdd, Nat.reduceSub, Nat.reduceMul, Nat.reduceBEq, Int.reduceLT, Int.reduceAdd, Int.reduceMul, Int.reduceSub, Int.reduceToNat, Int.reduceLE, Int.reduceEq, ↓reduceIte, reduceCtorEq, Int.reduceNeg, Nat.reduceLeDiff]
    first | refine callB_intro (f10 _) ?_ | refine callD_intro (f10 _) ?_ | refine callP_intro (fun _ => (f10 _)) ?_ | refine callX_pure (f10 _) ?_
    simp (maxSteps := 1000000) (disch := omega) only [go_sem, Nat.reduceEqDiff, Nat.reduceLT, Nat.reduceAdd, Nat.reduceSub, Nat.reduceMul, Nat.reduceBEq, Int.reduceLT, Int.reduceAdd, Int.reduceMul, Int.reduceSub, Int.reduceToNat, Int.reduceLE, Int.reduceEq, ↓reduceIte, reduceCtorEq, Int.reduceNeg, Nat.reduceLeDiff,  hl1, hm1]
    exact fin_same (by simp) _ (by first | exact (List.append_nil _).symm | rfl) (by simp (maxSteps := 1000000) (disch := omega) only [resVal, resAll, resOne, rs8, Env.get, go_sem, Nat.reduceEqDiff, Nat.reduceLT, Nat.reduceAdd, Nat.reduceSub, Nat.reduceMul, Nat.reduceBEq, Int.reduceLT, Int.reduceAdd, Int.reduceMul, Int.reduceSub, Int.reduceToNat, Int.reduceLE, Int.reduceEq, ↓reduceIte, reduceCtorEq, Int.reduceNeg, Nat.reduceLeDiff]) (by simp only [AV.und, AV.unds, and_self])
  have hm1 : ¬ (500 : Int) < (zs.length : Int) := by omega
  have g12 := fun G => f12T (k := k) (cp := c) (hs.app G)
  have hTl := encT_len k ns
  have g22 := fun G (h : Ext H G) => f22T (k := k) (cp := c) (h.sl hs)
  generalize encT k ns = xs at *
  generalize encE k ns.length = ee at *
  simp (maxSteps := 1000000) (disch := omega) only [go_sem, Nat.reduceEqDiff, Nat.reduceLT, Nat.reduceAdd, Nat.reduceSub, Nat.reduceMul, Nat.reduceBEq, Int.reduceLT, Int.reduceAdd, Int.reduceMul, Int.reduceSub, Int.reduceToNat, Int.reduceLE, Int.reduceEq, ↓reduceIte, reduceCtorEq, Int.reduceNeg, Nat.reduceLeDiff]
  first | refine callB_intro (f10 _) ?_ | refine callD_intro (f10 _) ?_ | refine callP_intro (fun _ => (f10 _)) ?_ | refine callX_pure (f10 _) ?_
  simp (maxSteps := 1000000) (disch := omega) only [go_sem, Nat.reduceEqDiff, Nat.reduceLT, Nat.reduceAdd, Nat.reduceSub, Nat.reduceMul, Nat.reduceBEq, Int.reduceLT, Int.reduceAdd, Int.reduceMul, Int.reduceSub, Int.reduceToNat, Int.reduceLE, Int.reduceEq, ↓reduceIte, reduceCtorEq, Int.reduceNeg, Nat.reduceLeDiff,  hl1, hm1]
  first | refine callBE (g12 _) ?_ | refine callDE (g12 _) ?_ | refine callXE (g12 _) ?_
  rintro v H1 hx1 ⟨w, rfl, p1, o1, k1, rfl, s1⟩
  have b0 : blkAt H1 H.length = some ⟨[.int .i64 k, .sl p o ns.length 1 c], true⟩ := hx1.blk (by simp only [go_sem, Nat.reduceEqDiff, Nat.reduceLT, Nat.reduceAdd, Nat.reduceSub, Nat.reduceMul, Nat.reduceBEq, Int.reduceLT, Int.reduceAdd, Int.reduceMul, Int.reduceSub, Int.reduceToNat, Int.reduceLE, Int.reduceEq, ↓reduceIte, reduceCtorEq, Int.reduceNeg, Nat.reduceLeDiff])
  have b1 : blkAt H1 (H.length + 1) = some ⟨[.int .i64 l, .sl p' o' ms.length 1 c'], true⟩ := hx1.blk (by simp only [go_sem, Nat.reduceEqDiff, Nat.reduceLT, Nat.reduceAdd, Nat.reduceSub, Nat.reduceMul, Nat.reduceBEq, Int.reduceLT, Int.reduceAdd, Int.reduceMul, Int.reduceSub, Int.reduceToNat, Int.reduceLE, Int.reduceEq, ↓reduceIte, reduceCtorEq, Int.reduceNeg, Nat.reduceLeDiff])
  have hy1 : Ext H H1 := (Ext.app _ _).trans hx1
  clear hx1 g12
  simp (maxSteps := 1000000) (disch := omega) only [go_sem, Nat.reduceEqDiff, Nat.reduceLT, Nat.reduceAdd, Nat.reduceSub, Nat.reduceMul, Nat.reduceBEq, Int.reduceLT, Int.reduceAdd, Int.reduceMul, Int.reduceSub, Int.reduceToNat, Int.reduceLE, Int.reduceEq, ↓reduceIte, reduceCtorEq, Int.reduceNeg, Nat.reduceLeDiff,  b0]
  first | refine callBE (g22 _ hy1) ?_ | refine callDE (g22 _ hy1) ?_ | refine callXE (g22 _ hy1) ?_
  rintro v H2 hx2 ⟨w, rfl, p2, o2', k2, rfl, s2⟩
  replace b0 := hx2.blk b0
  replace b1 := hx2.blk b1
  replace s1 := hx2.sl s1
  have hy2 := hy1.trans hx2
  clear hx2 hy1 g22
  simp (maxSteps := 1000000) (disch := omega) only [go_sem, Nat.reduceEqDiff, Nat.reduceLT, Nat.reduceAdd, Nat.reduceSub, Nat.reduceMul, Nat.reduceBEq, Int.reduceLT, Int.reduceAdd, Int.reduceMul, Int.reduceSub, Int.reduceToNat, Int.reduceLE, Int.reduceEq, ↓reduceIte, reduceCtorEq, Int.reduceNeg, Nat.reduceLeDiff]
  first | refine callBE (f20 (cp := c2) (hy2.sl hb) hz (by omega)) ?_ | refine callDE (f20 (cp := c2) (hy2.sl hb) hz (by omega)) ?_ | refine callXE (f20 (cp := c2) (hy2.sl hb) hz (by omega)) ?_
  rintro v H3 hx3 ⟨w, rfl, p3, o3, k3, rfl, s3⟩
  replace b0 := hx3.blk b0
  replace b1 := hx3.blk b1
  replace s1 := hx3.sl s1
  replace s2 := hx3.sl s2
  have hy3 := hy2.trans hx3
  clear hx3 hy2
  have g23 := fun G => f23 (cp := c2) ((hy3.sl hb).app G) hz (by omega)
  simp (maxSteps := 1000000) (disch := omega) only [go_sem, Nat.reduceEqDiff, Nat.reduceLT, Nat.reduceAdd, Nat.reduceSub, Nat.reduceMul, Nat.reduceBEq, Int.reduceLT, Int.reduceAdd, Int.reduceMul, Int.reduceSub, Int.reduceToNat, Int.reduceLE, Int.reduceEq, ↓reduceIte, reduceCtorEq, Int.reduceNeg, Nat.reduceLeDiff]
  first | refine callBE (g23 _) ?_ | refine callDE (g23 _) ?_ | refine callXE (g23 _) ?_
  rintro v H4 hx4 ⟨w, rfl, p4, o4, k4, rfl, s4⟩
  have b2 : blkAt H4 H3.length = some ⟨[.int .i64 (decK zs), .sl p3 o3 (decL zs).length 1 k3], true⟩ := hx4.blk (by simp only [go_sem, Nat.reduceEqDiff, Nat.reduceLT, Nat.reduceAdd, Nat.reduceSub, Nat.reduceMul, Nat.reduceBEq, Int.reduceLT, Int.reduceAdd, Int.reduceMul, Int.reduceSub, Int.reduceToNat, Int.reduceLE, Int.reduceEq, ↓reduceIte, reduceCtorEq, Int.reduceNeg, Nat.reduceLeDiff])
  have hx4' : Ext H3 H4 := (Ext.app _ _).trans hx4
  replace b0 := hx4'.blk b0
  replace b1 := hx4'.blk b1
  replace s1 := hx4'.sl s1
  replace s2 := hx4'.sl s2
  replace s3 := hx4'.sl s3
  have hy4 := hy3.trans hx4'
  clear hx4 hx4' hy3 g23
  have m0 := blkAt_lt b0
  have m1 := blkAt_lt b1
  have m2 := blkAt_lt b2
  have hdl := decL_len zs
  have g24 := fun G => f24 (c1 := k1) (c2 := k2) (s1.app G) (s2.app G) (by omega)
  have g13 := fun G => f13 (a := decK zs) (b := decK zs) (c1 := k3) (c2 := k4) (s3.app G) (s4.app G) (by omega)
  rw [decide_eq_true rfl] at g24
  rw [decide_eq_true ⟨rfl, rfl⟩] at g13
  have gL := fun G => f21 k G
  have gM := fun G => f25 k G
  have gR := fun G => f26 (k := k) (p := p) (off := o) (n := ns.length) (c := c) (H := H4 ++ G)
  have gS := fun G => f11 (k := k) (p := p) (off := o) (n := ns.length) (c := c) (H := H4 ++ G)
  have gA := fun G => f13 (a := k) (b := l) (c1 := c) (c2 := c') ((hy4.sl hs).app G) ((hy4.sl hs').app G) (by omega)
  have gB := fun G => f14 (a := k) (b := l) (c1 := c) (c2 := c') ((hy4.sl hs).app G) ((hy4.sl hs').app G) (by omega)
  generalize decide (k = l ∧ ns = ms) = D at *
  generalize right k ns.length = R at *
  generalize lng k = L at *
  generalize decK zs = dk' at *
  generalize decE zs = de at *
  simp (maxSteps := 1000000) (disch := omega) only [go_sem, Nat.reduceEqDiff, Nat.reduceLT, Nat.reduceAdd, Nat.reduceSub, Nat.reduceMul, Nat.reduceBEq, Int.reduceLT, Int.reduceAdd, Int.reduceMul, Int.reduceSub, Int.reduceToNat, Int.reduceLE, Int.reduceEq, ↓reduceIte, reduceCtorEq, Int.reduceNeg, Nat.reduceLeDiff,  b0, b1, b2, m0, m1, m2, blkAt_lo]
  first | refine callB_intro (g24 _) ?_ | refine callD_intro (g24 _) ?_ | refine callP_intro (fun _ => (g24 _)) ?_ | refine callX_pure (g24 _) ?_
  simp (maxSteps := 1000000) (disch := omega) only [go_sem, Nat.reduceEqDiff, Nat.reduceLT, Nat.reduceAdd, Nat.reduceSub, Nat.reduceMul, Nat.reduceBEq, Int.reduceLT, Int.reduceAdd, Int.reduceMul, Int.reduceSub, Int.reduceToNat, Int.reduceLE, Int.reduceEq, ↓reduceIte, reduceCtorEq, Int.reduceNeg, Nat.reduceLeDiff,  b0, b1, b2, m0, m1, m2, blkAt_lo]
  first | refine callB_intro (g13 _) ?_ | refine callD_intro (g13 _) ?_ | refine callP_intro (fun _ => (g13 _)) ?_ | refine callX_pure (g13 _) ?_
  simp (maxSteps := 1000000) (disch := omega) only [go_sem, Nat.reduceEqDiff, Nat.reduceLT, Nat.reduceAdd, Nat.reduceSub, Nat.reduceMul, Nat.reduceBEq, Int.reduceLT, Int.reduceAdd, Int.reduceMul, Int.reduceSub, Int.reduceToNat, Int.reduceLE, Int.reduceEq, ↓reduceIte, reduceCtorEq, Int.reduceNeg, Nat.reduceLeDiff,  b0, b1, b2, m0, m1, m2, blkAt_lo]
  refine callP_intro (fun G' => gL _) ?_
  simp (maxSteps := 1000000) (disch := omega) only [go_sem, Nat.reduceEqDiff, Nat.reduceLT, Nat.reduceAdd, Nat.reduceSub, Nat.reduceMul, Nat.reduceBEq, Int.reduceLT, Int.reduceAdd, Int.reduceMul, Int.reduceSub, Int.reduceToNat, Int.reduceLE, Int.reduceEq, ↓reduceIte, reduceCtorEq, Int.reduceNeg, Nat.reduceLeDiff,  b0, b1, b2, m0, m1, m2, blkAt_lo]
  first | refine callB_intro (gM _) ?_ | refine callD_intro (gM _) ?_ | refine callP_intro (fun _ => (gM _)) ?_ | refine callX_pure (gM _) ?_
  simp (maxSteps := 1000000) (disch := omega) only [go_sem, Nat.reduceEqDiff, Nat.reduceLT, Nat.reduceAdd, Nat.reduceSub, Nat.reduceMul, Nat.reduceBEq, Int.reduceLT, Int.reduceAdd, Int.reduceMul, Int.reduceSub, Int.reduceToNat, Int.reduceLE, Int.reduceEq, ↓reduceIte, reduceCtorEq, Int.reduceNeg, Nat.reduceLeDiff,  b0, b1, b2, m0, m1, m2, blkAt_lo]
  refine callP_intro (fun G' => by rw [List.append_assoc]; exact gR _) ?_
  simp (maxSteps := 1000000) (disch := omega) only [go_sem, Nat.reduceEqDiff, Nat.reduceLT, Nat.reduceAdd, Nat.reduceSub, Nat.reduceMul, Nat.reduceBEq, Int.reduceLT, Int.reduceAdd, Int.reduceMul, Int.reduceSub, Int.reduceToNat, Int.reduceLE, Int.reduceEq, ↓reduceIte, reduceCtorEq, Int.reduceNeg, Nat.reduceLeDiff,  b0, b1, b2, m0, m1, m2, blkAt_lo]
  first | refine callB_intro (gS _) ?_ | refine callD_intro (gS _) ?_ | refine callP_intro (fun _ => (gS _)) ?_ | refine callX_pure (gS _) ?_
  simp (maxSteps := 1000000) (disch := omega) only [go_sem, Nat.reduceEqDiff, Nat.reduceLT, Nat.reduceAdd, Nat.reduceSub, Nat.reduceMul, Nat.reduceBEq, Int.reduceLT, Int.reduceAdd, Int.reduceMul, Int.reduceSub, Int.reduceToNat, Int.reduceLE, Int.reduceEq, ↓reduceIte, reduceCtorEq, Int.reduceNeg, Nat.reduceLeDiff,  b0, b1, b2, m0, m1, m2, blkAt_lo]
  refine callP_intro (fun G' => by rw [List.append_assoc]; exact gB _) ?_
  simp (maxSteps := 1000000) (disch := omega) only [go_sem, Nat.reduceEqDiff, Nat.reduceLT, Nat.reduceAdd, Nat.reduceSub, Nat.reduceMul, Nat.reduceBEq, Int.reduceLT, Int.reduceAdd, Int.reduceMul, Int.reduceSub, Int.reduceToNat, Int.reduceLE, Int.reduceEq, ↓reduceIte, reduceCtorEq, Int.reduceNeg, Nat.reduceLeDiff,  b0, b1, b2, m0, m1, m2, blkAt_lo]
  first | refine callB_intro (gA _) ?_ | refine callD_intro (gA _) ?_ | refine callP_intro (fun _ => (gA _)) ?_ | refine callX_pure (gA _) ?_
  simp (maxSteps := 1000000) (disch := omega) only [go_sem, Nat.reduceEqDiff, Nat.reduceLT, Nat.reduceAdd, Nat.reduceSub, Nat.reduceMul, Nat.reduceBEq, Int.reduceLT, Int.reduceAdd, Int.reduceMul, Int.reduceSub, Int.reduceToNat, Int.reduceLE, Int.reduceEq, ↓reduceIte, reduceCtorEq, Int.reduceNeg, Nat.reduceLeDiff]
  exact fin_ext (by simp) (hy4.to _) (by simp (maxSteps := 1000000) (disch := omega) only [resVal, resAll, resOne, rs8, Env.get, go_sem, Nat.reduceEqDiff, Nat.reduceLT, Nat.reduceAdd, Nat.reduceSub, Nat.reduceMul, Nat.reduceBEq, Int.reduceLT, Int.reduceAdd, Int.reduceMul, Int.reduceSub, Int.reduceToNat, Int.reduceLE, Int.reduceEq, ↓reduceIte, reduceCtorEq, Int.reduceNeg, Nat.reduceLeDiff]) (by simp only [AV.und, AV.unds, and_self])
end Go.Proofs.Ytjibphejlmiocaa.Ah
