/- V10w: a part of the proof: contracts of functions, or plain laws. Conditions: none. -/
import Derived.Test.YtjibcbfdfambeaaV10v
namespace Go.Proofs.Ytjibcbfdfambeaa.Ah
open Go Go.WideShapes
attribute [local irreducible] acs aopsK drawK leave condK bindR bindD bindX guardK guardD callB callD callX callP callPv
attribute [local go_sem] acs_nil acs_blk acs_skip acs_reg acs_dreg acs_seq acs_cond acs_block acs_exit acs_ret acs_kl acs_loop leave_nil leave_code leave_lp leave_blk aopsK_nil aopsK_cons aopsK_guard bindR_val bindR_need bindR_br bindR_call bindR_bad drawK_nil drawK_cons drawK_ext drawK_pur drawK_guard callPv_fn drawK_purv bindD_val bindD_need bindD_br bindD_call bindD_bad bindX_val bindX_need bindX_br bindX_call guardD_bool guardD_tup grows grows0 List.append_cancel_left_eq List.cons.injEq exists_eq' exists_eq condK_bool guardK_bool guardK_tup sor r0 r1 r2 r3 rC rB rI rP rA rT rS rF rSl rO rbin rcut run1 Env.evals Env.eval Env.get Env.put Env.ins Env.del Env.dels argEnv AV.full AV.cells AV.cell eqCells decide_true decide_false decide_eq_true_eq decide_eq_false_iff_not Bool.not_eq_true' Bool.not_eq_false' true_and and_true false_implies true_implies forall_const Bool.not_true Bool.not_false Bool.false_eq_true Bool.true_eq_false List.getElem?_cons_zero List.getElem?_cons_succ List.length_cons List.length_nil List.length_append List.all_cons List.all_nil Bool.and_true Bool.and_self implies_true List.append_assoc List.cons_append List.nil_append List.append_nil i64_in imin_eq imax_eq cast3 cast0 cast1 cast2 Option.map_none ite_self and_false false_and Option.isSome_some or_true true_or Int.sub_zero Int.mul_one Nat.sub_zero Nat.zero_le Int.cast_ofNat_Int Int.natCast_nonneg Int.toNat_natCast ne_eq not_false_eq_true not_true_eq_false strC blkAt_app blkAt_app0 blkAt_zero blkAt_succ List.set_cons_zero List.set_cons_succ set_app set_app0 Option.map_some Option.bind_some rd setCells lay rdS szOk rapp ownAt lenAt Option.any_some Option.getD_some List.drop_zero List.drop_succ_cons List.take_succ_cons List.take_zero List.drop_nil List.take_nil Nat.lt_irrefl Nat.zero_add Nat.add_zero Nat.mul_one Nat.one_mul Nat.add_assoc Option.some.injEq eq_self
set_option maxHeartbeats 4000000
set_option linter.unusedSimpArgs false
set_option linter.unusedVariables false
/-! The law NvramTells. -/
theorem f8 (S : Stt) (us : List Int) (q oq : Nat) (kq : Option Nat) (done : Int) (H : Heap) (h0 : Sl i64 H S.p0 S.o0 S.ws) (h1 : Sl i64 H S.p1 S.o1 S.vs) (hu : Sl i64 H q oq us) (l0 : S.ws.length ≤ 140737488351232) (l1 : S.vs.length ≤ 140737488351232) (lu : us.length ≤ 140737488351232) :
    ACall Try.prog 8 [.agg S.av, .sl q oq us.length 1 kq, .int .i64 done] H (.bool true) H := by
  refine acall8 (by simp) (acs_start ?_)
  have gF : ∀ Hx, ACall Try.prog 11 [.agg S.av, .sl q oq us.length 1 kq] Hx (.bool (decide (S.ws.length + S.vs.length + us.length ≤ 900))) Hx := fun Hx => f11 (by omega) (by omega) (by omega)
  have av1 := av_len S
  have av2 := av_all S
  have av3 := av_take S
  unfold c8
  by_cases few : S.ws.length + S.vs.length + us.length ≤ 900
  rotate_left
  · rw [decide_eq_false few] at gF
    simp (maxSteps := 1000000) (disch := omega) only [go_sem, Nat.reduceEqDiff, Nat.reduceLT, Nat.reduceAdd, Nat.reduceSub, Nat.reduceMul, Nat.reduceBEq, Int.reduceLT, Int.reduceAdd, Int.reduceMul, Int.reduceSub, Int.reduceToNat, Int.reduceLE, Int.reduceEq, ↓reduceIte, reduceCtorEq, Int.reduceNeg, Nat.reduceLeDiff,  av1, av2, av3]
    first | refine callB_intro (f10 _) ?_ | refine callD_intro (f10 _) ?_ | refine callP_intro (fun _ => (f10 _)) ?_ | refine callX_pure (f10 _) ?_
    simp (maxSteps := 1000000) (disch := omega) only [go_sem, Nat.reduceEqDiff, Nat.reduceLT, Nat.reduceAdd, Nat.reduceSub, Nat.reduceMul, Nat.reduceBEq, Int.reduceLT, Int.reduceAdd, Int.reduceMul, Int.reduceSub, Int.reduceToNat, Int.reduceLE, Int.reduceEq, ↓reduceIte, reduceCtorEq, Int.reduceNeg, Nat.reduceLeDiff,  av1, av2, av3]
    first | refine callB_intro (gF _) ?_ | refine callD_intro (gF _) ?_ | refine callP_intro (fun _ => (gF _)) ?_ | refine callX_pure (gF _) ?_
    simp (maxSteps := 1000000) (disch := omega) only [go_sem, Nat.reduceEqDiff, Nat.reduceLT, Nat.reduceAdd, Nat.reduceSub, Nat.reduceMul, Nat.reduceBEq, Int.reduceLT, Int.reduceAdd, Int.reduceMul, Int.reduceSub, Int.reduceToNat, Int.reduceLE, Int.reduceEq, ↓reduceIte, reduceCtorEq, Int.reduceNeg, Nat.reduceLeDiff]
    exact fin_same (by simp) _ (by first | exact (List.append_nil _).symm | rfl) (by simp (maxSteps := 1000000) (disch := omega) only [resVal, resAll, resOne, rs8, Env.get, go_sem, Nat.reduceEqDiff, Nat.reduceLT, Nat.reduceAdd, Nat.reduceSub, Nat.reduceMul, Nat.reduceBEq, Int.reduceLT, Int.reduceAdd, Int.reduceMul, Int.reduceSub, Int.reduceToNat, Int.reduceLE, Int.reduceEq, ↓reduceIte, reduceCtorEq, Int.reduceNeg, Nat.reduceLeDiff]) (by simp only [AV.und, AV.unds, and_self])
  rw [decide_eq_true few] at gF
  have ok : S.ok H := ⟨h0, h1, by omega, by omega⟩
  have lu' : us.length ≤ 1000 := by omega
  simp (maxSteps := 1000000) (disch := omega) only [go_sem, Nat.reduceEqDiff, Nat.reduceLT, Nat.reduceAdd, Nat.reduceSub, Nat.reduceMul, Nat.reduceBEq, Int.reduceLT, Int.reduceAdd, Int.reduceMul, Int.reduceSub, Int.reduceToNat, Int.reduceLE, Int.reduceEq, ↓reduceIte, reduceCtorEq, Int.reduceNeg, Nat.reduceLeDiff,  av1, av2, av3]
  first | refine callB_intro (f10 _) ?_ | refine callD_intro (f10 _) ?_ | refine callP_intro (fun _ => (f10 _)) ?_ | refine callX_pure (f10 _) ?_
  simp (maxSteps := 1000000) (disch := omega) only [go_sem, Nat.reduceEqDiff, Nat.reduceLT, Nat.reduceAdd, Nat.reduceSub, Nat.reduceMul, Nat.reduceBEq, Int.reduceLT, Int.reduceAdd, Int.reduceMul, Int.reduceSub, Int.reduceToNat, Int.reduceLE, Int.reduceEq, ↓reduceIte, reduceCtorEq, Int.reduceNeg, Nat.reduceLeDiff,  av1, av2, av3]
  first | refine callB_intro (gF _) ?_ | refine callD_intro (gF _) ?_ | refine callP_intro (fun _ => (gF _)) ?_ | refine callX_pure (gF _) ?_
  simp (maxSteps := 1000000) (disch := omega) only [go_sem, Nat.reduceEqDiff, Nat.reduceLT, Nat.reduceAdd, Nat.reduceSub, Nat.reduceMul, Nat.reduceBEq, Int.reduceLT, Int.reduceAdd, Int.reduceMul, Int.reduceSub, Int.reduceToNat, Int.reduceLE, Int.reduceEq, ↓reduceIte, reduceCtorEq, Int.reduceNeg, Nat.reduceLeDiff,  av1, av2, av3]
  first | refine callBE (f12_t (ok.app _)) ?_ | refine callDE (f12_t (ok.app _)) ?_ | refine callXE (f12_t (ok.app _)) ?_
  rintro v1 H1 hx1 ⟨w1, rfl, p1, f1, c1, rfl, s1⟩
  have b0 : blkAt H1 H.length = some ⟨S.av, true⟩ := hx1.blk (by simp only [go_sem, Nat.reduceEqDiff, Nat.reduceLT, Nat.reduceAdd, Nat.reduceSub, Nat.reduceMul, Nat.reduceBEq, Int.reduceLT, Int.reduceAdd, Int.reduceMul, Int.reduceSub, Int.reduceToNat, Int.reduceLE, Int.reduceEq, ↓reduceIte, reduceCtorEq, Int.reduceNeg, Nat.reduceLeDiff])
  have bl0 := blkAt_lt b0
  have hy1 : Ext H H1 := (Ext.app _ _).trans hx1
  replace ok := ok.ext hy1
  replace hu := hy1.sl hu
  simp (maxSteps := 1000000) (disch := omega) only [go_sem, Nat.reduceEqDiff, Nat.reduceLT, Nat.reduceAdd, Nat.reduceSub, Nat.reduceMul, Nat.reduceBEq, Int.reduceLT, Int.reduceAdd, Int.reduceMul, Int.reduceSub, Int.reduceToNat, Int.reduceLE, Int.reduceEq, ↓reduceIte, reduceCtorEq, Int.reduceNeg, Nat.reduceLeDiff,  av1, av2, av3, b0, bl0]
  first | refine callBE (f20 ok) ?_ | refine callDE (f20 ok) ?_ | refine callXE (f20 ok) ?_
  rintro v2 H2 hx2 ⟨w2, rfl, p2, f2, c2, rfl, s2⟩
  replace b0 := hx2.blk b0
  have bl0 := blkAt_lt b0
  replace ok := ok.ext hx2
  replace hu := hx2.sl hu
  replace s1 := hx2.sl s1
  simp (maxSteps := 1000000) (disch := omega) only [go_sem, Nat.reduceEqDiff, Nat.reduceLT, Nat.reduceAdd, Nat.reduceSub, Nat.reduceMul, Nat.reduceBEq, Int.reduceLT, Int.reduceAdd, Int.reduceMul, Int.reduceSub, Int.reduceToNat, Int.reduceLE, Int.reduceEq, ↓reduceIte, reduceCtorEq, Int.reduceNeg, Nat.reduceLeDiff,  av1, av2, av3, b0, bl0]
  first | refine callBE (f13_t ok hu lu') ?_ | refine callDE (f13_t ok hu lu') ?_ | refine callXE (f13_t ok hu lu') ?_
  rintro v3 H3 hx3 ⟨S1, rfl, k1, e1⟩
  replace b0 := hx3.blk b0
  have bl0 := blkAt_lt b0
  replace ok := ok.ext hx3
  replace hu := hx3.sl hu
  replace s1 := hx3.sl s1
  replace s2 := hx3.sl s2
  have a1 := av_len S1
  have a2 := av_all S1
  have a3 := av_take S1
  simp (maxSteps := 1000000) (disch := omega) only [go_sem, Nat.reduceEqDiff, Nat.reduceLT, Nat.reduceAdd, Nat.reduceSub, Nat.reduceMul, Nat.reduceBEq, Int.reduceLT, Int.reduceAdd, Int.reduceMul, Int.reduceSub, Int.reduceToNat, Int.reduceLE, Int.reduceEq, ↓reduceIte, reduceCtorEq, Int.reduceNeg, Nat.reduceLeDiff,  av1, av2, av3, b0, bl0, blkAt_lo, set_lo, a1, a2, a3]
  first | refine callBE (f21 (ok.app _) (hu.app _) lu') ?_ | refine callDE (f21 (ok.app _) (hu.app _) lu') ?_ | refine callXE (f21 (ok.app _) (hu.app _) lu') ?_
  rintro v4 H4 hx4 ⟨S2, rfl, k2, e2⟩
  have b1 : blkAt H4 H3.length = some ⟨S1.av, true⟩ := hx4.blk (by simp only [go_sem, Nat.reduceEqDiff, Nat.reduceLT, Nat.reduceAdd, Nat.reduceSub, Nat.reduceMul, Nat.reduceBEq, Int.reduceLT, Int.reduceAdd, Int.reduceMul, Int.reduceSub, Int.reduceToNat, Int.reduceLE, Int.reduceEq, ↓reduceIte, reduceCtorEq, Int.reduceNeg, Nat.reduceLeDiff])
  have hy4 : Ext H3 H4 := (Ext.app _ _).trans hx4
  replace b0 := hy4.blk b0
  have bl0 := blkAt_lt b0
  have bl1 := blkAt_lt b1
  replace ok := ok.ext hy4
  replace k1 := k1.ext hy4
  replace hu := hy4.sl hu
  replace s1 := hy4.sl s1
  replace s2 := hy4.sl s2
  have d1 := av_len S2
  have d2 := av_all S2
  have d3 := av_take S2
  simp (maxSteps := 1000000) (disch := omega) only [go_sem, Nat.reduceEqDiff, Nat.reduceLT, Nat.reduceAdd, Nat.reduceSub, Nat.reduceMul, Nat.reduceBEq, Int.reduceLT, Int.reduceAdd, Int.reduceMul, Int.reduceSub, Int.reduceToNat, Int.reduceLE, Int.reduceEq, ↓reduceIte, reduceCtorEq, Int.reduceNeg, Nat.reduceLeDiff,  av1, av2, av3, b0, bl0, blkAt_lo, set_lo, d1, d2, d3]
  first | refine callBE (f16_t (ok.app _) (hu.app _) lu') ?_ | refine callDE (f16_t (ok.app _) (hu.app _) lu') ?_ | refine callXE (f16_t (ok.app _) (hu.app _) lu') ?_
  rintro v5 H5 hx5 ⟨S3, rfl, k3, e3⟩
  have b2 : blkAt H5 H4.length = some ⟨S2.av, true⟩ := hx5.blk (by simp only [go_sem, Nat.reduceEqDiff, Nat.reduceLT, Nat.reduceAdd, Nat.reduceSub, Nat.reduceMul, Nat.reduceBEq, Int.reduceLT, Int.reduceAdd, Int.reduceMul, Int.reduceSub, Int.reduceToNat, Int.reduceLE, Int.reduceEq, ↓reduceIte, reduceCtorEq, Int.reduceNeg, Nat.reduceLeDiff])
  have hy5 : Ext H4 H5 := (Ext.app _ _).trans hx5
  replace b0 := hy5.blk b0
  replace b1 := hy5.blk b1
  have bl0 := blkAt_lt b0
  have bl1 := blkAt_lt b1
  have bl2 := blkAt_lt b2
  replace ok := ok.ext hy5
  replace k1 := k1.ext hy5
  replace k2 := k2.ext hy5
  replace hu := hy5.sl hu
  replace s1 := hy5.sl s1
  replace s2 := hy5.sl s2
  have m1 := av_len S3
  have m2 := av_all S3
  have m3 := av_take S3
  simp (maxSteps := 1000000) (disch := omega) only [go_sem, Nat.reduceEqDiff, Nat.reduceLT, Nat.reduceAdd, Nat.reduceSub, Nat.reduceMul, Nat.reduceBEq, Int.reduceLT, Int.reduceAdd, Int.reduceMul, Int.reduceSub, Int.reduceToNat, Int.reduceLE, Int.reduceEq, ↓reduceIte, reduceCtorEq, Int.reduceNeg, Nat.reduceLeDiff,  av1, av2, av3, b0, bl0, blkAt_lo, set_lo, m1, m2, m3]
  first | refine callBE (f22 (ok.app _) (hu.app _) lu') ?_ | refine callDE (f22 (ok.app _) (hu.app _) lu') ?_ | refine callXE (f22 (ok.app _) (hu.app _) lu') ?_
  rintro v6 H6 hx6 ⟨S4, rfl, k4, e4⟩
  have b3 : blkAt H6 H5.length = some ⟨S3.av, true⟩ := hx6.blk (by simp only [go_sem, Nat.reduceEqDiff, Nat.reduceLT, Nat.reduceAdd, Nat.reduceSub, Nat.reduceMul, Nat.reduceBEq, Int.reduceLT, Int.reduceAdd, Int.reduceMul, Int.reduceSub, Int.reduceToNat, Int.reduceLE, Int.reduceEq, ↓reduceIte, reduceCtorEq, Int.reduceNeg, Nat.reduceLeDiff])
  have hy6 : Ext H5 H6 := (Ext.app _ _).trans hx6
  replace b0 := hy6.blk b0
  replace b1 := hy6.blk b1
  replace b2 := hy6.blk b2
  have bl0 := blkAt_lt b0
  have bl1 := blkAt_lt b1
  have bl2 := blkAt_lt b2
  have bl3 := blkAt_lt b3
  replace ok := ok.ext hy6
  replace k1 := k1.ext hy6
  replace k2 := k2.ext hy6
  replace k3 := k3.ext hy6
  replace hu := hy6.sl hu
  replace s1 := hy6.sl s1
  replace s2 := hy6.sl s2
  have n1 := av_len S4
  have n2 := av_all S4
  have n3 := av_take S4
  have hy : Ext H H6 := ((((hy1.trans hx2).trans hx3).trans hy4).trans hy5).trans hy6
  have lr : (rdP S.pu).length ≤ 1000 := by
    have := ok.l0
    have := ok.l1
    unfold rdP
    split
    · simp
    · split <;> (rw [List.length_drop]; show (List.length _) - 1 ≤ 1000; first | (show S.ws.length - 1 ≤ 1000; omega) | (show S.vs.length - 1 ≤ 1000; omega))
  have gI := fun G => f15 (c1 := c1) (c2 := c2) (s1.app G) (s2.app G) (by omega)
  have gC := fun G => f19 (cp := kq) (hu.app G) (by omega)
  have gD := fun G => f18 (cp := kq) (hu.app G) (by omega)
  have gS := fun G G' => f23 ((k1.app G).app G') ((ok.app G).app G')
  have gT := fun G => f14 (k1.app G) (ok.app G)
  have gU := fun G => f14 (k1.app G) (k2.app G)
  have gV := fun G => f14 (k3.app G) (k4.app G)
  have gW := fun H => @f17 us.length q oq kq H (by omega)
  have gX := fun H => @f24 us.length q oq kq H (by omega)
  rw [e1, e2] at gU
  rw [e3, e4] at gV
  simp only [decide_true] at gI gU gV
  clear hx1 hx2 hx3 hx4 hx5 hx6 hy1 hy4 hy5 hy6
  simp (maxSteps := 1000000) (disch := omega) only [go_sem, Nat.reduceEqDiff, Nat.reduceLT, Nat.reduceAdd, Nat.reduceSub, Nat.reduceMul, Nat.reduceBEq, Int.reduceLT, Int.reduceAdd, Int.reduceMul, Int.reduceSub, Int.reduceToNat, Int.reduceLE, Int.reduceEq, ↓reduceIte, reduceCtorEq, Int.reduceNeg, Nat.reduceLeDiff,  av1, av2, av3, b0, bl0, b1, bl1, b2, bl2, b3, bl3, blkAt_lo, set_lo, n1, n2, n3]
  first | refine callB_intro (gI _) ?_ | refine callD_intro (gI _) ?_ | refine callP_intro (fun _ => (gI _)) ?_ | refine callX_pure (gI _) ?_
  simp (maxSteps := 1000000) (disch := omega) only [go_sem, Nat.reduceEqDiff, Nat.reduceLT, Nat.reduceAdd, Nat.reduceSub, Nat.reduceMul, Nat.reduceBEq, Int.reduceLT, Int.reduceAdd, Int.reduceMul, Int.reduceSub, Int.reduceToNat, Int.reduceLE, Int.reduceEq, ↓reduceIte, reduceCtorEq, Int.reduceNeg, Nat.reduceLeDiff,  b0, bl0, b1, bl1, b2, bl2, b3, bl3, blkAt_lo]
  first | refine callB_intro (gC _) ?_ | refine callD_intro (gC _) ?_ | refine callP_intro (fun _ => (gC _)) ?_ | refine callX_pure (gC _) ?_
  simp (maxSteps := 1000000) (disch := omega) only [go_sem, Nat.reduceEqDiff, Nat.reduceLT, Nat.reduceAdd, Nat.reduceSub, Nat.reduceMul, Nat.reduceBEq, Int.reduceLT, Int.reduceAdd, Int.reduceMul, Int.reduceSub, Int.reduceToNat, Int.reduceLE, Int.reduceEq, ↓reduceIte, reduceCtorEq, Int.reduceNeg, Nat.reduceLeDiff,  b0, bl0, b1, bl1, b2, bl2, b3, bl3, blkAt_lo]
  first | refine callB_intro (gD _) ?_ | refine callD_intro (gD _) ?_ | refine callP_intro (fun _ => (gD _)) ?_ | refine callX_pure (gD _) ?_
  simp (maxSteps := 1000000) (disch := omega) only [go_sem, Nat.reduceEqDiff, Nat.reduceLT, Nat.reduceAdd, Nat.reduceSub, Nat.reduceMul, Nat.reduceBEq, Int.reduceLT, Int.reduceAdd, Int.reduceMul, Int.reduceSub, Int.reduceToNat, Int.reduceLE, Int.reduceEq, ↓reduceIte, reduceCtorEq, Int.reduceNeg, Nat.reduceLeDiff,  av1, av3, a1, a3, b0, bl0, b1, bl1, b2, bl2, b3, bl3, blkAt_lo]
  refine callP_intro (fun G' => gS _ G') ?_
  simp (maxSteps := 1000000) (disch := omega) only [go_sem, Nat.reduceEqDiff, Nat.reduceLT, Nat.reduceAdd, Nat.reduceSub, Nat.reduceMul, Nat.reduceBEq, Int.reduceLT, Int.reduceAdd, Int.reduceMul, Int.reduceSub, Int.reduceToNat, Int.reduceLE, Int.reduceEq, ↓reduceIte, reduceCtorEq, Int.reduceNeg, Nat.reduceLeDiff,  av1, av3, a1, a3, b0, bl0, b1, bl1, b2, bl2, b3, bl3, blkAt_lo]
  first | refine callB_intro (gT _) ?_ | refine callD_intro (gT _) ?_ | refine callP_intro (fun _ => (gT _)) ?_ | refine callX_pure (gT _) ?_
  simp (maxSteps := 1000000) (disch := omega) only [go_sem, Nat.reduceEqDiff, Nat.reduceLT, Nat.reduceAdd, Nat.reduceSub, Nat.reduceMul, Nat.reduceBEq, Int.reduceLT, Int.reduceAdd, Int.reduceMul, Int.reduceSub, Int.reduceToNat, Int.reduceLE, Int.reduceEq, ↓reduceIte, reduceCtorEq, Int.reduceNeg, Nat.reduceLeDiff,  a1, a3, d1, d3, b0, bl0, b1, bl1, b2, bl2, b3, bl3, blkAt_lo]
  first | refine callB_intro (gU _) ?_ | refine callD_intro (gU _) ?_ | refine callP_intro (fun _ => (gU _)) ?_ | refine callX_pure (gU _) ?_
  simp (maxSteps := 1000000) (disch := omega) only [go_sem, Nat.reduceEqDiff, Nat.reduceLT, Nat.reduceAdd, Nat.reduceSub, Nat.reduceMul, Nat.reduceBEq, Int.reduceLT, Int.reduceAdd, Int.reduceMul, Int.reduceSub, Int.reduceToNat, Int.reduceLE, Int.reduceEq, ↓reduceIte, reduceCtorEq, Int.reduceNeg, Nat.reduceLeDiff,  m1, m3, n1, n3, b0, bl0, b1, bl1, b2, bl2, b3, bl3, blkAt_lo]
  first | refine callB_intro (gV _) ?_ | refine callD_intro (gV _) ?_ | refine callP_intro (fun _ => (gV _)) ?_ | refine callX_pure (gV _) ?_
  simp (maxSteps := 1000000) (disch := omega) only [go_sem, Nat.reduceEqDiff, Nat.reduceLT, Nat.reduceAdd, Nat.reduceSub, Nat.reduceMul, Nat.reduceBEq, Int.reduceLT, Int.reduceAdd, Int.reduceMul, Int.reduceSub, Int.reduceToNat, Int.reduceLE, Int.reduceEq, ↓reduceIte, reduceCtorEq, Int.reduceNeg, Nat.reduceLeDiff]
  first | refine callB_intro (gW _) ?_ | refine callD_intro (gW _) ?_ | refine callP_intro (fun _ => (gW _)) ?_ | refine callX_pure (gW _) ?_
  simp (maxSteps := 1000000) (disch := omega) only [go_sem, Nat.reduceEqDiff, Nat.reduceLT, Nat.reduceAdd, Nat.reduceSub, Nat.reduceMul, Nat.reduceBEq, Int.reduceLT, Int.reduceAdd, Int.reduceMul, Int.reduceSub, Int.reduceToNat, Int.reduceLE, Int.reduceEq, ↓reduceIte, reduceCtorEq, Int.reduceNeg, Nat.reduceLeDiff]
  first | refine callB_intro (gX _) ?_ | refine callD_intro (gX _) ?_ | refine callP_intro (fun _ => (gX _)) ?_ | refine callX_pure (gX _) ?_
  simp (maxSteps := 1000000) (disch := omega) only [go_sem, Nat.reduceEqDiff, Nat.reduceLT, Nat.reduceAdd, Nat.reduceSub, Nat.reduceMul, Nat.reduceBEq, Int.reduceLT, Int.reduceAdd, Int.reduceMul, Int.reduceSub, Int.reduceToNat, Int.reduceLE, Int.reduceEq, ↓reduceIte, reduceCtorEq, Int.reduceNeg, Nat.reduceLeDiff]
  exact fin_ext (by simp) (hy.to _) (by simp (maxSteps := 1000000) (disch := omega) only [resVal, resAll, resOne, rs8, Env.get, go_sem, Nat.reduceEqDiff, Nat.reduceLT, Nat.reduceAdd, Nat.reduceSub, Nat.reduceMul, Nat.reduceBEq, Int.reduceLT, Int.reduceAdd, Int.reduceMul, Int.reduceSub, Int.reduceToNat, Int.reduceLE, Int.reduceEq, ↓reduceIte, reduceCtorEq, Int.reduceNeg, Nat.reduceLeDiff]) (by simp only [AV.und, AV.unds, and_self])
end Go.Proofs.Ytjibcbfdfambeaa.Ah
