/- V10x: a part of the proof: contracts of functions, or plain laws. Conditions: none. -/
import Derived.Test.YtjibcbfdfambeaaV10v
namespace Go.Proofs.Ytjibcbfdfambeaa.Ah
open Go Go.WideShapes
attribute [local irreducible] acs aopsK drawK leave condK bindR bindD bindX guardK guardD callB callD callX callP callPv
attribute [local go_sem] acs_nil acs_blk acs_skip acs_reg acs_dreg acs_seq acs_cond acs_block acs_exit acs_ret acs_kl acs_loop leave_nil leave_code leave_lp leave_blk aopsK_nil aopsK_cons aopsK_guard bindR_val bindR_need bindR_br bindR_call bindR_bad drawK_nil drawK_cons drawK_ext drawK_pur drawK_guard callPv_fn drawK_purv bindD_val bindD_need bindD_br bindD_call bindD_bad bindX_val bindX_need bindX_br bindX_call guardD_bool guardD_tup grows grows0 List.append_cancel_left_eq List.cons.injEq exists_eq' exists_eq condK_bool guardK_bool guardK_tup sor r0 r1 r2 r3 rC rB rI rP rA rT rS rF rSl rO rbin rcut run1 Env.evals Env.eval Env.get Env.put Env.ins Env.del Env.dels argEnv AV.full AV.cells AV.cell eqCells decide_true decide_false decide_eq_true_eq decide_eq_false_iff_not Bool.not_eq_true' Bool.not_eq_false' true_and and_true false_implies true_implies forall_const Bool.not_true Bool.not_false Bool.false_eq_true Bool.true_eq_false List.getElem?_cons_zero List.getElem?_cons_succ List.length_cons List.length_nil List.length_append List.all_cons List.all_nil Bool.and_true Bool.and_self implies_true List.append_assoc List.cons_append List.nil_append List.append_nil i64_in imin_eq imax_eq cast3 cast0 cast1 cast2 Option.map_none ite_self and_false false_and Option.isSome_some or_true true_or Int.sub_zero Int.mul_one Nat.sub_zero Nat.zero_le Int.cast_ofNat_Int Int.natCast_nonneg Int.toNat_natCast ne_eq not_false_eq_true not_true_eq_false strC blkAt_app blkAt_app0 blkAt_zero blkAt_succ List.set_cons_zero List.set_cons_succ set_app set_app0 Option.map_some Option.bind_some rd setCells lay rdS szOk rapp ownAt lenAt Option.any_some Option.getD_some List.drop_zero List.drop_succ_cons List.take_succ_cons List.take_zero List.drop_nil List.take_nil Nat.lt_irrefl Nat.zero_add Nat.add_zero Nat.mul_one Nat.one_mul Nat.add_assoc Option.some.injEq eq_self
set_option maxHeartbeats 4000000
set_option linter.unusedSimpArgs false
set_option linter.unusedVariables false
/-! The law NvramNone. -/
theorem f9 (S : Stt) (us : List Int) (q oq : Nat) (kq : Option Nat) (H : Heap) (h0 : Sl i64 H S.p0 S.o0 S.ws) (h1 : Sl i64 H S.p1 S.o1 S.vs) (hu : Sl i64 H q oq us) (l0 : S.ws.length ≤ 140737488351232) (l1 : S.vs.length ≤ 140737488351232) (lu : us.length ≤ 140737488351232) :
    ACall Try.prog 9 [.agg S.av, .sl q oq us.length 1 kq] H (.bool true) H := by
  refine acall9 (by simp) (acs_start ?_)
  have gF : ∀ Hx, ACall Try.prog 11 [.agg S.av, .sl q oq us.length 1 kq] Hx (.bool (decide (S.ws.length + S.vs.length + us.length ≤ 900))) Hx := fun Hx => f11 (by omega) (by omega) (by omega)
  have av1 := av_len S
  have av2 := av_all S
  have av3 := av_take S
  unfold c9
  by_cases few : S.ws.length + S.vs.length + us.length ≤ 900
  rotate_left
  · rw [decide_eq_false few] at gF
    simp (maxSteps := 1000000) (disch := omega) only [go_sem, Nat.reduceEqDiff, Nat.reduceLT, Nat.reduceAdd, Nat.reduceSub, Nat.reduceMul, Nat.reduceBEq, Int.reduceLT, Int.reduceAdd, Int.reduceMul, Int.reduceSub, Int.reduceToNat, Int.reduceLE, Int.reduceEq, ↓reduceIte, reduceCtorEq, Int.reduceNeg, Nat.reduceLeDiff,  av1, av2, av3]
    first | refine callB_intro (f10 _) ?_ | refine callD_intro (f10 _) ?_ | refine callP_intro (fun _ => (f10 _)) ?_ | refine callX_pure (f10 _) ?_
    simp (maxSteps := 1000000) (disch := omega) only [go_sem, Nat.reduceEqDiff, Nat.reduceLT, Nat.reduceAdd, Nat.reduceSub, Nat.reduceMul, Nat.reduceBEq, Int.reduceLT, Int.reduceAdd, Int.reduceMul, Int.reduceSub, Int.reduceToNat, Int.reduceLE, Int.reduceEq, ↓reduceIte, reduceCtorEq, Int.reduceNeg, Nat.reduceLeDiff,  av1, av2, av3]
    first | refine callB_intro (gF _) ?_ | refine callD_intro (gF _) ?_ | refine callP_intro (fun _ => (gF _)) ?_ | refine callX_pure (gF _) ?_
    simp (maxSteps := 1000000) (disch := omega) only [go_sem, Nat.reduceEqDiff, Nat.reduceLT, Nat.reduceAdd, Nat.reduceSub, Nat.reduceMul, Nat.reduceBEq, Int.reduceLT, Int.reduceAdd, Int.reduceMul, Int.reduceSub, Int.reduceToNat, Int.reduceLE, Int.reduceEq, ↓reduceIte, reduceCtorEq, Int.reduceNeg, Nat.reduceLeDiff]
    exact fin_same (by simp) _ (by first | exact (List.append_nil _).symm | rfl) (by simp (maxSteps := 1000000) (disch := omega) only [resVal, resAll, resOne, rs9, Env.get, go_sem, Nat.reduceEqDiff, Nat.reduceLT, Nat.reduceAdd, Nat.reduceSub, Nat.reduceMul, Nat.reduceBEq, Int.reduceLT, Int.reduceAdd, Int.reduceMul, Int.reduceSub, Int.reduceToNat, Int.reduceLE, Int.reduceEq, ↓reduceIte, reduceCtorEq, Int.reduceNeg, Nat.reduceLeDiff]) (by simp only [AV.und, AV.unds, and_self])
  rw [decide_eq_true few] at gF
  have ok : S.ok H := ⟨h0, h1, by omega, by omega⟩
  have lu' : us.length ≤ 1000 := by omega
  by_cases hb : us.length ≤ 600
  rotate_left
  · have hb1 : (600 : Int) < (us.length : Int) := by omega
    simp (maxSteps := 1000000) (disch := omega) only [go_sem, Nat.reduceEqDiff, Nat.reduceLT, Nat.reduceAdd, Nat.reduceSub, Nat.reduceMul, Nat.reduceBEq, Int.reduceLT, Int.reduceAdd, Int.reduceMul, Int.reduceSub, Int.reduceToNat, Int.reduceLE, Int.reduceEq, ↓reduceIte, reduceCtorEq, Int.reduceNeg, Nat.reduceLeDiff,  av1, av2, av3]
    first | refine callB_intro (f10 _) ?_ | refine callD_intro (f10 _) ?_ | refine callP_intro (fun _ => (f10 _)) ?_ | refine callX_pure (f10 _) ?_
    simp (maxSteps := 1000000) (disch := omega) only [go_sem, Nat.reduceEqDiff, Nat.reduceLT, Nat.reduceAdd, Nat.reduceSub, Nat.reduceMul, Nat.reduceBEq, Int.reduceLT, Int.reduceAdd, Int.reduceMul, Int.reduceSub, Int.reduceToNat, Int.reduceLE, Int.reduceEq, ↓reduceIte, reduceCtorEq, Int.reduceNeg, Nat.reduceLeDiff,  av1, av2, av3]
    first | refine callB_intro (gF _) ?_ | refine callD_intro (gF _) ?_ | refine callP_intro (fun _ => (gF _)) ?_ | refine callX_pure (gF _) ?_
    simp (maxSteps := 1000000) (disch := omega) only [go_sem, Nat.reduceEqDiff, Nat.reduceLT, Nat.reduceAdd, Nat.reduceSub, Nat.reduceMul, Nat.reduceBEq, Int.reduceLT, Int.reduceAdd, Int.reduceMul, Int.reduceSub, Int.reduceToNat, Int.reduceLE, Int.reduceEq, ↓reduceIte, reduceCtorEq, Int.reduceNeg, Nat.reduceLeDiff,  hb1]
    exact fin_same (by simp) _ (by first | exact (List.append_nil _).symm | rfl) (by simp (maxSteps := 1000000) (disch := omega) only [resVal, resAll, resOne, rs9, Env.get, go_sem, Nat.reduceEqDiff, Nat.reduceLT, Nat.reduceAdd, Nat.reduceSub, Nat.reduceMul, Nat.reduceBEq, Int.reduceLT, Int.reduceAdd, Int.reduceMul, Int.reduceSub, Int.reduceToNat, Int.reduceLE, Int.reduceEq, ↓reduceIte, reduceCtorEq, Int.reduceNeg, Nat.reduceLeDiff]) (by simp only [AV.und, AV.unds, and_self])
  have hb1 : ¬ (600 : Int) < (us.length : Int) := by omega
  have hb2 : ¬ 600 < us.length := by omega
  simp (maxSteps := 1000000) (disch := omega) only [go_sem, Nat.reduceEqDiff, Nat.reduceLT, Nat.reduceAdd, Nat.reduceSub, Nat.reduceMul, Nat.reduceBEq, Int.reduceLT, Int.reduceAdd, Int.reduceMul, Int.reduceSub, Int.reduceToNat, Int.reduceLE, Int.reduceEq, ↓reduceIte, reduceCtorEq, Int.reduceNeg, Nat.reduceLeDiff,  av1, av2, av3]
  first | refine callB_intro (f10 _) ?_ | refine callD_intro (f10 _) ?_ | refine callP_intro (fun _ => (f10 _)) ?_ | refine callX_pure (f10 _) ?_
  simp (maxSteps := 1000000) (disch := omega) only [go_sem, Nat.reduceEqDiff, Nat.reduceLT, Nat.reduceAdd, Nat.reduceSub, Nat.reduceMul, Nat.reduceBEq, Int.reduceLT, Int.reduceAdd, Int.reduceMul, Int.reduceSub, Int.reduceToNat, Int.reduceLE, Int.reduceEq, ↓reduceIte, reduceCtorEq, Int.reduceNeg, Nat.reduceLeDiff,  av1, av2, av3]
  first | refine callB_intro (gF _) ?_ | refine callD_intro (gF _) ?_ | refine callP_intro (fun _ => (gF _)) ?_ | refine callX_pure (gF _) ?_
  simp (maxSteps := 1000000) (disch := omega) only [go_sem, Nat.reduceEqDiff, Nat.reduceLT, Nat.reduceAdd, Nat.reduceSub, Nat.reduceMul, Nat.reduceBEq, Int.reduceLT, Int.reduceAdd, Int.reduceMul, Int.reduceSub, Int.reduceToNat, Int.reduceLE, Int.reduceEq, ↓reduceIte, reduceCtorEq, Int.reduceNeg, Nat.reduceLeDiff,  av1, av2, av3, hb1]
  first | refine callBE (f12_t (ok.app _)) ?_ | refine callDE (f12_t (ok.app _)) ?_ | refine callXE (f12_t (ok.app _)) ?_
  rintro v1 H1 hx1 ⟨w1, rfl, p1, f1, c1, rfl, s1⟩
  have hy1 : Ext H H1 := (Ext.app _ _).trans hx1
  have b0 : blkAt H1 H.length = some ⟨S.av, true⟩ := hx1.blk (by simp only [go_sem, Nat.reduceEqDiff, Nat.reduceLT, Nat.reduceAdd, Nat.reduceSub, Nat.reduceMul, Nat.reduceBEq, Int.reduceLT, Int.reduceAdd, Int.reduceMul, Int.reduceSub, Int.reduceToNat, Int.reduceLE, Int.reduceEq, ↓reduceIte, reduceCtorEq, Int.reduceNeg, Nat.reduceLeDiff])
  have bl0 := blkAt_lt b0
  rcases nw_cases S.ws S.c0 S.vs S.c1 with ⟨hw, a, b⟩ | ⟨hw, a, b⟩ | ⟨hw, a, b⟩
  rotate_left
  · have en : nwP S.pu = 0 := hw
    have e1 : onP S.pu = true := by simp [onP, en]
    have e2 : 0 ≤ lastP S.pu := by have := (wh_hd a).1; simp only [lastP, en, Int.reduceNeg, Int.reduceEq, ↓reduceIte]; exact this
    rw [e1]
    simp (maxSteps := 1000000) (disch := omega) only [go_sem, Nat.reduceEqDiff, Nat.reduceLT, Nat.reduceAdd, Nat.reduceSub, Nat.reduceMul, Nat.reduceBEq, Int.reduceLT, Int.reduceAdd, Int.reduceMul, Int.reduceSub, Int.reduceToNat, Int.reduceLE, Int.reduceEq, ↓reduceIte, reduceCtorEq, Int.reduceNeg, Nat.reduceLeDiff,  e2]
    exact fin_ext (by simp) hy1 (by simp (maxSteps := 1000000) (disch := omega) only [resVal, resAll, resOne, rs9, Env.get, go_sem, Nat.reduceEqDiff, Nat.reduceLT, Nat.reduceAdd, Nat.reduceSub, Nat.reduceMul, Nat.reduceBEq, Int.reduceLT, Int.reduceAdd, Int.reduceMul, Int.reduceSub, Int.reduceToNat, Int.reduceLE, Int.reduceEq, ↓reduceIte, reduceCtorEq, Int.reduceNeg, Nat.reduceLeDiff]) (by simp only [AV.und, AV.unds, and_self])
  · have en : nwP S.pu = 1 := hw
    have e1 : onP S.pu = true := by simp [onP, en]
    have e2 : 0 ≤ lastP S.pu := by have := (wh_hd a).1; simp only [lastP, en, Int.reduceNeg, Int.reduceEq, ↓reduceIte]; exact this
    rw [e1]
    simp (maxSteps := 1000000) (disch := omega) only [go_sem, Nat.reduceEqDiff, Nat.reduceLT, Nat.reduceAdd, Nat.reduceSub, Nat.reduceMul, Nat.reduceBEq, Int.reduceLT, Int.reduceAdd, Int.reduceMul, Int.reduceSub, Int.reduceToNat, Int.reduceLE, Int.reduceEq, ↓reduceIte, reduceCtorEq, Int.reduceNeg, Nat.reduceLeDiff,  e2]
    exact fin_ext (by simp) hy1 (by simp (maxSteps := 1000000) (disch := omega) only [resVal, resAll, resOne, rs9, Env.get, go_sem, Nat.reduceEqDiff, Nat.reduceLT, Nat.reduceAdd, Nat.reduceSub, Nat.reduceMul, Nat.reduceBEq, Int.reduceLT, Int.reduceAdd, Int.reduceMul, Int.reduceSub, Int.reduceToNat, Int.reduceLE, Int.reduceEq, ↓reduceIte, reduceCtorEq, Int.reduceNeg, Nat.reduceLeDiff]) (by simp only [AV.und, AV.unds, and_self])
  have en : nwP S.pu = -1 := hw
  have e1 : onP S.pu = false := by simp [onP, en]
  have e2 : lastP S.pu = 0 := by simp [lastP, en]
  have e3 : rdP S.pu = [] := by simp [rdP, en]
  have e4 : errP S.pu us = 0 := by unfold errP; rw [e2, if_neg (by omega)]
  have e5 : tornP S.pu us ((us.length : Int) + 3) = ((1 :: us, com (1 :: us)), (S.vs, S.c1)) := by
    unfold tornP slotP
    rw [e2, en, if_neg (by omega), if_neg (by omega), if_pos (by omega), Int.zero_add]
    rfl
  rw [e1, e2]
  replace ok := ok.ext hy1
  replace hu := hy1.sl hu
  simp (maxSteps := 1000000) (disch := omega) only [go_sem, Nat.reduceEqDiff, Nat.reduceLT, Nat.reduceAdd, Nat.reduceSub, Nat.reduceMul, Nat.reduceBEq, Int.reduceLT, Int.reduceAdd, Int.reduceMul, Int.reduceSub, Int.reduceToNat, Int.reduceLE, Int.reduceEq, ↓reduceIte, reduceCtorEq, Int.reduceNeg, Nat.reduceLeDiff,  av1, av2, av3, b0, bl0]
  first | refine callBE (f13_t ok hu lu') ?_ | refine callDE (f13_t ok hu lu') ?_ | refine callXE (f13_t ok hu lu') ?_
  rintro v3 H3 hx3 ⟨S1, rfl, k1, e6⟩
  rw [e4]
  rw [e5] at e6
  replace b0 := hx3.blk b0
  have bl0 := blkAt_lt b0
  replace ok := ok.ext hx3
  replace hu := hx3.sl hu
  have a1 := av_len S1
  have a2 := av_all S1
  have a3 := av_take S1
  have g0 : S1.ws = 1 :: us ∧ S1.c0 = com (1 :: us) ∧ S1.vs = S.vs ∧ S1.c1 = S.c1 := by
    have := Prod.mk.inj e6
    exact ⟨(Prod.mk.inj this.1).1, (Prod.mk.inj this.1).2, (Prod.mk.inj this.2).1, (Prod.mk.inj this.2).2⟩
  have k0 : nwP S1.pu = 0 := by
    rw [e6]
    exact nw_0 (wh_new (by decide)) (.inl b)
  have k2 : onP S1.pu = true := by simp [onP, k0]
  have k3 : lastP S1.pu = 1 := by
    have : S1.pu.1.1 = 1 :: us := by rw [e6]
    simp [lastP, k0, this, hd0]
  have k4 : rdP S1.pu = us := by
    have : S1.pu.1.1 = 1 :: us := by rw [e6]
    simp [rdP, k0, this]
  simp (maxSteps := 1000000) (disch := omega) only [go_sem, Nat.reduceEqDiff, Nat.reduceLT, Nat.reduceAdd, Nat.reduceSub, Nat.reduceMul, Nat.reduceBEq, Int.reduceLT, Int.reduceAdd, Int.reduceMul, Int.reduceSub, Int.reduceToNat, Int.reduceLE, Int.reduceEq, ↓reduceIte, reduceCtorEq, Int.reduceNeg, Nat.reduceLeDiff,  av1, av2, av3, b0, bl0, blkAt_lo, set_lo, a1, a2, a3]
  first | refine callBE (f12_t (k1.app _)) ?_ | refine callDE (f12_t (k1.app _)) ?_ | refine callXE (f12_t (k1.app _)) ?_
  rintro v4 H4 hx4 ⟨w4, rfl, p4, f4, c4, rfl, s4⟩
  rw [k2, k3]
  rw [k4] at s4
  rw [k4]
  have hy4 : Ext H3 H4 := (Ext.app _ _).trans hx4
  have b1 : blkAt H4 H3.length = some ⟨S1.av, true⟩ := hx4.blk (by simp only [go_sem, Nat.reduceEqDiff, Nat.reduceLT, Nat.reduceAdd, Nat.reduceSub, Nat.reduceMul, Nat.reduceBEq, Int.reduceLT, Int.reduceAdd, Int.reduceMul, Int.reduceSub, Int.reduceToNat, Int.reduceLE, Int.reduceEq, ↓reduceIte, reduceCtorEq, Int.reduceNeg, Nat.reduceLeDiff])
  replace b0 := hy4.blk b0
  have bl0 := blkAt_lt b0
  have bl1 := blkAt_lt b1
  replace ok := ok.ext hy4
  replace k1 := k1.ext hy4
  replace hu := hy4.sl hu
  have gI := fun G => f15 (c1 := c4) (c2 := kq) (s4.app G) (hu.app G) (by omega)
  have gS := fun G => f23 (S := ⟨S1.p0, S1.o0, S1.k0, S1.ws, S1.c0, S.p1, S.o1, S.k1, S.vs, S.c1⟩) (R := S1) ⟨k1.h0.app G, ok.h1.app G, k1.l0, ok.l1⟩ (k1.app G)
  have e7 : (Stt.mk S1.p0 S1.o0 S1.k0 S1.ws S1.c0 S.p1 S.o1 S.k1 S.vs S.c1).pu = S1.pu := by
    unfold Stt.pu
    rw [g0.2.2.1, g0.2.2.2]
  rw [e7] at gS
  simp only [decide_true] at gI gS
  have gI := gI []
  have gS := gS []
  rw [List.append_nil] at gI gS
  have hy : Ext H H4 := (hy1.trans hx3).trans hy4
  have e8 : ((rdP S.pu).length : Int) = 0 := by rw [e3]; rfl
  clear hx1 hx3 hx4 hy1 hy4 e6 g0 e7 av1 av2 av3 a1 a2 a3
  unfold Stt.av nvc at *
  simp (maxSteps := 1000000) (disch := omega) only [go_sem, Nat.reduceEqDiff, Nat.reduceLT, Nat.reduceAdd, Nat.reduceSub, Nat.reduceMul, Nat.reduceBEq, Int.reduceLT, Int.reduceAdd, Int.reduceMul, Int.reduceSub, Int.reduceToNat, Int.reduceLE, Int.reduceEq, ↓reduceIte, reduceCtorEq, Int.reduceNeg, Nat.reduceLeDiff,  e8]
  first | refine callB_intro (gI) ?_ | refine callD_intro (gI) ?_ | refine callP_intro (fun _ => (gI)) ?_ | refine callX_pure (gI) ?_
  simp (maxSteps := 1000000) (disch := omega) only [go_sem, Nat.reduceEqDiff, Nat.reduceLT, Nat.reduceAdd, Nat.reduceSub, Nat.reduceMul, Nat.reduceBEq, Int.reduceLT, Int.reduceAdd, Int.reduceMul, Int.reduceSub, Int.reduceToNat, Int.reduceLE, Int.reduceEq, ↓reduceIte, reduceCtorEq, Int.reduceNeg, Nat.reduceLeDiff,  b0, bl0, b1, bl1]
  first | refine callB_intro (gS) ?_ | refine callD_intro (gS) ?_ | refine callP_intro (fun _ => (gS)) ?_ | refine callX_pure (gS) ?_
  simp (maxSteps := 1000000) (disch := omega) only [go_sem, Nat.reduceEqDiff, Nat.reduceLT, Nat.reduceAdd, Nat.reduceSub, Nat.reduceMul, Nat.reduceBEq, Int.reduceLT, Int.reduceAdd, Int.reduceMul, Int.reduceSub, Int.reduceToNat, Int.reduceLE, Int.reduceEq, ↓reduceIte, reduceCtorEq, Int.reduceNeg, Nat.reduceLeDiff]
  exact fin_ext (by simp) hy (by simp (maxSteps := 1000000) (disch := omega) only [resVal, resAll, resOne, rs9, Env.get, go_sem, Nat.reduceEqDiff, Nat.reduceLT, Nat.reduceAdd, Nat.reduceSub, Nat.reduceMul, Nat.reduceBEq, Int.reduceLT, Int.reduceAdd, Int.reduceMul, Int.reduceSub, Int.reduceToNat, Int.reduceLE, Int.reduceEq, ↓reduceIte, reduceCtorEq, Int.reduceNeg, Nat.reduceLeDiff]) (by simp only [AV.und, AV.unds, and_self])
end Go.Proofs.Ytjibcbfdfambeaa.Ah
