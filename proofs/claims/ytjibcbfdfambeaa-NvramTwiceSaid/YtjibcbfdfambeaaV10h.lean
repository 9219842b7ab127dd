/- V10h: a part of the proof: contracts of functions, or plain laws. Conditions: none. -/
import Derived.Test.YtjibcbfdfambeaaV10g
namespace Go.Proofs.Ytjibcbfdfambeaa.Ah
open Go Go.WideShapes
attribute [local irreducible] acs aopsK drawK leave condK bindR bindD bindX guardK guardD callB callD callX callP callPv
attribute [local go_sem] acs_nil acs_blk acs_skip acs_reg acs_dreg acs_freg acs_nam0 acs_nam nones acs_seq acs_cond acs_block acs_exit acs_ret acs_kl acs_loop leave_nil leave_code leave_lp leave_blk aopsK_nil aopsK_cons aopsK_guard bindR_val bindR_need bindR_br bindR_call bindR_bad drawK_nil drawK_cons drawK_ext drawK_pur drawK_guard callPv_fn drawK_purv bindD_val bindD_need bindD_br bindD_call bindD_bad bindX_val bindX_need bindX_br bindX_call guardD_bool guardD_tup grows grows0 List.append_cancel_left_eq List.cons.injEq exists_eq' exists_eq condK_bool guardK_bool guardK_tup sor r0 r1 r2 r3 rC rB rI rP rA rT rS rF rSl rO rbin rcut run1 Env.evals Env.eval Env.get Env.put Env.ins Env.del Env.dels argEnv AV.full AV.cells AV.cell eqCells decide_true decide_false decide_eq_true_eq decide_eq_false_iff_not Bool.not_eq_true' Bool.not_eq_false' true_and and_true false_implies true_implies forall_const Bool.not_true Bool.not_false Bool.false_eq_true Bool.true_eq_false List.getElem?_cons_zero List.getElem?_cons_succ List.length_cons List.length_nil List.length_append List.all_cons List.all_nil Bool.and_true Bool.and_self implies_true List.append_assoc List.cons_append List.nil_append List.append_nil i64_in imin_eq imax_eq cast3 cast0 cast1 cast2 Option.map_none ite_self and_false false_and Option.isSome_some or_true true_or Int.sub_zero Int.mul_one Nat.sub_zero Nat.zero_le Int.cast_ofNat_Int Int.natCast_nonneg Int.toNat_natCast ne_eq not_false_eq_true not_true_eq_false strC blkAt_app blkAt_app0 blkAt_zero blkAt_succ List.set_cons_zero List.set_cons_succ set_app set_app0 Option.map_some Option.bind_some rd setCells lay rdS szOk rapp ownAt lenAt Option.any_some Option.getD_some List.drop_zero List.drop_succ_cons List.take_succ_cons List.take_zero List.drop_nil List.take_nil Nat.lt_irrefl Nat.zero_add Nat.add_zero Nat.mul_one Nat.one_mul Nat.add_assoc Option.some.injEq eq_self
set_option maxHeartbeats 4000000
set_option linter.unusedSimpArgs false
set_option linter.unusedVariables false
/-! Contracts: what is read. -/
theorem i64_und {n : Nat} (zs : List Int) : AV.unds n (zs.map i64) := undMapF (fun z => by simp [i64, AV.und]) _
theorem f12_none {ws vs : List Int} {p0 o0 p1 o1 : Nat} {k0 k1 : Option Nat} {c0 c1 : Int} {H : Heap} (h0 : Sl i64 H p0 o0 ws) (h1 : Sl i64 H p1 o1 vs) (l0 : ws.length ≤ 2000) (l1 : vs.length ≤ 2000) (hw : nw ws c0 vs c1 = -1) :
    ACall Try.prog 12 [.agg (nvc p0 o0 ws.length k0 c0 p1 o1 vs.length k1 c1)] H (.tup [.nils, .int .i64 0, .bool false]) H := by
  refine acall12 (by simp) (acs_start ?_)
  have g := fun G => f25 (k0 := k0) (k1 := k1) (c0 := c0) (c1 := c1) (h0.app G) (h1.app G) l0 l1
  rw [hw] at g
  unfold nvc at *
  unfold c12
  simp (maxSteps := 1000000) (disch := omega) only [go_sem, Nat.reduceEqDiff, Nat.reduceLT, Nat.reduceAdd, Nat.reduceSub, Nat.reduceMul, Nat.reduceBEq, Int.reduceLT, Int.reduceAdd, Int.reduceMul, Int.reduceSub, Int.reduceToNat, Int.reduceLE, Int.reduceEq, ↓reduceIte, reduceCtorEq, Int.reduceNeg, Nat.reduceLeDiff]
  first | refine callB_intro (g _) ?_ | refine callD_intro (g _) ?_ | refine callP_intro (fun _ => (g _)) ?_ | refine callX_pure (g _) ?_
  simp (maxSteps := 1000000) (disch := omega) only [go_sem, Nat.reduceEqDiff, Nat.reduceLT, Nat.reduceAdd, Nat.reduceSub, Nat.reduceMul, Nat.reduceBEq, Int.reduceLT, Int.reduceAdd, Int.reduceMul, Int.reduceSub, Int.reduceToNat, Int.reduceLE, Int.reduceEq, ↓reduceIte, reduceCtorEq, Int.reduceNeg, Nat.reduceLeDiff]
  exact fin_same (by simp) _ (by first | exact (List.append_nil _).symm | rfl) (by simp (maxSteps := 1000000) (disch := omega) only [resVal, resAll, resOne, rs12, Env.get, go_sem, Nat.reduceEqDiff, Nat.reduceLT, Nat.reduceAdd, Nat.reduceSub, Nat.reduceMul, Nat.reduceBEq, Int.reduceLT, Int.reduceAdd, Int.reduceMul, Int.reduceSub, Int.reduceToNat, Int.reduceLE, Int.reduceEq, ↓reduceIte, reduceCtorEq, Int.reduceNeg, Nat.reduceLeDiff]) (by simp only [AV.und, AV.unds, and_self])
theorem f12_0 {ws vs : List Int} {p0 o0 p1 o1 : Nat} {k0 k1 : Option Nat} {c0 c1 : Int} {H : Heap} (h0 : Sl i64 H p0 o0 ws) (h1 : Sl i64 H p1 o1 vs) (l0 : ws.length ≤ 2000) (l1 : vs.length ≤ 2000) (hw : nw ws c0 vs c1 = 0) (hn : 0 < ws.length) :
    ACall Try.prog 12 [.agg (nvc p0 o0 ws.length k0 c0 p1 o1 vs.length k1 c1)] H (.tup [.sl H.length 0 (ws.length - 1) 1 none, .int .i64 (hd0 ws), .bool true]) (H ++ [some ⟨(ws.drop 1).map i64, false⟩]) := by
  refine acall12 (by simp) (acs_start ?_)
  have g := fun G => f25 (k0 := k0) (k1 := k1) (c0 := c0) (c1 := c1) (h0.app G) (h1.app G) l0 l1
  have ld : (ws.drop 1).length = ws.length - 1 := List.length_drop
  have gC := fun G c => f26 (p := p0) (off := o0 + 1) (H := H ++ G) c ((h0.drop (n := 1) (by omega)).app G) (by rw [ld]; omega)
  rw [ld] at gC
  rw [hw] at g
  have hpl := h0.lt
  obtain ⟨cs, o, hp, hle, hcs⟩ := h0
  have fx : cs[o0]? = some (.int .i64 (hd0 ws)) := by have := sl_get hcs (j := 0) (hd0_get hn); rwa [Nat.add_zero] at this
  have n0 : (0 : Int) < (ws.length : Int) := by omega
  have n1 : (1 : Int) ≤ (ws.length : Int) := by omega
  unfold nvc at *
  unfold c12
  simp (maxSteps := 1000000) (disch := omega) only [go_sem, Nat.reduceEqDiff, Nat.reduceLT, Nat.reduceAdd, Nat.reduceSub, Nat.reduceMul, Nat.reduceBEq, Int.reduceLT, Int.reduceAdd, Int.reduceMul, Int.reduceSub, Int.reduceToNat, Int.reduceLE, Int.reduceEq, ↓reduceIte, reduceCtorEq, Int.reduceNeg, Nat.reduceLeDiff]
  first | refine callB_intro (g _) ?_ | refine callD_intro (g _) ?_ | refine callP_intro (fun _ => (g _)) ?_ | refine callX_pure (g _) ?_
  simp (maxSteps := 1000000) (disch := omega) only [go_sem, Nat.reduceEqDiff, Nat.reduceLT, Nat.reduceAdd, Nat.reduceSub, Nat.reduceMul, Nat.reduceBEq, Int.reduceLT, Int.reduceAdd, Int.reduceMul, Int.reduceSub, Int.reduceToNat, Int.reduceLE, Int.reduceEq, ↓reduceIte, reduceCtorEq, Int.reduceNeg, Nat.reduceLeDiff,  n1]
  refine callX_intro (gC _ _) ?_
  simp (maxSteps := 1000000) (disch := omega) only [go_sem, Nat.reduceEqDiff, Nat.reduceLT, Nat.reduceAdd, Nat.reduceSub, Nat.reduceMul, Nat.reduceBEq, Int.reduceLT, Int.reduceAdd, Int.reduceMul, Int.reduceSub, Int.reduceToNat, Int.reduceLE, Int.reduceEq, ↓reduceIte, reduceCtorEq, Int.reduceNeg, Nat.reduceLeDiff,  blkAt_lo, hpl, hp, fx, n0, n1]
  exact fin_oneF _ 1 _ (by simp) rfl rfl (i64_und _) (by simp only [resVal, resAll, resOne, rs12, Env.get, go_sem, Nat.reduceEqDiff, Nat.reduceLT, Nat.reduceAdd, Nat.reduceSub, Nat.reduceMul, Nat.reduceBEq, Int.reduceLT, Int.reduceAdd, Int.reduceMul, Int.reduceSub, Int.reduceToNat, Int.reduceLE, Int.reduceEq, ↓reduceIte, reduceCtorEq, Int.reduceNeg, Nat.reduceLeDiff]; rfl) (by simp [AV.ren, AV.rens]) (by simp [AV.und, AV.unds])
theorem f12_1 {ws vs : List Int} {p0 o0 p1 o1 : Nat} {k0 k1 : Option Nat} {c0 c1 : Int} {H : Heap} (h0 : Sl i64 H p0 o0 ws) (h1 : Sl i64 H p1 o1 vs) (l0 : ws.length ≤ 2000) (l1 : vs.length ≤ 2000) (hw : nw ws c0 vs c1 = 1) (hn : 0 < vs.length) :
    ACall Try.prog 12 [.agg (nvc p0 o0 ws.length k0 c0 p1 o1 vs.length k1 c1)] H (.tup [.sl H.length 0 (vs.length - 1) 1 none, .int .i64 (hd0 vs), .bool true]) (H ++ [some ⟨(vs.drop 1).map i64, false⟩]) := by
  refine acall12 (by simp) (acs_start ?_)
  have g := fun G => f25 (k0 := k0) (k1 := k1) (c0 := c0) (c1 := c1) (h0.app G) (h1.app G) l0 l1
  have ld : (vs.drop 1).length = vs.length - 1 := List.length_drop
  have gC := fun G c => f26 (p := p1) (off := o1 + 1) (H := H ++ G) c ((h1.drop (n := 1) (by omega)).app G) (by rw [ld]; omega)
  rw [ld] at gC
  rw [hw] at g
  have hpl := h1.lt
  obtain ⟨cs, o, hp, hle, hcs⟩ := h1
  have fx : cs[o1]? = some (.int .i64 (hd0 vs)) := by have := sl_get hcs (j := 0) (hd0_get hn); rwa [Nat.add_zero] at this
  have n0 : (0 : Int) < (vs.length : Int) := by omega
  have n1 : (1 : Int) ≤ (vs.length : Int) := by omega
  unfold nvc at *
  unfold c12
  simp (maxSteps := 1000000) (disch := omega) only [go_sem, Nat.reduceEqDiff, Nat.reduceLT, Nat.reduceAdd, Nat.reduceSub, Nat.reduceMul, Nat.reduceBEq, Int.reduceLT, Int.reduceAdd, Int.reduceMul, Int.reduceSub, Int.reduceToNat, Int.reduceLE, Int.reduceEq, ↓reduceIte, reduceCtorEq, Int.reduceNeg, Nat.reduceLeDiff]
  first | refine callB_intro (g _) ?_ | refine callD_intro (g _) ?_ | refine callP_intro (fun _ => (g _)) ?_ | refine callX_pure (g _) ?_
  simp (maxSteps := 1000000) (disch := omega) only [go_sem, Nat.reduceEqDiff, Nat.reduceLT, Nat.reduceAdd, Nat.reduceSub, Nat.reduceMul, Nat.reduceBEq, Int.reduceLT, Int.reduceAdd, Int.reduceMul, Int.reduceSub, Int.reduceToNat, Int.reduceLE, Int.reduceEq, ↓reduceIte, reduceCtorEq, Int.reduceNeg, Nat.reduceLeDiff,  n1]
  refine callX_intro (gC _ _) ?_
  simp (maxSteps := 1000000) (disch := omega) only [go_sem, Nat.reduceEqDiff, Nat.reduceLT, Nat.reduceAdd, Nat.reduceSub, Nat.reduceMul, Nat.reduceBEq, Int.reduceLT, Int.reduceAdd, Int.reduceMul, Int.reduceSub, Int.reduceToNat, Int.reduceLE, Int.reduceEq, ↓reduceIte, reduceCtorEq, Int.reduceNeg, Nat.reduceLeDiff,  blkAt_lo, hpl, hp, fx, n0, n1]
  exact fin_oneF _ 1 _ (by simp) rfl rfl (i64_und _) (by simp only [resVal, resAll, resOne, rs12, Env.get, go_sem, Nat.reduceEqDiff, Nat.reduceLT, Nat.reduceAdd, Nat.reduceSub, Nat.reduceMul, Nat.reduceBEq, Int.reduceLT, Int.reduceAdd, Int.reduceMul, Int.reduceSub, Int.reduceToNat, Int.reduceLE, Int.reduceEq, ↓reduceIte, reduceCtorEq, Int.reduceNeg, Nat.reduceLeDiff]; rfl) (by simp [AV.ren, AV.rens]) (by simp [AV.und, AV.unds])
theorem f17 {n : Nat} {p off : Nat} {k : Option Nat} {H : Heap} (hn : n ≤ 4611686018427387904) : ACall Try.prog 17 [.sl p off n 1 k] H (.int .i64 ((n : Int) + 3)) H := by
  refine acall17 (by simp) (acs_start ?_)
  unfold c17
  simp (maxSteps := 1000000) (disch := omega) only [go_sem, Nat.reduceEqDiff, Nat.reduceLT, Nat.reduceAdd, Nat.reduceSub, Nat.reduceMul, Nat.reduceBEq, Int.reduceLT, Int.reduceAdd, Int.reduceMul, Int.reduceSub, Int.reduceToNat, Int.reduceLE, Int.reduceEq, ↓reduceIte, reduceCtorEq, Int.reduceNeg, Nat.reduceLeDiff]
  exact fin_same (by simp) _ (by first | exact (List.append_nil _).symm | rfl) (by simp (maxSteps := 1000000) (disch := omega) only [resVal, resAll, resOne, rs17, Env.get, go_sem, Nat.reduceEqDiff, Nat.reduceLT, Nat.reduceAdd, Nat.reduceSub, Nat.reduceMul, Nat.reduceBEq, Int.reduceLT, Int.reduceAdd, Int.reduceMul, Int.reduceSub, Int.reduceToNat, Int.reduceLE, Int.reduceEq, ↓reduceIte, reduceCtorEq, Int.reduceNeg, Nat.reduceLeDiff]) (by simp only [AV.und, AV.unds, and_self])
end Go.Proofs.Ytjibcbfdfambeaa.Ah
