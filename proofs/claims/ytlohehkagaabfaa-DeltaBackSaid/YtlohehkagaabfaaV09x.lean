/- V09x: a part of the proof: contracts of functions, or plain laws. Conditions: none. -/
import Derived.Test.YtlohehkagaabfaaV09w
namespace Go.Proofs.Ytlohehkagaabfaa.Ah
open Go Go.WideShapes
attribute [local irreducible] acs aopsK drawK leave condK bindR bindD bindX guardK guardD callB callD callX callP callPv rfunG rfunK yldB yldD
attribute [local go_sem] acs_nil acs_blk acs_skip acs_reg acs_dreg acs_freg acs_nam0 acs_nam nones acs_seq acs_cond acs_block acs_exit acs_ret acs_kl acs_loop leave_nil leave_code leave_lp leave_blk aopsK_nil aopsK_cons aopsK_guard bindR_val bindR_need bindR_br bindR_call bindR_ycall acs_rfun rfunG_fn bindR_bad drawK_nil drawK_cons drawK_ext drawK_pur drawK_guard callPv_fn drawK_purv bindD_val bindD_need bindD_br bindD_call bindD_ycall bindD_bad bindX_val bindX_need bindX_br bindX_call guardD_bool guardD_tup grows grows0 List.append_cancel_left_eq List.cons.injEq exists_eq' exists_eq condK_bool guardK_bool guardK_tup sor r0 r1 r2 r3 rC rB rI rP rA rT rS rF rSl rO rbin rcut run1 Env.evals Env.eval Env.get Env.put Env.ins Env.del Env.dels argEnv AV.full AV.cells AV.cell eqCells decide_true decide_false decide_eq_true_eq decide_eq_false_iff_not Bool.not_eq_true' Bool.not_eq_false' true_and and_true false_implies true_implies forall_const Bool.not_true Bool.not_false Bool.false_eq_true Bool.true_eq_false List.getElem?_cons_zero List.getElem?_cons_succ List.length_cons List.length_nil List.length_append List.all_cons List.all_nil Bool.and_true Bool.and_self implies_true List.append_assoc List.cons_append List.nil_append List.append_nil i64_in imin_eq imax_eq cast3 cast0 cast1 cast2 Option.map_none ite_self and_false false_and Option.isSome_some or_true true_or Int.sub_zero Int.mul_one Nat.sub_zero Nat.zero_le Int.cast_ofNat_Int Int.natCast_nonneg Int.toNat_natCast ne_eq not_false_eq_true not_true_eq_false strC blkAt_app blkAt_app0 blkAt_zero blkAt_succ List.set_cons_zero List.set_cons_succ set_app set_app0 Option.map_some Option.bind_some rd setCells lay rdS szOk rapp ownAt lenAt Option.any_some Option.getD_some List.drop_zero List.drop_succ_cons List.take_succ_cons List.take_zero List.drop_nil List.take_nil Nat.lt_irrefl Nat.zero_add Nat.add_zero Nat.mul_one Nat.one_mul Nat.add_assoc Option.some.injEq eq_self
set_option maxHeartbeats 4000000
set_option linter.unusedSimpArgs false
set_option linter.unusedVariables false
/-! The law DeltaBack, joined. -/
theorem f8 (bs ns : List Int) (p q : Nat) (c1 c2 : Option Nat) (o o' : Bool) (H : Heap) (hp : blkAt H p = some ⟨bs.map (AV.int .i64), o⟩) (hq : blkAt H q = some ⟨ns.map (AV.int .i64), o'⟩) (l1 : bs.length ≤ 2000000000000000000) :
    ACall Try.prog 8 [.sl p 0 bs.length 1 c1, .sl q 0 ns.length 1 c2] H (.bool true) H := by
  refine acall8 (by simp) (acs_start ?_)
  unfold c8
  simp (maxSteps := 1000000) (disch := omega) only [go_sem, Nat.reduceEqDiff, Nat.reduceLT, Nat.reduceAdd, Nat.reduceSub, Nat.reduceMul, Nat.reduceBEq, Int.reduceLT, Int.reduceAdd, Int.reduceMul, Int.reduceSub, Int.reduceToNat, Int.reduceLE, Int.reduceEq, ↓reduceIte, reduceCtorEq, Int.reduceNeg, Nat.reduceLeDiff]
  first | refine callB_intro (f9 _) ?_ | refine callD_intro (f9 _) ?_ | refine callP_intro (fun _ => (f9 _)) ?_ | refine callX_pure (f9 _) ?_
  by_cases hl : ¬ bs.length = ns.length
  · have hl' : ¬ (bs.length : Int) = (ns.length : Int) := by omega
    simp (maxSteps := 1000000) (disch := omega) only [go_sem, Nat.reduceEqDiff, Nat.reduceLT, Nat.reduceAdd, Nat.reduceSub, Nat.reduceMul, Nat.reduceBEq, Int.reduceLT, Int.reduceAdd, Int.reduceMul, Int.reduceSub, Int.reduceToNat, Int.reduceLE, Int.reduceEq, ↓reduceIte, reduceCtorEq, Int.reduceNeg, Nat.reduceLeDiff,  hl']
    exact fin_ext (by simp) (Ext.refl _) (by simp (maxSteps := 1000000) (disch := omega) only [resVal, resAll, resOne, rs8, Env.get, go_sem, Nat.reduceEqDiff, Nat.reduceLT, Nat.reduceAdd, Nat.reduceSub, Nat.reduceMul, Nat.reduceBEq, Int.reduceLT, Int.reduceAdd, Int.reduceMul, Int.reduceSub, Int.reduceToNat, Int.reduceLE, Int.reduceEq, ↓reduceIte, reduceCtorEq, Int.reduceNeg, Nat.reduceLeDiff]) (by simp only [AV.und, AV.unds, and_self])
  replace hl := Classical.not_not.1 hl
  by_cases hb : 600 < bs.length
  · have hb' : (600 : Int) < (ns.length : Int) := by omega
    simp (maxSteps := 1000000) (disch := omega) only [go_sem, Nat.reduceEqDiff, Nat.reduceLT, Nat.reduceAdd, Nat.reduceSub, Nat.reduceMul, Nat.reduceBEq, Int.reduceLT, Int.reduceAdd, Int.reduceMul, Int.reduceSub, Int.reduceToNat, Int.reduceLE, Int.reduceEq, ↓reduceIte, reduceCtorEq, Int.reduceNeg, Nat.reduceLeDiff,  hl, hb']
    exact fin_ext (by simp) (Ext.refl _) (by simp (maxSteps := 1000000) (disch := omega) only [resVal, resAll, resOne, rs8, Env.get, go_sem, Nat.reduceEqDiff, Nat.reduceLT, Nat.reduceAdd, Nat.reduceSub, Nat.reduceMul, Nat.reduceBEq, Int.reduceLT, Int.reduceAdd, Int.reduceMul, Int.reduceSub, Int.reduceToNat, Int.reduceLE, Int.reduceEq, ↓reduceIte, reduceCtorEq, Int.reduceNeg, Nat.reduceLeDiff]) (by simp only [AV.und, AV.unds, and_self])
  have hb' : ¬ (600 : Int) < (ns.length : Int) := by omega
  have g10 := f10 bs ns p q c1 c2 o o' H hp hq hl (by omega)
  have hasp := aspec_diff hl (by omega)
  have hs1 : Sl i64 H p 0 bs := Sl.whole (o := o) hp
  by_cases h0 : ns.length = 0
  · obtain rfl := List.eq_nil_of_length_eq_zero h0
    obtain rfl := List.eq_nil_of_length_eq_zero hl
    rw [show diff [] [] = [] from rfl] at g10 hasp
    simp only [List.length_nil, List.map_nil] at g10
    simp (maxSteps := 1000000) (disch := omega) only [go_sem, Nat.reduceEqDiff, Nat.reduceLT, Nat.reduceAdd, Nat.reduceSub, Nat.reduceMul, Nat.reduceBEq, Int.reduceLT, Int.reduceAdd, Int.reduceMul, Int.reduceSub, Int.reduceToNat, Int.reduceLE, Int.reduceEq, ↓reduceIte, reduceCtorEq, Int.reduceNeg, Nat.reduceLeDiff,  hl, hb']
    first | refine callB_intro (g10) ?_ | refine callD_intro (g10) ?_ | refine callP_intro (fun _ => (g10)) ?_ | refine callX_pure (g10) ?_
    simp (maxSteps := 1000000) (disch := omega) only [go_sem, Nat.reduceEqDiff, Nat.reduceLT, Nat.reduceAdd, Nat.reduceSub, Nat.reduceMul, Nat.reduceBEq, Int.reduceLT, Int.reduceAdd, Int.reduceMul, Int.reduceSub, Int.reduceToNat, Int.reduceLE, Int.reduceEq, ↓reduceIte, reduceCtorEq, Int.reduceNeg, Nat.reduceLeDiff]
    refine callBE f11_nil ?_
    rintro v X he rfl
    simp (maxSteps := 1000000) (disch := omega) only [go_sem, Nat.reduceEqDiff, Nat.reduceLT, Nat.reduceAdd, Nat.reduceSub, Nat.reduceMul, Nat.reduceBEq, Int.reduceLT, Int.reduceAdd, Int.reduceMul, Int.reduceSub, Int.reduceToNat, Int.reduceLE, Int.reduceEq, ↓reduceIte, reduceCtorEq, Int.reduceNeg, Nat.reduceLeDiff]
    refine callBE f13_nil ?_
    rintro v X2 he2 rfl
    have hx2 := ((Ext.app H _).trans he).trans he2
    have tl := f8_tail (p := p) (qd := H.length) (L := 0) (c1 := c1) (c2 := c2) (pv := .nils) (back := .nils) hx2 hq (by simp) (by omega) (.inl ⟨rfl, rfl⟩)
    have g16 := call_nil (pre := [.sl p 0 0 1 c1]) (post := []) (f16_any (bs := []) (d := []) (p := p) (q := X2.length) (oq := 0) (c1 := c1) (c2 := none) (H := X2 ++ [some ⟨[], false⟩]) ((hx2.sl hs1).app _) ⟨[], false, by rw [blkAt_app0]; rfl, by simp, by simp⟩ (by simp) (by simp))
    rw [hasp] at g16
    have tw := tl ⟨_, _, g16, by unfold rowheap; exact ((Ext.app _ _).to _), _, _, rfl, Sl.whole (o := false) (by unfold rowheap; rw [blkAt_app0]; rfl)⟩
    unfold c8t c8 tl2 at tw
    simp (maxSteps := 1000000) (disch := omega) only [go_sem, Nat.reduceEqDiff, Nat.reduceLT, Nat.reduceAdd, Nat.reduceSub, Nat.reduceMul, Nat.reduceBEq, Int.reduceLT, Int.reduceAdd, Int.reduceMul, Int.reduceSub, Int.reduceToNat, Int.reduceLE, Int.reduceEq, ↓reduceIte, reduceCtorEq, Int.reduceNeg, Nat.reduceLeDiff] at tw
    simp (maxSteps := 1000000) (disch := omega) only [go_sem, Nat.reduceEqDiff, Nat.reduceLT, Nat.reduceAdd, Nat.reduceSub, Nat.reduceMul, Nat.reduceBEq, Int.reduceLT, Int.reduceAdd, Int.reduceMul, Int.reduceSub, Int.reduceToNat, Int.reduceLE, Int.reduceEq, ↓reduceIte, reduceCtorEq, Int.reduceNeg, Nat.reduceLeDiff]
    exact tw
  have hd0 := diff_pos (bs := bs) (ns := ns) (by omega)
  have hd1 := diff_le (bs := bs) (ns := ns) (by omega)
  simp (maxSteps := 1000000) (disch := omega) only [go_sem, Nat.reduceEqDiff, Nat.reduceLT, Nat.reduceAdd, Nat.reduceSub, Nat.reduceMul, Nat.reduceBEq, Int.reduceLT, Int.reduceAdd, Int.reduceMul, Int.reduceSub, Int.reduceToNat, Int.reduceLE, Int.reduceEq, ↓reduceIte, reduceCtorEq, Int.reduceNeg, Nat.reduceLeDiff,  hl, hb']
  rw [hl] at g10
  first | refine callB_intro (g10) ?_ | refine callD_intro (g10) ?_ | refine callP_intro (fun _ => (g10)) ?_ | refine callX_pure (g10) ?_
  generalize hD : diff bs ns = D at *
  have hsD : Sl i64 (H ++ [some ⟨D.map (AV.int .i64), true⟩]) H.length 0 D := Sl.whole (o := true) (by rw [blkAt_app0]; rfl)
  simp (maxSteps := 1000000) (disch := omega) only [go_sem, Nat.reduceEqDiff, Nat.reduceLT, Nat.reduceAdd, Nat.reduceSub, Nat.reduceMul, Nat.reduceBEq, Int.reduceLT, Int.reduceAdd, Int.reduceMul, Int.reduceSub, Int.reduceToNat, Int.reduceLE, Int.reduceEq, ↓reduceIte, reduceCtorEq, Int.reduceNeg, Nat.reduceLeDiff]
  refine callBE (f11 hsD (by omega) hd0) ?_
  rintro v X he ⟨qp, rfl, hqp, hqH⟩
  have g13 := f13 (cp := none) (N := D.length) hqp (pc_len _ _) (by omega) rfl (by omega) pc_rest
  rw [pc_take (by omega)] at g13
  simp (maxSteps := 1000000) (disch := omega) only [go_sem, Nat.reduceEqDiff, Nat.reduceLT, Nat.reduceAdd, Nat.reduceSub, Nat.reduceMul, Nat.reduceBEq, Int.reduceLT, Int.reduceAdd, Int.reduceMul, Int.reduceSub, Int.reduceToNat, Int.reduceLE, Int.reduceEq, ↓reduceIte, reduceCtorEq, Int.reduceNeg, Nat.reduceLeDiff]
  refine callBE g13 ?_
  rintro v X2 he2 ⟨q2, k2, rfl, hs2, hq2⟩
  have hx2 := ((Ext.app H _).trans he).trans he2
  have tl := f8_tail (p := p) (qd := H.length) (L := D.length) (c1 := c1) (c2 := c2) (pv := .sl qp 0 ((D.length + 7) / 8) 8 none) (back := .sl q2 0 D.length 1 k2) hx2 hq (by omega) (by omega) (.inr ⟨_, rfl⟩)
  have g16 := f16_any (c1 := c1) (c2 := k2) (hx2.sl hs1) hs2 (by omega) (by omega)
  rw [hasp, hl] at g16
  have tw := tl ⟨_, _, g16, by unfold rowheap; exact (Ext.app _ _), _, _, rfl, Sl.whole (o := false) (by unfold rowheap; rw [blkAt_app0]; rfl)⟩
  unfold c8t c8 tl2 at tw
  simp (maxSteps := 1000000) (disch := omega) only [go_sem, Nat.reduceEqDiff, Nat.reduceLT, Nat.reduceAdd, Nat.reduceSub, Nat.reduceMul, Nat.reduceBEq, Int.reduceLT, Int.reduceAdd, Int.reduceMul, Int.reduceSub, Int.reduceToNat, Int.reduceLE, Int.reduceEq, ↓reduceIte, reduceCtorEq, Int.reduceNeg, Nat.reduceLeDiff] at tw
  simp (maxSteps := 1000000) (disch := omega) only [go_sem, Nat.reduceEqDiff, Nat.reduceLT, Nat.reduceAdd, Nat.reduceSub, Nat.reduceMul, Nat.reduceBEq, Int.reduceLT, Int.reduceAdd, Int.reduceMul, Int.reduceSub, Int.reduceToNat, Int.reduceLE, Int.reduceEq, ↓reduceIte, reduceCtorEq, Int.reduceNeg, Nat.reduceLeDiff]
  exact tw
end Go.Proofs.Ytlohehkagaabfaa.Ah
