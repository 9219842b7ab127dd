/- V08l: a part of the proof: contracts of functions, or plain laws. Conditions: none. -/
import Derived.Test.YtjibphejlmiocaaV08k
import Derived.Test.YtjibphejlmiocaaV08i
namespace Go.Proofs.Ytjibphejlmiocaa.Ah
open Go Go.WideShapes
attribute [local irreducible] acs aopsK drawK leave condK bindR bindD bindX guardK guardD callB callD callX callP callPv rfunG rfunK yldB yldD
attribute [local go_sem] acs_nil acs_blk acs_skip acs_reg acs_dreg acs_freg acs_nam0 acs_nam nones acs_seq acs_cond acs_block acs_exit acs_ret acs_kl acs_loop leave_nil leave_code leave_lp leave_blk aopsK_nil aopsK_cons aopsK_guard bindR_val bindR_need bindR_br bindR_call bindR_ycall acs_rfun rfunG_fn bindR_bad drawK_nil drawK_cons drawK_ext drawK_pur drawK_guard callPv_fn drawK_purv bindD_val bindD_need bindD_br bindD_call bindD_ycall bindD_bad bindX_val bindX_need bindX_br bindX_call guardD_bool guardD_tup grows grows0 List.append_cancel_left_eq List.cons.injEq exists_eq' exists_eq condK_bool guardK_bool guardK_tup sor r0 r1 r2 r3 rC rB rI rP rA rT rS rF rSl rO rbin rcut run1 Env.evals Env.eval Env.get Env.put Env.ins Env.del Env.dels argEnv AV.full AV.cells AV.cell eqCells decide_true decide_false decide_eq_true_eq decide_eq_false_iff_not Bool.not_eq_true' Bool.not_eq_false' true_and and_true false_implies true_implies forall_const Bool.not_true Bool.not_false Bool.false_eq_true Bool.true_eq_false List.getElem?_cons_zero List.getElem?_cons_succ List.length_cons List.length_nil List.length_append List.all_cons List.all_nil Bool.and_true Bool.and_self implies_true List.append_assoc List.cons_append List.nil_append List.append_nil i64_in imin_eq imax_eq cast3 cast0 cast1 cast2 Option.map_none ite_self and_false false_and Option.isSome_some or_true true_or Int.sub_zero Int.mul_one Nat.sub_zero Nat.zero_le Int.cast_ofNat_Int Int.natCast_nonneg Int.toNat_natCast ne_eq not_false_eq_true not_true_eq_false strC blkAt_app blkAt_app0 blkAt_zero blkAt_succ List.set_cons_zero List.set_cons_succ set_app set_app0 Option.map_some Option.bind_some rd setCells lay rdS szOk rapp ownAt lenAt Option.any_some Option.getD_some List.drop_zero List.drop_succ_cons List.take_succ_cons List.take_zero List.drop_nil List.take_nil Nat.lt_irrefl Nat.zero_add Nat.add_zero Nat.mul_one Nat.one_mul Nat.add_assoc Option.some.injEq eq_self
set_option maxHeartbeats 4000000
set_option linter.unusedSimpArgs false
set_option linter.unusedVariables false
/-! The example; the law FramePacks. -/
theorem ex_right : right 7 [(5 : Int)].length = true := by decide
theorem ex_enc : ∃ r, encB (7 : Int).toNat [5] = 7 :: 0 :: 0 :: 0 :: 0 :: 0 :: 0 :: 0 :: 5 :: r := by
  refine ⟨tail4 (7 :: bytes [5]), ?_⟩
  have h : (7 :: bytes [5]) = [7, 0, 0, 0, 0, 0, 0, 0, 5] := by decide +kernel
  show (7 :: bytes [5]) ++ tail4 (7 :: bytes [5]) = _
  generalize tail4 (7 :: bytes [5]) = z
  rw [h]
  rfl
theorem f10 (H : Heap) : ACall Try.prog 10 [] H (.bool true) H := by
  refine acall10 (by simp) (acs_start ?_)
  have g := fun G (h : blkAt (H ++ G) H.length = some ⟨[.int .i64 5], true⟩) => f12 (k := 7) (ns := [5]) (p := H.length) (off := 0) (cp := some 1) (H := H ++ G) (Sl.whole h) ex_right
  have gL := f21 8
  have el : (encB (7 : Int).toNat [5]).length = 13 := encB_len _ _
  obtain ⟨r, er⟩ := ex_enc
  rw [el, er] at g
  rw [show lng 8 = 15 by decide] at gL
  unfold c10
  simp (maxSteps := 1000000) (disch := omega) only [go_sem, Nat.reduceEqDiff, Nat.reduceLT, Nat.reduceAdd, Nat.reduceSub, Nat.reduceMul, Nat.reduceBEq, Int.reduceLT, Int.reduceAdd, Int.reduceMul, Int.reduceSub, Int.reduceToNat, Int.reduceLE, Int.reduceEq, ↓reduceIte, reduceCtorEq, Int.reduceNeg, Nat.reduceLeDiff]
  first | refine callBE (g _ (by simp only [go_sem, Nat.reduceEqDiff, Nat.reduceLT, Nat.reduceAdd, Nat.reduceSub, Nat.reduceMul, Nat.reduceBEq, Int.reduceLT, Int.reduceAdd, Int.reduceMul, Int.reduceSub, Int.reduceToNat, Int.reduceLE, Int.reduceEq, ↓reduceIte, reduceCtorEq, Int.reduceNeg, Nat.reduceLeDiff])) ?_ | refine callDE (g _ (by simp only [go_sem, Nat.reduceEqDiff, Nat.reduceLT, Nat.reduceAdd, Nat.reduceSub, Nat.reduceMul, Nat.reduceBEq, Int.reduceLT, Int.reduceAdd, Int.reduceMul, Int.reduceSub, Int.reduceToNat, Int.reduceLE, Int.reduceEq, ↓reduceIte, reduceCtorEq, Int.reduceNeg, Nat.reduceLeDiff])) ?_ | refine callXE (g _ (by simp only [go_sem, Nat.reduceEqDiff, Nat.reduceLT, Nat.reduceAdd, Nat.reduceSub, Nat.reduceMul, Nat.reduceBEq, Int.reduceLT, Int.reduceAdd, Int.reduceMul, Int.reduceSub, Int.reduceToNat, Int.reduceLE, Int.reduceEq, ↓reduceIte, reduceCtorEq, Int.reduceNeg, Nat.reduceLeDiff])) ?_
  rintro v H1 hx ⟨q, hq, rfl, hb⟩
  have hql := blkAt_lt hb
  simp only [List.map_cons] at hb
  simp (maxSteps := 1000000) (disch := omega) only [go_sem, Nat.reduceEqDiff, Nat.reduceLT, Nat.reduceAdd, Nat.reduceSub, Nat.reduceMul, Nat.reduceBEq, Int.reduceLT, Int.reduceAdd, Int.reduceMul, Int.reduceSub, Int.reduceToNat, Int.reduceLE, Int.reduceEq, ↓reduceIte, reduceCtorEq, Int.reduceNeg, Nat.reduceLeDiff,  hb, u8]
  first | refine callB_intro (gL _) ?_ | refine callD_intro (gL _) ?_ | refine callP_intro (fun _ => (gL _)) ?_ | refine callX_pure (gL _) ?_
  simp (maxSteps := 1000000) (disch := omega) only [go_sem, Nat.reduceEqDiff, Nat.reduceLT, Nat.reduceAdd, Nat.reduceSub, Nat.reduceMul, Nat.reduceBEq, Int.reduceLT, Int.reduceAdd, Int.reduceMul, Int.reduceSub, Int.reduceToNat, Int.reduceLE, Int.reduceEq, ↓reduceIte, reduceCtorEq, Int.reduceNeg, Nat.reduceLeDiff]
  exact fin_ext (by simp) ((Ext.app _ _).trans hx) (by simp (maxSteps := 1000000) (disch := omega) only [resVal, resAll, resOne, rs10, Env.get, go_sem, Nat.reduceEqDiff, Nat.reduceLT, Nat.reduceAdd, Nat.reduceSub, Nat.reduceMul, Nat.reduceBEq, Int.reduceLT, Int.reduceAdd, Int.reduceMul, Int.reduceSub, Int.reduceToNat, Int.reduceLE, Int.reduceEq, ↓reduceIte, reduceCtorEq, Int.reduceNeg, Nat.reduceLeDiff]) (by simp only [AV.und, AV.unds, and_self])
theorem one_inj (a b : Bool) : (one a = one b) = (a = b) := by cases a <;> cases b <;> simp [one]
theorem f4 (s t : Smp) (H : Heap) : ACall Try.prog 4 [.agg s.av, .agg t.av] H (.bool true) H := by
  refine acall4 (by simp) (acs_start ?_)
  have g1 := fun H => f15 s H
  have g2 := fun H => f15 t H
  have av1 : s.av.length = 13 := rfl
  have av2 : s.av.all AV.cell = true := rfl
  have av3 : List.take 13 s.av = s.av := rfl
  have bv1 : t.av.length = 13 := rfl
  have bv2 : t.av.all AV.cell = true := rfl
  have bv3 : List.take 13 t.av = t.av := rfl
  have lx : (pk s).length = 13 := rfl
  have ly : (pk t).length = 13 := rfl
  have eq : decide (pk s = pk t) = (decide (s.m = t.m) && (decide (s.g0 = t.g0) && (decide (s.g1 = t.g1) && (decide (s.g2 = t.g2) && (decide (s.a0 = t.a0) && (decide (s.a1 = t.a1) && (decide (s.a2 = t.a2) && (decide (s.hb = t.hb) && (decide (s.b = t.b) && (decide (s.hg = t.hg) && (decide (s.n0 = t.n0) && (decide (s.n1 = t.n1) && decide (s.n2 = t.n2))))))))))))) := by
    rw [Bool.eq_iff_iff]
    simp [pk, one_inj]
  unfold c4
  simp (maxSteps := 1000000) (disch := omega) only [go_sem, Nat.reduceEqDiff, Nat.reduceLT, Nat.reduceAdd, Nat.reduceSub, Nat.reduceMul, Nat.reduceBEq, Int.reduceLT, Int.reduceAdd, Int.reduceMul, Int.reduceSub, Int.reduceToNat, Int.reduceLE, Int.reduceEq, ↓reduceIte, reduceCtorEq, Int.reduceNeg, Nat.reduceLeDiff,  av1, av2, bv1, bv2]
  first | refine callB_intro (f10 _) ?_ | refine callD_intro (f10 _) ?_ | refine callP_intro (fun _ => (f10 _)) ?_ | refine callX_pure (f10 _) ?_
  simp (maxSteps := 1000000) (disch := omega) only [go_sem, Nat.reduceEqDiff, Nat.reduceLT, Nat.reduceAdd, Nat.reduceSub, Nat.reduceMul, Nat.reduceBEq, Int.reduceLT, Int.reduceAdd, Int.reduceMul, Int.reduceSub, Int.reduceToNat, Int.reduceLE, Int.reduceEq, ↓reduceIte, reduceCtorEq, Int.reduceNeg, Nat.reduceLeDiff,  av1, av3, bv1, bv3]
  first | refine callBE (g1 _) ?_ | refine callDE (g1 _) ?_ | refine callXE (g1 _) ?_
  rintro v1 H1 hx1 ⟨p1, o1, c1, rfl, s1⟩
  have b0 : blkAt H1 H.length = some ⟨s.av, true⟩ := hx1.blk (by simp only [go_sem, Nat.reduceEqDiff, Nat.reduceLT, Nat.reduceAdd, Nat.reduceSub, Nat.reduceMul, Nat.reduceBEq, Int.reduceLT, Int.reduceAdd, Int.reduceMul, Int.reduceSub, Int.reduceToNat, Int.reduceLE, Int.reduceEq, ↓reduceIte, reduceCtorEq, Int.reduceNeg, Nat.reduceLeDiff])
  have b1 : blkAt H1 (H.length + 1) = some ⟨t.av, true⟩ := hx1.blk (by simp only [go_sem, Nat.reduceEqDiff, Nat.reduceLT, Nat.reduceAdd, Nat.reduceSub, Nat.reduceMul, Nat.reduceBEq, Int.reduceLT, Int.reduceAdd, Int.reduceMul, Int.reduceSub, Int.reduceToNat, Int.reduceLE, Int.reduceEq, ↓reduceIte, reduceCtorEq, Int.reduceNeg, Nat.reduceLeDiff])
  have hy1 : Ext H H1 := (Ext.app _ _).trans hx1
  simp (maxSteps := 1000000) (disch := omega) only [go_sem, Nat.reduceEqDiff, Nat.reduceLT, Nat.reduceAdd, Nat.reduceSub, Nat.reduceMul, Nat.reduceBEq, Int.reduceLT, Int.reduceAdd, Int.reduceMul, Int.reduceSub, Int.reduceToNat, Int.reduceLE, Int.reduceEq, ↓reduceIte, reduceCtorEq, Int.reduceNeg, Nat.reduceLeDiff,  av1, av3, bv1, bv3, b0, b1]
  first | refine callBE (g2 _) ?_ | refine callDE (g2 _) ?_ | refine callXE (g2 _) ?_
  rintro v2 H2 hx2 ⟨p2, o2, c2, rfl, s2⟩
  replace b0 := hx2.blk b0
  replace b1 := hx2.blk b1
  replace s1 := hx2.sl s1
  have hy := hy1.trans hx2
  obtain ⟨cs, oo, hp, hle, hcs⟩ := s1
  obtain ⟨ds, oo2, hq, hle2, hds⟩ := s2
  rw [lx, ly]
  simp (maxSteps := 1000000) (disch := omega) only [go_sem, Nat.reduceEqDiff, Nat.reduceLT, Nat.reduceAdd, Nat.reduceSub, Nat.reduceMul, Nat.reduceBEq, Int.reduceLT, Int.reduceAdd, Int.reduceMul, Int.reduceSub, Int.reduceToNat, Int.reduceLE, Int.reduceEq, ↓reduceIte, reduceCtorEq, Int.reduceNeg, Nat.reduceLeDiff]
  refine loop_list (fun r T H' => ∃ (j : Nat) (u : List Int), T = [(2, .ptr H.length 0), (3, .ptr (H.length + 1) 0), (5, .bool true), (6, .sl p1 o1 13 1 c1), (7, .sl p2 o2 13 1 c2), (8, .bool (decide ((pk s).take j = (pk t).take j))), (9, .int .i64 (j : Nat))] ∧ H' = H2 ∧ (pk s).drop j = r ∧ (pk t).drop j = u ∧ j + r.length = 13 ∧ r.length = u.length) ?_ ?_ (pk s) _ _ ⟨0, pk t, rfl, rfl, rfl, rfl, by simp [lx], by rw [lx, ly]⟩
  · rintro x r T H' ⟨j, u, rfl, rfl, hr, hu, hj, hru⟩ next
    cases u with
    | nil => simp at hru
    | cons y u =>
      obtain ⟨k1, k2, k3⟩ := drop_cons hr
      obtain ⟨m1, m2, m3⟩ := drop_cons hu
      have fx := sl_get hcs k1
      have fy := sl_get hds m1
      simp only [i64] at fx fy
      have hlt : (j : Int) < 13 := by omega
      have ht' : ((pk s).take (j + 1) = (pk t).take (j + 1)) ↔ ((pk s).take j = (pk t).take j ∧ x = y) := by
        rw [List.take_add_one, List.take_add_one, k1, m1]
        constructor
        · intro h
          have := List.append_inj' h rfl
          exact ⟨this.1, by simpa using this.2⟩
        · rintro ⟨h1, rfl⟩
          rw [h1]
      have ht : decide ((pk s).take (j + 1) = (pk t).take (j + 1)) = (decide ((pk s).take j = (pk t).take j) && decide (x = y)) := by
        rw [decide_eq_decide.2 ht', Bool.decide_and]
      have nx := next _ _ ⟨j + 1, u, rfl, rfl, k2, m2, by simp at hj; omega, by simpa using hru⟩
      rw [ht] at nx
      clear next ht ht'
      by_cases he : (pk s).take j = (pk t).take j
      · rw [decide_eq_true he] at nx ⊢
        rw [acs_lp]; conv in Fr.code c4l0 => unfold c4l0
        simp (maxSteps := 1000000) (disch := omega) only [go_sem, Nat.reduceEqDiff, Nat.reduceLT, Nat.reduceAdd, Nat.reduceSub, Nat.reduceMul, Nat.reduceBEq, Int.reduceLT, Int.reduceAdd, Int.reduceMul, Int.reduceSub, Int.reduceToNat, Int.reduceLE, Int.reduceEq, ↓reduceIte, reduceCtorEq, Int.reduceNeg, Nat.reduceLeDiff,  hlt, hp, hq, fx, fy]
        simpa using nx
      · rw [decide_eq_false he] at nx ⊢
        rw [acs_lp]; conv in Fr.code c4l0 => unfold c4l0
        simp (maxSteps := 1000000) (disch := omega) only [go_sem, Nat.reduceEqDiff, Nat.reduceLT, Nat.reduceAdd, Nat.reduceSub, Nat.reduceMul, Nat.reduceBEq, Int.reduceLT, Int.reduceAdd, Int.reduceMul, Int.reduceSub, Int.reduceToNat, Int.reduceLE, Int.reduceEq, ↓reduceIte, reduceCtorEq, Int.reduceNeg, Nat.reduceLeDiff,  hlt]
        simpa using nx
  · rintro T H' ⟨j, u, rfl, rfl, hr, hu, hj, hru⟩
    obtain rfl : j = 13 := by simpa using hj
    have e1 : (pk s).take 13 = pk s := rfl
    have e2 : (pk t).take 13 = pk t := rfl
    rw [e1, e2, eq]
    unfold Smp.av at b0 b1
    rw [acs_lp]; conv in Fr.code c4l0 => unfold c4l0
    simp (maxSteps := 1000000) (disch := omega) only [go_sem, Nat.reduceEqDiff, Nat.reduceLT, Nat.reduceAdd, Nat.reduceSub, Nat.reduceMul, Nat.reduceBEq, Int.reduceLT, Int.reduceAdd, Int.reduceMul, Int.reduceSub, Int.reduceToNat, Int.reduceLE, Int.reduceEq, ↓reduceIte, reduceCtorEq, Int.reduceNeg, Nat.reduceLeDiff,  b0, b1]
    exact fin_ext (by simp) hy (by simp (maxSteps := 1000000) (disch := omega) only [resVal, resAll, resOne, rs4, Env.get, go_sem, Nat.reduceEqDiff, Nat.reduceLT, Nat.reduceAdd, Nat.reduceSub, Nat.reduceMul, Nat.reduceBEq, Int.reduceLT, Int.reduceAdd, Int.reduceMul, Int.reduceSub, Int.reduceToNat, Int.reduceLE, Int.reduceEq, ↓reduceIte, reduceCtorEq, Int.reduceNeg, Nat.reduceLeDiff]) (by simp only [AV.und, AV.unds, and_self])
end Go.Proofs.Ytjibphejlmiocaa.Ah
