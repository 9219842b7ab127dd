/- V03s: a part of the proof: contracts of functions, or plain laws. Conditions: none. -/
import Derived.Test.YtmlklopopokjoaaV03r
import Derived.Test.YtmlklopopokjoaaV03l
namespace Go.Proofs.Ytmlklopopokjoaa.Ah
open Go Go.WideShapes
attribute [local irreducible] acs aopsK drawK leave condK bindR bindD bindX guardK guardD callB callD callX callP callPv
attribute [local go_sem] acs_nil acs_blk acs_skip acs_reg acs_dreg acs_freg acs_nam0 acs_nam nones acs_seq acs_cond acs_block acs_exit acs_ret acs_kl acs_loop leave_nil leave_code leave_lp leave_blk aopsK_nil aopsK_cons aopsK_guard bindR_val bindR_need bindR_br bindR_call bindR_bad drawK_nil drawK_cons drawK_ext drawK_pur drawK_guard callPv_fn drawK_purv bindD_val bindD_need bindD_br bindD_call bindD_bad bindX_val bindX_need bindX_br bindX_call guardD_bool guardD_tup grows grows0 List.append_cancel_left_eq List.cons.injEq exists_eq' exists_eq condK_bool guardK_bool guardK_tup sor r0 r1 r2 r3 rC rB rI rP rA rT rS rF rSl rO rbin rcut run1 Env.evals Env.eval Env.get Env.put Env.ins Env.del Env.dels argEnv AV.full AV.cells AV.cell eqCells decide_true decide_false decide_eq_true_eq decide_eq_false_iff_not Bool.not_eq_true' Bool.not_eq_false' true_and and_true false_implies true_implies forall_const Bool.not_true Bool.not_false Bool.false_eq_true Bool.true_eq_false List.getElem?_cons_zero List.getElem?_cons_succ List.length_cons List.length_nil List.length_append List.all_cons List.all_nil Bool.and_true Bool.and_self implies_true List.append_assoc List.cons_append List.nil_append List.append_nil i64_in imin_eq imax_eq cast3 cast0 cast1 cast2 Option.map_none ite_self and_false false_and Option.isSome_some or_true true_or Int.sub_zero Int.mul_one Nat.sub_zero Nat.zero_le Int.cast_ofNat_Int Int.natCast_nonneg Int.toNat_natCast ne_eq not_false_eq_true not_true_eq_false strC blkAt_app blkAt_app0 blkAt_zero blkAt_succ List.set_cons_zero List.set_cons_succ set_app set_app0 Option.map_some Option.bind_some rd setCells lay rdS szOk rapp ownAt lenAt Option.any_some Option.getD_some List.drop_zero List.drop_succ_cons List.take_succ_cons List.take_zero List.drop_nil List.take_nil Nat.lt_irrefl Nat.zero_add Nat.add_zero Nat.mul_one Nat.one_mul Nat.add_assoc Option.some.injEq eq_self
set_option maxHeartbeats 4000000
set_option linter.unusedSimpArgs false
set_option linter.unusedVariables false
/-! The law MatTurns. -/
theorem f7 (R1 C1 R2 C2 : Int) (l1 l2 : List Int) (p1 o1 p2 o2 : Nat) (k1 k2 : Option Nat) (H : Heap) (h1 : Sl i64 H p1 o1 l1) (h2 : Sl i64 H p2 o2 l2) (n1 : l1.length ≤ 140737488351232) (n2 : l2.length ≤ 140737488351232) :
    ACall Try.prog 7 [.agg [.int .i64 R1, .int .i64 C1, .sl p1 o1 l1.length 1 k1], .agg [.int .i64 R2, .int .i64 C2, .sl p2 o2 l2.length 1 k2]] H (.bool true) H := by
  refine acall7 (by simp) (acs_start ?_)
  have ga := fun G => f10 (R := R1) (C := C1) (k := k1) (h1.app G) (by omega)
  have gb := fun G => f10 (R := R2) (C := C2) (k := k2) (h2.app G) (by omega)
  unfold c7
  simp (maxSteps := 1000000) (disch := omega) only [go_sem, Nat.reduceEqDiff, Nat.reduceLT, Nat.reduceAdd, Nat.reduceSub, Nat.reduceMul, Nat.reduceBEq, Int.reduceLT, Int.reduceAdd, Int.reduceMul, Int.reduceSub, Int.reduceToNat, Int.reduceLE, Int.reduceEq, ↓reduceIte, reduceCtorEq, Int.reduceNeg, Nat.reduceLeDiff]
  first | refine callB_intro (f9) ?_ | refine callD_intro (f9) ?_ | refine callP_intro (fun _ => (f9)) ?_ | refine callX_pure (f9) ?_
  simp (maxSteps := 1000000) (disch := omega) only [go_sem, Nat.reduceEqDiff, Nat.reduceLT, Nat.reduceAdd, Nat.reduceSub, Nat.reduceMul, Nat.reduceBEq, Int.reduceLT, Int.reduceAdd, Int.reduceMul, Int.reduceSub, Int.reduceToNat, Int.reduceLE, Int.reduceEq, ↓reduceIte, reduceCtorEq, Int.reduceNeg, Nat.reduceLeDiff]
  first | refine callB_intro (ga _) ?_ | refine callD_intro (ga _) ?_ | refine callP_intro (fun _ => (ga _)) ?_ | refine callX_pure (ga _) ?_
  cases r1 : rightB R1 C1 l1 with
  | false =>
    simp (maxSteps := 1000000) (disch := omega) only [go_sem, Nat.reduceEqDiff, Nat.reduceLT, Nat.reduceAdd, Nat.reduceSub, Nat.reduceMul, Nat.reduceBEq, Int.reduceLT, Int.reduceAdd, Int.reduceMul, Int.reduceSub, Int.reduceToNat, Int.reduceLE, Int.reduceEq, ↓reduceIte, reduceCtorEq, Int.reduceNeg, Nat.reduceLeDiff]
    exact fin_same (by simp) _ (by first | exact (List.append_nil _).symm | rfl) (by simp (maxSteps := 1000000) (disch := omega) only [resVal, resAll, resOne, rs7, Env.get, go_sem, Nat.reduceEqDiff, Nat.reduceLT, Nat.reduceAdd, Nat.reduceSub, Nat.reduceMul, Nat.reduceBEq, Int.reduceLT, Int.reduceAdd, Int.reduceMul, Int.reduceSub, Int.reduceToNat, Int.reduceLE, Int.reduceEq, ↓reduceIte, reduceCtorEq, Int.reduceNeg, Nat.reduceLeDiff]) (by simp only [AV.und, AV.unds, and_self])
  | true =>
  simp (maxSteps := 1000000) (disch := omega) only [go_sem, Nat.reduceEqDiff, Nat.reduceLT, Nat.reduceAdd, Nat.reduceSub, Nat.reduceMul, Nat.reduceBEq, Int.reduceLT, Int.reduceAdd, Int.reduceMul, Int.reduceSub, Int.reduceToNat, Int.reduceLE, Int.reduceEq, ↓reduceIte, reduceCtorEq, Int.reduceNeg, Nat.reduceLeDiff]
  first | refine callB_intro (gb _) ?_ | refine callD_intro (gb _) ?_ | refine callP_intro (fun _ => (gb _)) ?_ | refine callX_pure (gb _) ?_
  cases r2 : rightB R2 C2 l2 with
  | false =>
    simp (maxSteps := 1000000) (disch := omega) only [go_sem, Nat.reduceEqDiff, Nat.reduceLT, Nat.reduceAdd, Nat.reduceSub, Nat.reduceMul, Nat.reduceBEq, Int.reduceLT, Int.reduceAdd, Int.reduceMul, Int.reduceSub, Int.reduceToNat, Int.reduceLE, Int.reduceEq, ↓reduceIte, reduceCtorEq, Int.reduceNeg, Nat.reduceLeDiff]
    exact fin_same (by simp) _ (by first | exact (List.append_nil _).symm | rfl) (by simp (maxSteps := 1000000) (disch := omega) only [resVal, resAll, resOne, rs7, Env.get, go_sem, Nat.reduceEqDiff, Nat.reduceLT, Nat.reduceAdd, Nat.reduceSub, Nat.reduceMul, Nat.reduceBEq, Int.reduceLT, Int.reduceAdd, Int.reduceMul, Int.reduceSub, Int.reduceToNat, Int.reduceLE, Int.reduceEq, ↓reduceIte, reduceCtorEq, Int.reduceNeg, Nat.reduceLeDiff]) (by simp only [AV.und, AV.unds, and_self])
  | true =>
  obtain ⟨m, rfl, rfl, rfl, rfl, rfl, rfl, hm⟩ := right_mx (k := k1) r1 h1
  obtain ⟨n, rfl, rfl, rfl, rfl, rfl, rfl, hn⟩ := right_mx (k := k2) r2 h2
  have am : ([.int .i64 (m.r : Nat), .int .i64 (m.c : Nat), .sl m.p m.off m.l.length 1 m.k] : List AV) = m.av := rfl
  have an : ([.int .i64 (n.r : Nat), .int .i64 (n.c : Nat), .sl n.p n.off n.l.length 1 n.k] : List AV) = n.av := rfl
  rw [am, an]
  have a1 := mav_len m
  have a2 := mav_all m
  have a3 := mav_take m
  have c1 := mav_len n
  have c2 := mav_all n
  have c3 := mav_take n
  have a5 : m.av[1]? = some (.int .i64 (m.c : Nat)) := rfl
  have c4 : n.av[0]? = some (.int .i64 (n.r : Nat)) := rfl
  have lm : m.l.length ≤ 64 := by rw [hm.hl]; exact ix_le hm.hr.2 hm.hc.2
  clear ga gb r1 r2 h1 h2 an
  simp (maxSteps := 1000000) (disch := omega) only [go_sem, Nat.reduceEqDiff, Nat.reduceLT, Nat.reduceAdd, Nat.reduceSub, Nat.reduceMul, Nat.reduceBEq, Int.reduceLT, Int.reduceAdd, Int.reduceMul, Int.reduceSub, Int.reduceToNat, Int.reduceLE, Int.reduceEq, ↓reduceIte, reduceCtorEq, Int.reduceNeg, Nat.reduceLeDiff,  a1, a2, a3, a5, c1, c2, c3, c4]
  first | refine callBE (f23 hm.hc) ?_ | refine callDE (f23 hm.hc) ?_ | refine callXE (f23 hm.hc) ?_
  rintro v H1 hx1 ⟨w, rfl, q1, u1, j1, rfl, s1⟩
  have b0 : blkAt H1 H.length = some ⟨m.av, true⟩ := hx1.blk (by simp only [go_sem, Nat.reduceEqDiff, Nat.reduceLT, Nat.reduceAdd, Nat.reduceSub, Nat.reduceMul, Nat.reduceBEq, Int.reduceLT, Int.reduceAdd, Int.reduceMul, Int.reduceSub, Int.reduceToNat, Int.reduceLE, Int.reduceEq, ↓reduceIte, reduceCtorEq, Int.reduceNeg, Nat.reduceLeDiff])
  have b1 : blkAt H1 (H.length + 1) = some ⟨n.av, true⟩ := hx1.blk (by simp only [go_sem, Nat.reduceEqDiff, Nat.reduceLT, Nat.reduceAdd, Nat.reduceSub, Nat.reduceMul, Nat.reduceBEq, Int.reduceLT, Int.reduceAdd, Int.reduceMul, Int.reduceSub, Int.reduceToNat, Int.reduceLE, Int.reduceEq, ↓reduceIte, reduceCtorEq, Int.reduceNeg, Nat.reduceLeDiff])
  have hy1 : Ext H H1 := (Ext.app _ _).trans hx1
  replace hm := hm.ext hy1
  replace hn := hn.ext hy1
  have l0 := blkAt_lt b0
  have g20 := fun G => f20 (hm.app G) ((ey_ok (kk := j1) hm.hc s1).app G) rfl
  obtain ⟨y1, y2⟩ := mul_eye hm (p := q1) (off := u1) (kk := j1)
  rw [y1, y2] at g20
  have av : Mx.av ⟨m.c, m.c, eyL m.c, q1, u1, j1⟩ = [.int .i64 (m.c : Nat), .int .i64 (m.c : Nat), .sl q1 u1 (eyL m.c).length 1 j1] := rfl
  rw [av] at g20
  simp (maxSteps := 1000000) (disch := omega) only [go_sem, Nat.reduceEqDiff, Nat.reduceLT, Nat.reduceAdd, Nat.reduceSub, Nat.reduceMul, Nat.reduceBEq, Int.reduceLT, Int.reduceAdd, Int.reduceMul, Int.reduceSub, Int.reduceToNat, Int.reduceLE, Int.reduceEq, ↓reduceIte, reduceCtorEq, Int.reduceNeg, Nat.reduceLeDiff,  a1, a2, a3, b0, l0, blkAt_lo]
  first | refine callBE (g20 _) ?_ | refine callDE (g20 _) ?_ | refine callXE (g20 _) ?_
  rintro v H2 hx2 ⟨w, rfl, q2, u2, j2, rfl, s2⟩
  have hy2 : Ext H1 H2 := (Ext.app _ _).trans hx2
  replace b0 := hy2.blk b0
  replace b1 := hy2.blk b1
  replace hm := hm.ext hy2
  replace hn := hn.ext hy2
  have l0 := blkAt_lt b0
  have g17 := fun G => f17 (hm.app G)
  simp (maxSteps := 1000000) (disch := omega) only [go_sem, Nat.reduceEqDiff, Nat.reduceLT, Nat.reduceAdd, Nat.reduceSub, Nat.reduceMul, Nat.reduceBEq, Int.reduceLT, Int.reduceAdd, Int.reduceMul, Int.reduceSub, Int.reduceToNat, Int.reduceLE, Int.reduceEq, ↓reduceIte, reduceCtorEq, Int.reduceNeg, Nat.reduceLeDiff,  a1, a2, a3, b0, l0, blkAt_lo]
  first | refine callBE (g17 _) ?_ | refine callDE (g17 _) ?_ | refine callXE (g17 _) ?_
  rintro v H3 hx3 ⟨w, rfl, q3, u3, j3, rfl, s3⟩
  have hy3 : Ext H2 H3 := (Ext.app _ _).trans hx3
  have b8 : blkAt H3 H2.length = some ⟨[.int .i64 (m.r : Nat), .int .i64 (m.c : Nat), .sl q2 u2 m.l.length 1 j2], true⟩ := hx3.blk (by simp only [go_sem, Nat.reduceEqDiff, Nat.reduceLT, Nat.reduceAdd, Nat.reduceSub, Nat.reduceMul, Nat.reduceBEq, Int.reduceLT, Int.reduceAdd, Int.reduceMul, Int.reduceSub, Int.reduceToNat, Int.reduceLE, Int.reduceEq, ↓reduceIte, reduceCtorEq, Int.reduceNeg, Nat.reduceLeDiff])
  have hT := tr_ok (kk := j3) hm s3
  have g17b := f17 hT
  rw [show matL (fun i k => Mx.at ⟨m.c, m.r, matL (fun i k => m.at k i) m.c m.r, q3, u3, j3⟩ k i) m.r m.c = m.l from tr_tr hm] at g17b
  replace b0 := hy3.blk b0
  replace b1 := hy3.blk b1
  replace hm := hm.ext hy3
  replace hn := hn.ext hy3
  replace s2 := hy3.sl s2
  simp (maxSteps := 1000000) (disch := omega) only [go_sem, Nat.reduceEqDiff, Nat.reduceLT, Nat.reduceAdd, Nat.reduceSub, Nat.reduceMul, Nat.reduceBEq, Int.reduceLT, Int.reduceAdd, Int.reduceMul, Int.reduceSub, Int.reduceToNat, Int.reduceLE, Int.reduceEq, ↓reduceIte, reduceCtorEq, Int.reduceNeg, Nat.reduceLeDiff]
  first | refine callBE (g17b) ?_ | refine callDE (g17b) ?_ | refine callXE (g17b) ?_
  rintro v H4 hy4 ⟨w, rfl, q4, u4, j4, rfl, s4⟩
  replace b0 := hy4.blk b0
  replace b1 := hy4.blk b1
  replace b8 := hy4.blk b8
  replace hm := hm.ext hy4
  replace hn := hn.ext hy4
  replace s2 := hy4.sl s2
  have l0 := blkAt_lt b0
  have l1 := blkAt_lt b1
  have l8 := blkAt_lt b8
  have gs := f13 (R1 := (m.r : Int)) (C1 := (m.c : Int)) (R2 := (m.r : Int)) (C2 := (m.c : Int)) (k1 := j4) (k2 := m.k) s4 hm.hs (by omega)
  have gt := f13 (R1 := (m.r : Int)) (C1 := (m.c : Int)) (R2 := (m.r : Int)) (C2 := (m.c : Int)) (k1 := j2) (k2 := m.k) s2 hm.hs (by omega)
  rw [same_self, am] at gs gt
  have hyA : Ext H H4 := ((hy1.trans hy2).trans hy3).trans hy4
  clear hx1 hx2 hx3 g17 g17b g20 hy1 hy2 hy3 hy4 av y1 y2 s1 s3
  simp (maxSteps := 1000000) (disch := omega) only [go_sem, Nat.reduceEqDiff, Nat.reduceLT, Nat.reduceAdd, Nat.reduceSub, Nat.reduceMul, Nat.reduceBEq, Int.reduceLT, Int.reduceAdd, Int.reduceMul, Int.reduceSub, Int.reduceToNat, Int.reduceLE, Int.reduceEq, ↓reduceIte, reduceCtorEq, Int.reduceNeg, Nat.reduceLeDiff,  a1, a2, a3, b0, l0]
  first | refine callB_intro (gs) ?_ | refine callD_intro (gs) ?_ | refine callP_intro (fun _ => (gs)) ?_ | refine callX_pure (gs) ?_
  simp (maxSteps := 1000000) (disch := omega) only [go_sem, Nat.reduceEqDiff, Nat.reduceLT, Nat.reduceAdd, Nat.reduceSub, Nat.reduceMul, Nat.reduceBEq, Int.reduceLT, Int.reduceAdd, Int.reduceMul, Int.reduceSub, Int.reduceToNat, Int.reduceLE, Int.reduceEq, ↓reduceIte, reduceCtorEq, Int.reduceNeg, Nat.reduceLeDiff,  a1, a2, a3, b0, l0, b8, l8]
  first | refine callB_intro (gt) ?_ | refine callD_intro (gt) ?_ | refine callP_intro (fun _ => (gt)) ?_ | refine callX_pure (gt) ?_
  by_cases hc : m.c = n.r
  rotate_left
  · have hne : ¬ (m.c : Int) = (n.r : Int) := by omega
    simp (maxSteps := 1000000) (disch := omega) only [go_sem, Nat.reduceEqDiff, Nat.reduceLT, Nat.reduceAdd, Nat.reduceSub, Nat.reduceMul, Nat.reduceBEq, Int.reduceLT, Int.reduceAdd, Int.reduceMul, Int.reduceSub, Int.reduceToNat, Int.reduceLE, Int.reduceEq, ↓reduceIte, reduceCtorEq, Int.reduceNeg, Nat.reduceLeDiff,  a5, c4, b0, l0, b1, l1, hne]
    exact fin_ext (by simp) hyA (by simp (maxSteps := 1000000) (disch := omega) only [resVal, resAll, resOne, rs7, Env.get, go_sem, Nat.reduceEqDiff, Nat.reduceLT, Nat.reduceAdd, Nat.reduceSub, Nat.reduceMul, Nat.reduceBEq, Int.reduceLT, Int.reduceAdd, Int.reduceMul, Int.reduceSub, Int.reduceToNat, Int.reduceLE, Int.reduceEq, ↓reduceIte, reduceCtorEq, Int.reduceNeg, Nat.reduceLeDiff]) (by simp only [AV.und, AV.unds, and_self])
  have heq : decide ((m.c : Int) = (n.r : Int)) = true := decide_eq_true (by omega)
  simp (maxSteps := 1000000) (disch := omega) only [go_sem, Nat.reduceEqDiff, Nat.reduceLT, Nat.reduceAdd, Nat.reduceSub, Nat.reduceMul, Nat.reduceBEq, Int.reduceLT, Int.reduceAdd, Int.reduceMul, Int.reduceSub, Int.reduceToNat, Int.reduceLE, Int.reduceEq, ↓reduceIte, reduceCtorEq, Int.reduceNeg, Nat.reduceLeDiff,  a1, a2, a3, c1, c2, c3, a5, c4, b0, l0, b1, l1, heq]
  first | refine callBE (f20 hm hn hc) ?_ | refine callDE (f20 hm hn hc) ?_ | refine callXE (f20 hm hn hc) ?_
  rintro v H5 hy5 ⟨w, rfl, q5, u5, j5, rfl, s5⟩
  replace b0 := hy5.blk b0
  replace b1 := hy5.blk b1
  have l0 := blkAt_lt b0
  have l1 := blkAt_lt b1
  have hP := mul_ok (kk := j5) hm hn s5
  replace hm := hm.ext hy5
  replace hn := hn.ext hy5
  have g17 := fun G => f17 (hn.app G)
  simp (maxSteps := 1000000) (disch := omega) only [go_sem, Nat.reduceEqDiff, Nat.reduceLT, Nat.reduceAdd, Nat.reduceSub, Nat.reduceMul, Nat.reduceBEq, Int.reduceLT, Int.reduceAdd, Int.reduceMul, Int.reduceSub, Int.reduceToNat, Int.reduceLE, Int.reduceEq, ↓reduceIte, reduceCtorEq, Int.reduceNeg, Nat.reduceLeDiff,  a1, a2, a3, c1, c2, c3, b0, l0, b1, l1, blkAt_lo]
  first | refine callBE (g17 _) ?_ | refine callDE (g17 _) ?_ | refine callXE (g17 _) ?_
  rintro v H6 ⟨G6, rfl⟩ ⟨w, rfl, q6, u6, j6, rfl, s6⟩
  simp only [go_sem, Nat.reduceEqDiff, Nat.reduceLT, Nat.reduceAdd, Nat.reduceSub, Nat.reduceMul, Nat.reduceBEq, Int.reduceLT, Int.reduceAdd, Int.reduceMul, Int.reduceSub, Int.reduceToNat, Int.reduceLE, Int.reduceEq, ↓reduceIte, reduceCtorEq, Int.reduceNeg, Nat.reduceLeDiff] at s6
  have hTn := tr_ok (kk := j6) hn s6
  have g17m := fun G => f17 (hm.app G)
  simp (maxSteps := 1000000) (disch := omega) only [go_sem, Nat.reduceEqDiff, Nat.reduceLT, Nat.reduceAdd, Nat.reduceSub, Nat.reduceMul, Nat.reduceBEq, Int.reduceLT, Int.reduceAdd, Int.reduceMul, Int.reduceSub, Int.reduceToNat, Int.reduceLE, Int.reduceEq, ↓reduceIte, reduceCtorEq, Int.reduceNeg, Nat.reduceLeDiff,  a1, a2, a3, c1, c2, c3, b0, l0, b1, l1, blkAt_lo]
  first | refine callBE (g17m _) ?_ | refine callDE (g17m _) ?_ | refine callXE (g17m _) ?_
  rintro v H7 ⟨G7, rfl⟩ ⟨w, rfl, q7, u7, j7, rfl, s7⟩
  simp only [go_sem, Nat.reduceEqDiff, Nat.reduceLT, Nat.reduceAdd, Nat.reduceSub, Nat.reduceMul, Nat.reduceBEq, Int.reduceLT, Int.reduceAdd, Int.reduceMul, Int.reduceSub, Int.reduceToNat, Int.reduceLE, Int.reduceEq, ↓reduceIte, reduceCtorEq, Int.reduceNeg, Nat.reduceLeDiff] at s7
  have hTm := tr_ok (kk := j7) hm s7
  have hTn7 := hTn.app G7
  simp only [go_sem, Nat.reduceEqDiff, Nat.reduceLT, Nat.reduceAdd, Nat.reduceSub, Nat.reduceMul, Nat.reduceBEq, Int.reduceLT, Int.reduceAdd, Int.reduceMul, Int.reduceSub, Int.reduceToNat, Int.reduceLE, Int.reduceEq, ↓reduceIte, reduceCtorEq, Int.reduceNeg, Nat.reduceLeDiff] at hTn7
  have g20 := f20 hTn7 hTm hc.symm
  obtain ⟨t1, t2⟩ := mul_tr (m := m) (n := n) hc (p1 := q6) (o1 := u6) (k1 := j6) (p2 := q7) (o2 := u7) (k2 := j7) (p3 := q5) (o3 := u5) (k3 := j5)
  rw [show mulO ⟨n.c, n.r, matL (fun i k => n.at k i) n.c n.r, q6, u6, j6⟩ ⟨m.c, m.r, matL (fun i k => m.at k i) m.c m.r, q7, u7, j7⟩ = mulO m n from t2, show mulL ⟨n.c, n.r, matL (fun i k => n.at k i) n.c n.r, q6, u6, j6⟩ ⟨m.c, m.r, matL (fun i k => m.at k i) m.c m.r, q7, u7, j7⟩ = trL ⟨m.r, n.c, mulL m n, q5, u5, j5⟩ from t1.symm] at g20
  have av1 : Mx.av ⟨n.c, n.r, matL (fun i k => n.at k i) n.c n.r, q6, u6, j6⟩ = [.int .i64 (n.c : Nat), .int .i64 (n.r : Nat), .sl q6 u6 (matL (fun i k => n.at k i) n.c n.r).length 1 j6] := rfl
  have av2 : Mx.av ⟨m.c, m.r, matL (fun i k => m.at k i) m.c m.r, q7, u7, j7⟩ = [.int .i64 (m.c : Nat), .int .i64 (m.r : Nat), .sl q7 u7 (matL (fun i k => m.at k i) m.c m.r).length 1 j7] := rfl
  rw [av1, av2] at g20
  simp (maxSteps := 1000000) (disch := omega) only [go_sem, Nat.reduceEqDiff, Nat.reduceLT, Nat.reduceAdd, Nat.reduceSub, Nat.reduceMul, Nat.reduceBEq, Int.reduceLT, Int.reduceAdd, Int.reduceMul, Int.reduceSub, Int.reduceToNat, Int.reduceLE, Int.reduceEq, ↓reduceIte, reduceCtorEq, Int.reduceNeg, Nat.reduceLeDiff]
  first | refine callBE (g20) ?_ | refine callDE (g20) ?_ | refine callXE (g20) ?_
  rintro v H8 ⟨G8, rfl⟩ ⟨w, rfl, q8, u8, j8, rfl, s8⟩
  simp only [go_sem, Nat.reduceEqDiff, Nat.reduceLT, Nat.reduceAdd, Nat.reduceSub, Nat.reduceMul, Nat.reduceBEq, Int.reduceLT, Int.reduceAdd, Int.reduceMul, Int.reduceSub, Int.reduceToNat, Int.reduceLE, Int.reduceEq, ↓reduceIte, reduceCtorEq, Int.reduceNeg, Nat.reduceLeDiff] at s8
  have s8' := fun x => Sl.fill s8 (b := H5.length + 1) (by simp) x
  simp only [go_sem, Nat.reduceEqDiff, Nat.reduceLT, Nat.reduceAdd, Nat.reduceSub, Nat.reduceMul, Nat.reduceBEq, Int.reduceLT, Int.reduceAdd, Int.reduceMul, Int.reduceSub, Int.reduceToNat, Int.reduceLE, Int.reduceEq, ↓reduceIte, reduceCtorEq, Int.reduceNeg, Nat.reduceLeDiff] at s8'
  have g17P := fun G => f17 (hP.app G)
  rw [show matL (fun i k => Mx.at ⟨m.r, n.c, mulL m n, q5, u5, j5⟩ k i) n.c m.r = trL ⟨m.r, n.c, mulL m n, q5, u5, j5⟩ from rfl] at g17P
  have av3 : Mx.av ⟨m.r, n.c, mulL m n, q5, u5, j5⟩ = [.int .i64 (m.r : Nat), .int .i64 (n.c : Nat), .sl q5 u5 (mulL m n).length 1 j5] := rfl
  rw [av3] at g17P
  have er := ok_right hP
  have lt : (trL ⟨m.r, n.c, mulL m n, q5, u5, j5⟩).length ≤ 64 := by rw [show (trL ⟨m.r, n.c, mulL m n, q5, u5, j5⟩).length = n.c * m.r from matL_len _ _ _]; exact ix_le hn.hc.2 hm.hr.2
  have lP : (mulL m n).length ≤ 64 := by rw [show (mulL m n).length = m.r * n.c from matL_len _ _ _]; exact ix_le hm.hr.2 hn.hc.2
  clear t1 t2 g20 g17 g17m av1 av2 av3 s6 s7 hTn hTm hTn7
  generalize trL ⟨m.r, n.c, mulL m n, q5, u5, j5⟩ = tp at *
  generalize mulO m n = mo at *
  cases mo
  all_goals
    simp (maxSteps := 1000000) (disch := omega) only [go_sem, Nat.reduceEqDiff, Nat.reduceLT, Nat.reduceAdd, Nat.reduceSub, Nat.reduceMul, Nat.reduceBEq, Int.reduceLT, Int.reduceAdd, Int.reduceMul, Int.reduceSub, Int.reduceToNat, Int.reduceLE, Int.reduceEq, ↓reduceIte, reduceCtorEq, Int.reduceNeg, Nat.reduceLeDiff]
    first | refine callBE (g17P _) ?_ | refine callDE (g17P _) ?_ | refine callXE (g17P _) ?_
    rintro v H9 hx9 ⟨w, rfl, q9, u9, j9, rfl, s9⟩
    have b11 : blkAt H9 H5.length = some ⟨[.int .i64 (m.r : Nat), .int .i64 (n.c : Nat), .sl q5 u5 (mulL m n).length 1 j5], true⟩ := hx9.blk (by simp only [go_sem, Nat.reduceEqDiff, Nat.reduceLT, Nat.reduceAdd, Nat.reduceSub, Nat.reduceMul, Nat.reduceBEq, Int.reduceLT, Int.reduceAdd, Int.reduceMul, Int.reduceSub, Int.reduceToNat, Int.reduceLE, Int.reduceEq, ↓reduceIte, reduceCtorEq, Int.reduceNeg, Nat.reduceLeDiff])
    have b14 : blkAt H9 (H5.length + 1) = some ⟨[.int .i64 (n.c : Nat), .int .i64 (m.r : Nat), .sl q8 u8 tp.length 1 j8], true⟩ := hx9.blk (by simp only [go_sem, Nat.reduceEqDiff, Nat.reduceLT, Nat.reduceAdd, Nat.reduceSub, Nat.reduceMul, Nat.reduceBEq, Int.reduceLT, Int.reduceAdd, Int.reduceMul, Int.reduceSub, Int.reduceToNat, Int.reduceLE, Int.reduceEq, ↓reduceIte, reduceCtorEq, Int.reduceNeg, Nat.reduceLeDiff])
    have l11 := blkAt_lt b11
    have l14 := blkAt_lt b14
    have gx := f13 (R1 := (n.c : Int)) (C1 := (m.r : Int)) (R2 := (n.c : Int)) (C2 := (m.r : Int)) (k1 := j9) (k2 := j8) s9 (hx9.sl (s8' _)) (by omega)
    rw [same_self] at gx
    have hP9 := (hP.app _).ext hx9
    have gr := f24 (R := (m.r : Int)) (C := (n.c : Int)) (k := j5) hP9.hs (by show (mulL m n).length ≤ _; omega)
    rw [er] at gr
    simp (maxSteps := 1000000) (disch := omega) only [go_sem, Nat.reduceEqDiff, Nat.reduceLT, Nat.reduceAdd, Nat.reduceSub, Nat.reduceMul, Nat.reduceBEq, Int.reduceLT, Int.reduceAdd, Int.reduceMul, Int.reduceSub, Int.reduceToNat, Int.reduceLE, Int.reduceEq, ↓reduceIte, reduceCtorEq, Int.reduceNeg, Nat.reduceLeDiff,  b14, l14]
    first | refine callB_intro (gx) ?_ | refine callD_intro (gx) ?_ | refine callP_intro (fun _ => (gx)) ?_ | refine callX_pure (gx) ?_
    simp (maxSteps := 1000000) (disch := omega) only [go_sem, Nat.reduceEqDiff, Nat.reduceLT, Nat.reduceAdd, Nat.reduceSub, Nat.reduceMul, Nat.reduceBEq, Int.reduceLT, Int.reduceAdd, Int.reduceMul, Int.reduceSub, Int.reduceToNat, Int.reduceLE, Int.reduceEq, ↓reduceIte, reduceCtorEq, Int.reduceNeg, Nat.reduceLeDiff,  b11, l11]
    first | refine callB_intro (gr) ?_ | refine callD_intro (gr) ?_ | refine callP_intro (fun _ => (gr)) ?_ | refine callX_pure (gr) ?_
    simp (maxSteps := 1000000) (disch := omega) only [go_sem, Nat.reduceEqDiff, Nat.reduceLT, Nat.reduceAdd, Nat.reduceSub, Nat.reduceMul, Nat.reduceBEq, Int.reduceLT, Int.reduceAdd, Int.reduceMul, Int.reduceSub, Int.reduceToNat, Int.reduceLE, Int.reduceEq, ↓reduceIte, reduceCtorEq, Int.reduceNeg, Nat.reduceLeDiff]
    exact fin_ext (by simp) ((hyA.trans hy5).trans ((Ext.app _ _).trans hx9)) (by simp (maxSteps := 1000000) (disch := omega) only [resVal, resAll, resOne, rs7, Env.get, go_sem, Nat.reduceEqDiff, Nat.reduceLT, Nat.reduceAdd, Nat.reduceSub, Nat.reduceMul, Nat.reduceBEq, Int.reduceLT, Int.reduceAdd, Int.reduceMul, Int.reduceSub, Int.reduceToNat, Int.reduceLE, Int.reduceEq, ↓reduceIte, reduceCtorEq, Int.reduceNeg, Nat.reduceLeDiff]) (by simp only [AV.und, AV.unds, and_self])
end Go.Proofs.Ytmlklopopokjoaa.Ah
