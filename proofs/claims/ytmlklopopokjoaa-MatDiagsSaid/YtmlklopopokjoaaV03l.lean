/- V03l: a part of the proof: contracts of functions, or plain laws. Conditions: none. -/
import Derived.Test.YtmlklopopokjoaaV03k
namespace Go.Proofs.Ytmlklopopokjoaa.Ah
open Go Go.WideShapes
attribute [local irreducible] acs aopsK drawK leave condK bindR bindD bindX guardK guardD callB callD callX callP callPv
attribute [local go_sem] acs_nil acs_blk acs_skip acs_reg acs_dreg acs_freg acs_nam0 acs_nam nones acs_seq acs_cond acs_block acs_exit acs_ret acs_kl acs_loop leave_nil leave_code leave_lp leave_blk aopsK_nil aopsK_cons aopsK_guard bindR_val bindR_need bindR_br bindR_call bindR_bad drawK_nil drawK_cons drawK_ext drawK_pur drawK_guard callPv_fn drawK_purv bindD_val bindD_need bindD_br bindD_call bindD_bad bindX_val bindX_need bindX_br bindX_call guardD_bool guardD_tup grows grows0 List.append_cancel_left_eq List.cons.injEq exists_eq' exists_eq condK_bool guardK_bool guardK_tup sor r0 r1 r2 r3 rC rB rI rP rA rT rS rF rSl rO rbin rcut run1 Env.evals Env.eval Env.get Env.put Env.ins Env.del Env.dels argEnv AV.full AV.cells AV.cell eqCells decide_true decide_false decide_eq_true_eq decide_eq_false_iff_not Bool.not_eq_true' Bool.not_eq_false' true_and and_true false_implies true_implies forall_const Bool.not_true Bool.not_false Bool.false_eq_true Bool.true_eq_false List.getElem?_cons_zero List.getElem?_cons_succ List.length_cons List.length_nil List.length_append List.all_cons List.all_nil Bool.and_true Bool.and_self implies_true List.append_assoc List.cons_append List.nil_append List.append_nil i64_in imin_eq imax_eq cast3 cast0 cast1 cast2 Option.map_none ite_self and_false false_and Option.isSome_some or_true true_or Int.sub_zero Int.mul_one Nat.sub_zero Nat.zero_le Int.cast_ofNat_Int Int.natCast_nonneg Int.toNat_natCast ne_eq not_false_eq_true not_true_eq_false strC blkAt_app blkAt_app0 blkAt_zero blkAt_succ List.set_cons_zero List.set_cons_succ set_app set_app0 Option.map_some Option.bind_some rd setCells lay rdS szOk rapp ownAt lenAt Option.any_some Option.getD_some List.drop_zero List.drop_succ_cons List.take_succ_cons List.take_zero List.drop_nil List.take_nil Nat.lt_irrefl Nat.zero_add Nat.add_zero Nat.mul_one Nat.one_mul Nat.add_assoc Option.some.injEq eq_self
set_option maxHeartbeats 4000000
set_option linter.unusedSimpArgs false
set_option linter.unusedVariables false
/-! The law MatSums. -/
theorem f4 (R1 C1 R2 C2 : Int) (l1 l2 : List Int) (p1 o1 p2 o2 : Nat) (k1 k2 : Option Nat) (H : Heap) (h1 : Sl i64 H p1 o1 l1) (h2 : Sl i64 H p2 o2 l2) (n1 : l1.length ≤ 140737488351232) (n2 : l2.length ≤ 140737488351232) :
    ACall Try.prog 4 [.agg [.int .i64 R1, .int .i64 C1, .sl p1 o1 l1.length 1 k1], .agg [.int .i64 R2, .int .i64 C2, .sl p2 o2 l2.length 1 k2]] H (.bool true) H := by
  refine acall4 (by simp) (acs_start ?_)
  have ga := fun G => f10 (R := R1) (C := C1) (k := k1) (h1.app G) (by omega)
  have gb := fun G => f10 (R := R2) (C := C2) (k := k2) (h2.app G) (by omega)
  unfold c4
  simp (maxSteps := 1000000) (disch := omega) only [go_sem, Nat.reduceEqDiff, Nat.reduceLT, Nat.reduceAdd, Nat.reduceSub, Nat.reduceMul, Nat.reduceBEq, Int.reduceLT, Int.reduceAdd, Int.reduceMul, Int.reduceSub, Int.reduceToNat, Int.reduceLE, Int.reduceEq, ↓reduceIte, reduceCtorEq, Int.reduceNeg, Nat.reduceLeDiff]
  first | refine callB_intro (f9) ?_ | refine callD_intro (f9) ?_ | refine callP_intro (fun _ => (f9)) ?_ | refine callX_pure (f9) ?_
  simp (maxSteps := 1000000) (disch := omega) only [go_sem, Nat.reduceEqDiff, Nat.reduceLT, Nat.reduceAdd, Nat.reduceSub, Nat.reduceMul, Nat.reduceBEq, Int.reduceLT, Int.reduceAdd, Int.reduceMul, Int.reduceSub, Int.reduceToNat, Int.reduceLE, Int.reduceEq, ↓reduceIte, reduceCtorEq, Int.reduceNeg, Nat.reduceLeDiff]
  first | refine callB_intro (ga _) ?_ | refine callD_intro (ga _) ?_ | refine callP_intro (fun _ => (ga _)) ?_ | refine callX_pure (ga _) ?_
  cases r1 : rightB R1 C1 l1 with
  | false =>
    simp (maxSteps := 1000000) (disch := omega) only [go_sem, Nat.reduceEqDiff, Nat.reduceLT, Nat.reduceAdd, Nat.reduceSub, Nat.reduceMul, Nat.reduceBEq, Int.reduceLT, Int.reduceAdd, Int.reduceMul, Int.reduceSub, Int.reduceToNat, Int.reduceLE, Int.reduceEq, ↓reduceIte, reduceCtorEq, Int.reduceNeg, Nat.reduceLeDiff]
    exact fin_same (by simp) _ (by first | exact (List.append_nil _).symm | rfl) (by simp (maxSteps := 1000000) (disch := omega) only [resVal, resAll, resOne, rs4, Env.get, go_sem, Nat.reduceEqDiff, Nat.reduceLT, Nat.reduceAdd, Nat.reduceSub, Nat.reduceMul, Nat.reduceBEq, Int.reduceLT, Int.reduceAdd, Int.reduceMul, Int.reduceSub, Int.reduceToNat, Int.reduceLE, Int.reduceEq, ↓reduceIte, reduceCtorEq, Int.reduceNeg, Nat.reduceLeDiff]) (by simp only [AV.und, AV.unds, and_self])
  | true =>
  simp (maxSteps := 1000000) (disch := omega) only [go_sem, Nat.reduceEqDiff, Nat.reduceLT, Nat.reduceAdd, Nat.reduceSub, Nat.reduceMul, Nat.reduceBEq, Int.reduceLT, Int.reduceAdd, Int.reduceMul, Int.reduceSub, Int.reduceToNat, Int.reduceLE, Int.reduceEq, ↓reduceIte, reduceCtorEq, Int.reduceNeg, Nat.reduceLeDiff]
  first | refine callB_intro (gb _) ?_ | refine callD_intro (gb _) ?_ | refine callP_intro (fun _ => (gb _)) ?_ | refine callX_pure (gb _) ?_
  cases r2 : rightB R2 C2 l2 with
  | false =>
    simp (maxSteps := 1000000) (disch := omega) only [go_sem, Nat.reduceEqDiff, Nat.reduceLT, Nat.reduceAdd, Nat.reduceSub, Nat.reduceMul, Nat.reduceBEq, Int.reduceLT, Int.reduceAdd, Int.reduceMul, Int.reduceSub, Int.reduceToNat, Int.reduceLE, Int.reduceEq, ↓reduceIte, reduceCtorEq, Int.reduceNeg, Nat.reduceLeDiff]
    exact fin_same (by simp) _ (by first | exact (List.append_nil _).symm | rfl) (by simp (maxSteps := 1000000) (disch := omega) only [resVal, resAll, resOne, rs4, Env.get, go_sem, Nat.reduceEqDiff, Nat.reduceLT, Nat.reduceAdd, Nat.reduceSub, Nat.reduceMul, Nat.reduceBEq, Int.reduceLT, Int.reduceAdd, Int.reduceMul, Int.reduceSub, Int.reduceToNat, Int.reduceLE, Int.reduceEq, ↓reduceIte, reduceCtorEq, Int.reduceNeg, Nat.reduceLeDiff]) (by simp only [AV.und, AV.unds, and_self])
  | true =>
  by_cases e1 : R1 = R2
  rotate_left
  · simp (maxSteps := 1000000) (disch := omega) only [go_sem, Nat.reduceEqDiff, Nat.reduceLT, Nat.reduceAdd, Nat.reduceSub, Nat.reduceMul, Nat.reduceBEq, Int.reduceLT, Int.reduceAdd, Int.reduceMul, Int.reduceSub, Int.reduceToNat, Int.reduceLE, Int.reduceEq, ↓reduceIte, reduceCtorEq, Int.reduceNeg, Nat.reduceLeDiff,  e1]
    exact fin_same (by simp) _ (by first | exact (List.append_nil _).symm | rfl) (by simp (maxSteps := 1000000) (disch := omega) only [resVal, resAll, resOne, rs4, Env.get, go_sem, Nat.reduceEqDiff, Nat.reduceLT, Nat.reduceAdd, Nat.reduceSub, Nat.reduceMul, Nat.reduceBEq, Int.reduceLT, Int.reduceAdd, Int.reduceMul, Int.reduceSub, Int.reduceToNat, Int.reduceLE, Int.reduceEq, ↓reduceIte, reduceCtorEq, Int.reduceNeg, Nat.reduceLeDiff]) (by simp only [AV.und, AV.unds, and_self])
  by_cases e2 : C1 = C2
  rotate_left
  · simp (maxSteps := 1000000) (disch := omega) only [go_sem, Nat.reduceEqDiff, Nat.reduceLT, Nat.reduceAdd, Nat.reduceSub, Nat.reduceMul, Nat.reduceBEq, Int.reduceLT, Int.reduceAdd, Int.reduceMul, Int.reduceSub, Int.reduceToNat, Int.reduceLE, Int.reduceEq, ↓reduceIte, reduceCtorEq, Int.reduceNeg, Nat.reduceLeDiff,  e1, e2]
    exact fin_same (by simp) _ (by first | exact (List.append_nil _).symm | rfl) (by simp (maxSteps := 1000000) (disch := omega) only [resVal, resAll, resOne, rs4, Env.get, go_sem, Nat.reduceEqDiff, Nat.reduceLT, Nat.reduceAdd, Nat.reduceSub, Nat.reduceMul, Nat.reduceBEq, Int.reduceLT, Int.reduceAdd, Int.reduceMul, Int.reduceSub, Int.reduceToNat, Int.reduceLE, Int.reduceEq, ↓reduceIte, reduceCtorEq, Int.reduceNeg, Nat.reduceLeDiff]) (by simp only [AV.und, AV.unds, and_self])
  obtain ⟨m, rfl, rfl, rfl, rfl, rfl, rfl, hm⟩ := right_mx (k := k1) r1 h1
  obtain ⟨n, er, ec, rfl, rfl, rfl, rfl, hn⟩ := right_mx (k := k2) r2 h2
  have er' : m.r = n.r := by omega
  have ec' : m.c = n.c := by omega
  subst e1
  subst e2
  have am : ([.int .i64 (m.r : Nat), .int .i64 (m.c : Nat), .sl m.p m.off m.l.length 1 m.k] : List AV) = m.av := rfl
  have an : ([.int .i64 (m.r : Nat), .int .i64 (m.c : Nat), .sl n.p n.off n.l.length 1 n.k] : List AV) = n.av := by rw [er', ec']; rfl
  rw [am, an]
  have a1 := mav_len m
  have a2 := mav_all m
  have a3 := mav_take m
  have c1 := mav_len n
  have c2 := mav_all n
  have c3 := mav_take n
  have a4 : m.av[0]? = some (.int .i64 (m.r : Nat)) := rfl
  have a5 : m.av[1]? = some (.int .i64 (m.c : Nat)) := rfl
  have a6 : m.av[2]? = some (.sl m.p m.off m.l.length 1 m.k) := rfl
  have c4 : n.av[0]? = some (.int .i64 (m.r : Nat)) := by rw [er']; rfl
  have c5 : n.av[1]? = some (.int .i64 (m.c : Nat)) := by rw [ec']; rfl
  clear ga gb r1 r2 h1 h2 am an
  obtain ⟨s1, s2⟩ := sumL_comm er' ec'
  obtain ⟨z1, z2⟩ := subL_self m
  simp (maxSteps := 1000000) (disch := omega) only [go_sem, Nat.reduceEqDiff, Nat.reduceLT, Nat.reduceAdd, Nat.reduceSub, Nat.reduceMul, Nat.reduceBEq, Int.reduceLT, Int.reduceAdd, Int.reduceMul, Int.reduceSub, Int.reduceToNat, Int.reduceLE, Int.reduceEq, ↓reduceIte, reduceCtorEq, Int.reduceNeg, Nat.reduceLeDiff,  a1, a2, a3, a4, a5, c1, c2, c3, c4, c5]
  first | refine callBE (f14 (hm.app _) (hn.app _) er' ec') ?_ | refine callDE (f14 (hm.app _) (hn.app _) er' ec') ?_ | refine callXE (f14 (hm.app _) (hn.app _) er' ec') ?_
  rintro v H1 hx1 ⟨w, rfl, px, ox, kx, rfl, sx⟩
  have b0 : blkAt H1 H.length = some ⟨m.av, true⟩ := hx1.blk (by simp only [go_sem, Nat.reduceEqDiff, Nat.reduceLT, Nat.reduceAdd, Nat.reduceSub, Nat.reduceMul, Nat.reduceBEq, Int.reduceLT, Int.reduceAdd, Int.reduceMul, Int.reduceSub, Int.reduceToNat, Int.reduceLE, Int.reduceEq, ↓reduceIte, reduceCtorEq, Int.reduceNeg, Nat.reduceLeDiff])
  have b1 : blkAt H1 (H.length + 1) = some ⟨n.av, true⟩ := hx1.blk (by simp only [go_sem, Nat.reduceEqDiff, Nat.reduceLT, Nat.reduceAdd, Nat.reduceSub, Nat.reduceMul, Nat.reduceBEq, Int.reduceLT, Int.reduceAdd, Int.reduceMul, Int.reduceSub, Int.reduceToNat, Int.reduceLE, Int.reduceEq, ↓reduceIte, reduceCtorEq, Int.reduceNeg, Nat.reduceLeDiff])
  have hy1 : Ext H H1 := (Ext.app _ _).trans hx1
  replace hm := hm.ext hy1
  replace hn := hn.ext hy1
  have l0 := blkAt_lt b0
  have l1 := blkAt_lt b1
  simp (maxSteps := 1000000) (disch := omega) only [go_sem, Nat.reduceEqDiff, Nat.reduceLT, Nat.reduceAdd, Nat.reduceSub, Nat.reduceMul, Nat.reduceBEq, Int.reduceLT, Int.reduceAdd, Int.reduceMul, Int.reduceSub, Int.reduceToNat, Int.reduceLE, Int.reduceEq, ↓reduceIte, reduceCtorEq, Int.reduceNeg, Nat.reduceLeDiff,  a1, a2, a3, c1, c2, c3, b0, b1, l0, l1, blkAt_lo]
  first | refine callBE (f14 (hn.app _) (hm.app _) er'.symm ec'.symm) ?_ | refine callDE (f14 (hn.app _) (hm.app _) er'.symm ec'.symm) ?_ | refine callXE (f14 (hn.app _) (hm.app _) er'.symm ec'.symm) ?_
  rintro v H2 hx2 ⟨w, rfl, py, oy, ky, rfl, sy⟩
  have hy2 : Ext H1 H2 := (Ext.app _ _).trans hx2
  rw [s1] at sy ⊢
  rw [s2]
  have b2 : blkAt H2 H1.length = some ⟨[.int .i64 (m.r : Nat), .int .i64 (m.c : Nat), .sl px ox (sumL m n).length 1 kx], true⟩ := hx2.blk (by simp only [go_sem, Nat.reduceEqDiff, Nat.reduceLT, Nat.reduceAdd, Nat.reduceSub, Nat.reduceMul, Nat.reduceBEq, Int.reduceLT, Int.reduceAdd, Int.reduceMul, Int.reduceSub, Int.reduceToNat, Int.reduceLE, Int.reduceEq, ↓reduceIte, reduceCtorEq, Int.reduceNeg, Nat.reduceLeDiff])
  replace b0 := hy2.blk b0
  replace b1 := hy2.blk b1
  replace hm := hm.ext hy2
  replace hn := hn.ext hy2
  replace sx := hy2.sl sx
  have l0 := blkAt_lt b0
  have l1 := blkAt_lt b1
  simp (maxSteps := 1000000) (disch := omega) only [go_sem, Nat.reduceEqDiff, Nat.reduceLT, Nat.reduceAdd, Nat.reduceSub, Nat.reduceMul, Nat.reduceBEq, Int.reduceLT, Int.reduceAdd, Int.reduceMul, Int.reduceSub, Int.reduceToNat, Int.reduceLE, Int.reduceEq, ↓reduceIte, reduceCtorEq, Int.reduceNeg, Nat.reduceLeDiff,  a1, a2, a3, c1, c2, c3, b0, b1, l0, l1, blkAt_lo]
  first | refine callBE (f15 (hm.app _) (hm.app _) rfl rfl) ?_ | refine callDE (f15 (hm.app _) (hm.app _) rfl rfl) ?_ | refine callXE (f15 (hm.app _) (hm.app _) rfl rfl) ?_
  rintro v H3 hx3 ⟨w, rfl, pz, oz, kz, rfl, sz⟩
  have hy3 : Ext H2 H3 := (Ext.app _ _).trans hx3
  rw [z2]
  have b3 : blkAt H3 H2.length = some ⟨[.int .i64 (n.r : Nat), .int .i64 (n.c : Nat), .sl py oy (sumL m n).length 1 ky], true⟩ := hx3.blk (by simp only [go_sem, Nat.reduceEqDiff, Nat.reduceLT, Nat.reduceAdd, Nat.reduceSub, Nat.reduceMul, Nat.reduceBEq, Int.reduceLT, Int.reduceAdd, Int.reduceMul, Int.reduceSub, Int.reduceToNat, Int.reduceLE, Int.reduceEq, ↓reduceIte, reduceCtorEq, Int.reduceNeg, Nat.reduceLeDiff])
  rw [← er', ← ec'] at b3
  replace b0 := hy3.blk b0
  replace b1 := hy3.blk b1
  replace b2 := hy3.blk b2
  replace hm := hm.ext hy3
  replace sx := hy3.sl sx
  replace sy := hy3.sl sy
  have l0 := blkAt_lt b0
  obtain ⟨y1, y2⟩ := sum_zero hm (p := pz) (off := oz) (kk := kz)
  have hz := fun G => (sub_ok (n := m) (kk := kz) hm sz).app G
  have g14 := fun G => f14 (hm.app G) (hz G) rfl rfl
  rw [y1, y2] at g14
  have av : Mx.av ⟨m.r, m.c, subL m m, pz, oz, kz⟩ = [.int .i64 (m.r : Nat), .int .i64 (m.c : Nat), .sl pz oz (subL m m).length 1 kz] := rfl
  rw [av] at g14
  simp (maxSteps := 1000000) (disch := omega) only [go_sem, Nat.reduceEqDiff, Nat.reduceLT, Nat.reduceAdd, Nat.reduceSub, Nat.reduceMul, Nat.reduceBEq, Int.reduceLT, Int.reduceAdd, Int.reduceMul, Int.reduceSub, Int.reduceToNat, Int.reduceLE, Int.reduceEq, ↓reduceIte, reduceCtorEq, Int.reduceNeg, Nat.reduceLeDiff,  a1, a2, a3, c1, c2, c3, b0, b1, l0, l1, blkAt_lo]
  first | refine callBE (g14 _) ?_ | refine callDE (g14 _) ?_ | refine callXE (g14 _) ?_
  rintro v H4 hx4 ⟨w, rfl, pt, ot, kt, rfl, st⟩
  have hy4 : Ext H3 H4 := (Ext.app _ _).trans hx4
  have b4 : blkAt H4 H3.length = some ⟨[.int .i64 (m.r : Nat), .int .i64 (m.c : Nat), .sl pz oz (subL m m).length 1 kz], true⟩ := hx4.blk (by simp only [go_sem, Nat.reduceEqDiff, Nat.reduceLT, Nat.reduceAdd, Nat.reduceSub, Nat.reduceMul, Nat.reduceBEq, Int.reduceLT, Int.reduceAdd, Int.reduceMul, Int.reduceSub, Int.reduceToNat, Int.reduceLE, Int.reduceEq, ↓reduceIte, reduceCtorEq, Int.reduceNeg, Nat.reduceLeDiff])
  replace b0 := hy4.blk b0
  replace b2 := hy4.blk b2
  replace b3 := hy4.blk b3
  replace hm := hm.ext hy4
  replace sx := hy4.sl sx
  replace sy := hy4.sl sy
  replace sz := hy4.sl sz
  have l0 := blkAt_lt b0
  have l2 := blkAt_lt b2
  have l3 := blkAt_lt b3
  have l4 := blkAt_lt b4
  have hy : Ext H H4 := ((hy1.trans hy2).trans hy3).trans hy4
  have lz : (subL m m).length = m.l.length := by rw [hm.hl]; exact matL_len _ _ _
  have lb : m.l.length ≤ 64 := by rw [hm.hl]; exact ix_le hm.hr.2 hm.hc.2
  have ls : (sumL m n).length ≤ 64 := by rw [show (sumL m n).length = m.r * m.c from matL_len _ _ _]; exact ix_le hm.hr.2 hm.hc.2
  clear hx1 hx2 hx3 hx4 hy1 hy2 hy3 hy4 hz g14 y1 y2 av s1 s2 z2 b1 l1 c1 c2 c3 c4 c5
  simp (maxSteps := 1000000) (disch := omega) only [go_sem, Nat.reduceEqDiff, Nat.reduceLT, Nat.reduceAdd, Nat.reduceSub, Nat.reduceMul, Nat.reduceBEq, Int.reduceLT, Int.reduceAdd, Int.reduceMul, Int.reduceSub, Int.reduceToNat, Int.reduceLE, Int.reduceEq, ↓reduceIte, reduceCtorEq, Int.reduceNeg, Nat.reduceLeDiff,  a1, a2, a3, b0, l0]
  have gx := fun G => f13 (R1 := (m.r : Int)) (C1 := (m.c : Int)) (R2 := (m.r : Int)) (C2 := (m.c : Int)) (k1 := kx) (k2 := ky) (sx.app G) (sy.app G) (by omega)
  have gt := fun G => f13 (R1 := (m.r : Int)) (C1 := (m.c : Int)) (R2 := (m.r : Int)) (C2 := (m.c : Int)) (k1 := kt) (k2 := m.k) (st.app G) (hm.hs.app G) (by omega)
  rw [same_self] at gx gt
  generalize subL m m = zl at *
  generalize sumL m n = sl at *
  generalize sumO m n = so at *
  obtain ⟨cs, oo, hp, hle, hcs⟩ := sz
  have hpl := blkAt_lt hp
  have am : m.av = [.int .i64 (m.r : Nat), .int .i64 (m.c : Nat), .sl m.p m.off m.l.length 1 m.k] := rfl
  rw [am] at b0
  clear a1 a2 a3 a4 a5 a6 am sx sy st hm hn
  refine loop_list (fun r T H' => ∃ j : Nat, T = [(2, .ptr H.length 0), (5, .bool true), (6, .ptr H1.length 0), (7, .bool so), (9, .ptr H2.length 0), (10, .bool so), (12, .ptr H3.length 0), (13, .bool false), (15, .ptr H4.length 0), (16, .bool false), (18, .int .i64 (j : Nat))] ∧ H' = H4 ++ [some ⟨[.int .i64 (m.r : Nat), .int .i64 (m.c : Nat), .sl pt ot m.l.length 1 kt], true⟩] ∧ zl.drop j = r ∧ j + r.length = zl.length) ?_ ?_ zl _ _ ⟨0, rfl, rfl, rfl, by simp⟩
  · rintro x r T H' ⟨j, rfl, rfl, hd, hj⟩ nx
    obtain ⟨g1, g2, g3⟩ := drop_cons hd
    have hjl : (j : Int) < (zl.length : Int) := by omega
    have fx : cs[oz + j]? = some (.int .i64 x) := sl_get hcs g1
    rw [z1 x (List.mem_of_getElem? g1)] at fx
    rw [acs_lp]; conv in Fr.code c4l0 => unfold c4l0
    simp (maxSteps := 1000000) (disch := omega) only [go_sem, Nat.reduceEqDiff, Nat.reduceLT, Nat.reduceAdd, Nat.reduceSub, Nat.reduceMul, Nat.reduceBEq, Int.reduceLT, Int.reduceAdd, Int.reduceMul, Int.reduceSub, Int.reduceToNat, Int.reduceLE, Int.reduceEq, ↓reduceIte, reduceCtorEq, Int.reduceNeg, Nat.reduceLeDiff,  hjl, b4, l4, blkAt_lo, hpl, hp, fx]
    refine nx _ _ ⟨j + 1, ?_, rfl, g2, by simp at hj; omega⟩
    simp
  · rintro T H' ⟨j, rfl, rfl, hd, hj⟩
    obtain rfl : j = zl.length := by simpa using hj
    have lzz : (zl.length : Int) = (m.l.length : Int) := by omega
    rw [acs_lp]; conv in Fr.code c4l0 => unfold c4l0
    simp (maxSteps := 1000000) (disch := omega) only [go_sem, Nat.reduceEqDiff, Nat.reduceLT, Nat.reduceAdd, Nat.reduceSub, Nat.reduceMul, Nat.reduceBEq, Int.reduceLT, Int.reduceAdd, Int.reduceMul, Int.reduceSub, Int.reduceToNat, Int.reduceLE, Int.reduceEq, ↓reduceIte, reduceCtorEq, Int.reduceNeg, Nat.reduceLeDiff,  Int.lt_irrefl, b4, l4, b2, l2, b3, l3, blkAt_lo]
    first | refine callB_intro (gx _) ?_ | refine callD_intro (gx _) ?_ | refine callP_intro (fun _ => (gx _)) ?_ | refine callX_pure (gx _) ?_
    cases so
    all_goals
      simp (maxSteps := 1000000) (disch := omega) only [go_sem, Nat.reduceEqDiff, Nat.reduceLT, Nat.reduceAdd, Nat.reduceSub, Nat.reduceMul, Nat.reduceBEq, Int.reduceLT, Int.reduceAdd, Int.reduceMul, Int.reduceSub, Int.reduceToNat, Int.reduceLE, Int.reduceEq, ↓reduceIte, reduceCtorEq, Int.reduceNeg, Nat.reduceLeDiff,  b4, l4, b0, l0, blkAt_lo]
      first | refine callB_intro (gt _) ?_ | refine callD_intro (gt _) ?_ | refine callP_intro (fun _ => (gt _)) ?_ | refine callX_pure (gt _) ?_
      simp (maxSteps := 1000000) (disch := omega) only [go_sem, Nat.reduceEqDiff, Nat.reduceLT, Nat.reduceAdd, Nat.reduceSub, Nat.reduceMul, Nat.reduceBEq, Int.reduceLT, Int.reduceAdd, Int.reduceMul, Int.reduceSub, Int.reduceToNat, Int.reduceLE, Int.reduceEq, ↓reduceIte, reduceCtorEq, Int.reduceNeg, Nat.reduceLeDiff,  b4, l4, b0, l0, blkAt_lo, lzz]
      exact fin_ext (by simp) (hy.to _) (by simp (maxSteps := 1000000) (disch := omega) only [resVal, resAll, resOne, rs4, Env.get, go_sem, Nat.reduceEqDiff, Nat.reduceLT, Nat.reduceAdd, Nat.reduceSub, Nat.reduceMul, Nat.reduceBEq, Int.reduceLT, Int.reduceAdd, Int.reduceMul, Int.reduceSub, Int.reduceToNat, Int.reduceLE, Int.reduceEq, ↓reduceIte, reduceCtorEq, Int.reduceNeg, Nat.reduceLeDiff]) (by simp only [AV.und, AV.unds, and_self])
end Go.Proofs.Ytmlklopopokjoaa.Ah
