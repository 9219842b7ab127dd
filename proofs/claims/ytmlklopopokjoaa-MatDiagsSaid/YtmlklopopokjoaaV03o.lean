/- V03o: a part of the proof: contracts of functions, or plain laws. Conditions: none. -/
import Derived.Test.YtmlklopopokjoaaV03n
namespace Go.Proofs.Ytmlklopopokjoaa.Ah
open Go Go.WideShapes
attribute [local irreducible] acs aopsK drawK leave condK bindR bindD bindX guardK guardD callB callD callX callP callPv
attribute [local go_sem] acs_nil acs_blk acs_skip acs_reg acs_dreg acs_freg acs_nam0 acs_nam nones acs_seq acs_cond acs_block acs_exit acs_ret acs_kl acs_loop leave_nil leave_code leave_lp leave_blk aopsK_nil aopsK_cons aopsK_guard bindR_val bindR_need bindR_br bindR_call bindR_bad drawK_nil drawK_cons drawK_ext drawK_pur drawK_guard callPv_fn drawK_purv bindD_val bindD_need bindD_br bindD_call bindD_bad bindX_val bindX_need bindX_br bindX_call guardD_bool guardD_tup grows grows0 List.append_cancel_left_eq List.cons.injEq exists_eq' exists_eq condK_bool guardK_bool guardK_tup sor r0 r1 r2 r3 rC rB rI rP rA rT rS rF rSl rO rbin rcut run1 Env.evals Env.eval Env.get Env.put Env.ins Env.del Env.dels argEnv AV.full AV.cells AV.cell eqCells decide_true decide_false decide_eq_true_eq decide_eq_false_iff_not Bool.not_eq_true' Bool.not_eq_false' true_and and_true false_implies true_implies forall_const Bool.not_true Bool.not_false Bool.false_eq_true Bool.true_eq_false List.getElem?_cons_zero List.getElem?_cons_succ List.length_cons List.length_nil List.length_append List.all_cons List.all_nil Bool.and_true Bool.and_self implies_true List.append_assoc List.cons_append List.nil_append List.append_nil i64_in imin_eq imax_eq cast3 cast0 cast1 cast2 Option.map_none ite_self and_false false_and Option.isSome_some or_true true_or Int.sub_zero Int.mul_one Nat.sub_zero Nat.zero_le Int.cast_ofNat_Int Int.natCast_nonneg Int.toNat_natCast ne_eq not_false_eq_true not_true_eq_false strC blkAt_app blkAt_app0 blkAt_zero blkAt_succ List.set_cons_zero List.set_cons_succ set_app set_app0 Option.map_some Option.bind_some rd setCells lay rdS szOk rapp ownAt lenAt Option.any_some Option.getD_some List.drop_zero List.drop_succ_cons List.take_succ_cons List.take_zero List.drop_nil List.take_nil Nat.lt_irrefl Nat.zero_add Nat.add_zero Nat.mul_one Nat.one_mul Nat.add_assoc Option.some.injEq eq_self
set_option maxHeartbeats 4000000
set_option linter.unusedSimpArgs false
set_option linter.unusedVariables false
/-! The law MatEvens. -/
theorem ok_right {m : Mx} {H : Heap} (h : m.ok H) : rightB m.r m.c m.l = true := by
  unfold rightB
  obtain ⟨h1, h2⟩ := h.hr
  obtain ⟨h3, h4⟩ := h.hc
  rw [decide_eq_true ⟨by omega, by omega, by omega, by omega, by rw [h.hl, Int.natCast_mul]⟩, Bool.true_and, List.all_eq_true]
  exact fun x hx => inb_iff.2 (h.hb x hx)
theorem ev_sym {m : Mx} (he : m.r = m.c) {p off : Nat} {kk : Option Nat} : matL (fun i k => Mx.at ⟨m.r, m.c, evL m, p, off, kk⟩ k i) m.c m.r = evL m := by
  have : evL m = matL (fun i k => hf (m.at i k + m.at k i)) m.r m.c := rfl
  rw [this, ← he]
  refine matL_congr fun i k hi hk => ?_
  rw [show (⟨m.r, m.r, matL (fun i k => hf (m.at i k + m.at k i)) m.r m.r, p, off, kk⟩ : Mx).at k i = hf (m.at k i + m.at i k) from matL_at' hk hi, Int.add_comm]
theorem ev_ev {m : Mx} (he : m.r = m.c) {p off : Nat} {kk : Option Nat} : evL ⟨m.r, m.c, evL m, p, off, kk⟩ = evL m := by
  have : evL m = matL (fun i k => hf (m.at i k + m.at k i)) m.r m.c := rfl
  unfold evL
  refine matL_congr fun i k hi hk => ?_
  rw [show Mx.at ⟨m.r, m.c, matL (fun i k => hf (m.at i k + m.at k i)) m.r m.c, p, off, kk⟩ i k = hf (m.at i k + m.at k i) from matL_at' hi hk, show Mx.at ⟨m.r, m.c, matL (fun i k => hf (m.at i k + m.at k i)) m.r m.c, p, off, kk⟩ k i = hf (m.at k i + m.at i k) from matL_at' (by have : k < m.c := hk; omega) (by have : i < m.r := hi; omega), Int.add_comm (m.at k i), hf_two]
theorem f5 (R C : Int) (l : List Int) (p o : Nat) (k : Option Nat) (H : Heap) (h1 : Sl i64 H p o l) (n1 : l.length ≤ 140737488351232) : ACall Try.prog 5 [.agg [.int .i64 R, .int .i64 C, .sl p o l.length 1 k]] H (.bool true) H := by
  refine acall5 (by simp) (acs_start ?_)
  have ga := fun G => f10 (R := R) (C := C) (k := k) (h1.app G) (by omega)
  unfold c5
  simp (maxSteps := 1000000) (disch := omega) only [go_sem, Nat.reduceEqDiff, Nat.reduceLT, Nat.reduceAdd, Nat.reduceSub, Nat.reduceMul, Nat.reduceBEq, Int.reduceLT, Int.reduceAdd, Int.reduceMul, Int.reduceSub, Int.reduceToNat, Int.reduceLE, Int.reduceEq, ↓reduceIte, reduceCtorEq, Int.reduceNeg, Nat.reduceLeDiff]
  first | refine callB_intro (f9) ?_ | refine callD_intro (f9) ?_ | refine callP_intro (fun _ => (f9)) ?_ | refine callX_pure (f9) ?_
  simp (maxSteps := 1000000) (disch := omega) only [go_sem, Nat.reduceEqDiff, Nat.reduceLT, Nat.reduceAdd, Nat.reduceSub, Nat.reduceMul, Nat.reduceBEq, Int.reduceLT, Int.reduceAdd, Int.reduceMul, Int.reduceSub, Int.reduceToNat, Int.reduceLE, Int.reduceEq, ↓reduceIte, reduceCtorEq, Int.reduceNeg, Nat.reduceLeDiff]
  first | refine callB_intro (ga _) ?_ | refine callD_intro (ga _) ?_ | refine callP_intro (fun _ => (ga _)) ?_ | refine callX_pure (ga _) ?_
  cases r1 : rightB R C l with
  | false =>
    simp (maxSteps := 1000000) (disch := omega) only [go_sem, Nat.reduceEqDiff, Nat.reduceLT, Nat.reduceAdd, Nat.reduceSub, Nat.reduceMul, Nat.reduceBEq, Int.reduceLT, Int.reduceAdd, Int.reduceMul, Int.reduceSub, Int.reduceToNat, Int.reduceLE, Int.reduceEq, ↓reduceIte, reduceCtorEq, Int.reduceNeg, Nat.reduceLeDiff]
    exact fin_same (by simp) _ (by first | exact (List.append_nil _).symm | rfl) (by simp (maxSteps := 1000000) (disch := omega) only [resVal, resAll, resOne, rs5, Env.get, go_sem, Nat.reduceEqDiff, Nat.reduceLT, Nat.reduceAdd, Nat.reduceSub, Nat.reduceMul, Nat.reduceBEq, Int.reduceLT, Int.reduceAdd, Int.reduceMul, Int.reduceSub, Int.reduceToNat, Int.reduceLE, Int.reduceEq, ↓reduceIte, reduceCtorEq, Int.reduceNeg, Nat.reduceLeDiff]) (by simp only [AV.und, AV.unds, and_self])
  | true =>
  obtain ⟨m, rfl, rfl, rfl, rfl, rfl, rfl, hm⟩ := right_mx (k := k) r1 h1
  have am : ([.int .i64 (m.r : Nat), .int .i64 (m.c : Nat), .sl m.p m.off m.l.length 1 m.k] : List AV) = m.av := rfl
  rw [am]
  have a1 := mav_len m
  have a2 := mav_all m
  have a3 := mav_take m
  have a4 : m.av[0]? = some (.int .i64 (m.r : Nat)) := rfl
  have a5 : m.av[1]? = some (.int .i64 (m.c : Nat)) := rfl
  clear ga r1 h1 am
  simp (maxSteps := 1000000) (disch := omega) only [go_sem, Nat.reduceEqDiff, Nat.reduceLT, Nat.reduceAdd, Nat.reduceSub, Nat.reduceMul, Nat.reduceBEq, Int.reduceLT, Int.reduceAdd, Int.reduceMul, Int.reduceSub, Int.reduceToNat, Int.reduceLE, Int.reduceEq, ↓reduceIte, reduceCtorEq, Int.reduceNeg, Nat.reduceLeDiff,  a1, a2, a3]
  by_cases he : m.r = m.c
  rotate_left
  · first | refine callBE (f16_no (hm.app _) he) ?_ | refine callDE (f16_no (hm.app _) he) ?_ | refine callXE (f16_no (hm.app _) he) ?_
    rintro v H1 hx rfl
    have b0 : blkAt H1 H.length = some ⟨m.av, true⟩ := hx.blk (by simp only [go_sem, Nat.reduceEqDiff, Nat.reduceLT, Nat.reduceAdd, Nat.reduceSub, Nat.reduceMul, Nat.reduceBEq, Int.reduceLT, Int.reduceAdd, Int.reduceMul, Int.reduceSub, Int.reduceToNat, Int.reduceLE, Int.reduceEq, ↓reduceIte, reduceCtorEq, Int.reduceNeg, Nat.reduceLeDiff])
    have l0 := blkAt_lt b0
    have hne : ¬ (m.r : Int) = (m.c : Int) := by omega
    simp (maxSteps := 1000000) (disch := omega) only [go_sem, Nat.reduceEqDiff, Nat.reduceLT, Nat.reduceAdd, Nat.reduceSub, Nat.reduceMul, Nat.reduceBEq, Int.reduceLT, Int.reduceAdd, Int.reduceMul, Int.reduceSub, Int.reduceToNat, Int.reduceLE, Int.reduceEq, ↓reduceIte, reduceCtorEq, Int.reduceNeg, Nat.reduceLeDiff,  b0, l0, blkAt_lo, a4, a5, hne]
    exact fin_ext (by simp) (((Ext.app _ _).trans hx).to _) (by simp (maxSteps := 1000000) (disch := omega) only [resVal, resAll, resOne, rs5, Env.get, go_sem, Nat.reduceEqDiff, Nat.reduceLT, Nat.reduceAdd, Nat.reduceSub, Nat.reduceMul, Nat.reduceBEq, Int.reduceLT, Int.reduceAdd, Int.reduceMul, Int.reduceSub, Int.reduceToNat, Int.reduceLE, Int.reduceEq, ↓reduceIte, reduceCtorEq, Int.reduceNeg, Nat.reduceLeDiff]) (by simp only [AV.und, AV.unds, and_self])
  first | refine callBE (f16 (hm.app _) he) ?_ | refine callDE (f16 (hm.app _) he) ?_ | refine callXE (f16 (hm.app _) he) ?_
  rintro v H1 hx ⟨w, rfl, p1, o1, k1, rfl, s1⟩
  have b0 : blkAt H1 H.length = some ⟨m.av, true⟩ := hx.blk (by simp only [go_sem, Nat.reduceEqDiff, Nat.reduceLT, Nat.reduceAdd, Nat.reduceSub, Nat.reduceMul, Nat.reduceBEq, Int.reduceLT, Int.reduceAdd, Int.reduceMul, Int.reduceSub, Int.reduceToNat, Int.reduceLE, Int.reduceEq, ↓reduceIte, reduceCtorEq, Int.reduceNeg, Nat.reduceLeDiff])
  have l0 := blkAt_lt b0
  have hy1 : Ext H H1 := (Ext.app _ _).trans hx
  have heq : decide ((m.r : Int) = (m.c : Int)) = true := decide_eq_true (by omega)
  have hM := ev_ok (kk := k1) hm he s1
  have gM := fun G => f16 (hM.app G) he
  rw [ev_ev he] at gM
  have av : Mx.av ⟨m.r, m.c, evL m, p1, o1, k1⟩ = [.int .i64 (m.r : Nat), .int .i64 (m.c : Nat), .sl p1 o1 (evL m).length 1 k1] := rfl
  rw [av] at gM
  simp (maxSteps := 1000000) (disch := omega) only [go_sem, Nat.reduceEqDiff, Nat.reduceLT, Nat.reduceAdd, Nat.reduceSub, Nat.reduceMul, Nat.reduceBEq, Int.reduceLT, Int.reduceAdd, Int.reduceMul, Int.reduceSub, Int.reduceToNat, Int.reduceLE, Int.reduceEq, ↓reduceIte, reduceCtorEq, Int.reduceNeg, Nat.reduceLeDiff,  b0, l0, blkAt_lo, a4, a5, heq]
  first | refine callBE (gM _) ?_ | refine callDE (gM _) ?_ | refine callXE (gM _) ?_
  rintro v H2 hx2 ⟨w, rfl, p2, o2, k2, rfl, s2⟩
  have hy2 : Ext H1 H2 := (Ext.app _ _).trans hx2
  have b1 : blkAt H2 H1.length = some ⟨[.int .i64 (m.r : Nat), .int .i64 (m.c : Nat), .sl p1 o1 (evL m).length 1 k1], true⟩ := hx2.blk (by simp only [go_sem, Nat.reduceEqDiff, Nat.reduceLT, Nat.reduceAdd, Nat.reduceSub, Nat.reduceMul, Nat.reduceBEq, Int.reduceLT, Int.reduceAdd, Int.reduceMul, Int.reduceSub, Int.reduceToNat, Int.reduceLE, Int.reduceEq, ↓reduceIte, reduceCtorEq, Int.reduceNeg, Nat.reduceLeDiff])
  have l1 := blkAt_lt b1
  replace hM := hM.ext hy2
  have le : (evL m).length ≤ 64 := by rw [show (evL m).length = m.r * m.c from matL_len _ _ _]; exact ix_le hm.hr.2 hm.hc.2
  have g10 := fun G => f10 (R := (m.r : Int)) (C := (m.c : Int)) (k := k1) (hM.hs.app G) (by show (evL m).length ≤ _; omega)
  have er := ok_right hM
  have g17 := fun G => f17 (hM.app G)
  rw [av] at g17
  have es : matL (fun i k => Mx.at ⟨m.r, m.c, evL m, p1, o1, k1⟩ k i) m.c m.r = evL m := ev_sym he
  rw [es] at g17
  have sm : sameB (m.c : Int) (m.r : Int) (evL m) (m.r : Int) (m.c : Int) (evL m) = true := by rw [he]; exact same_self _ _ _
  simp (maxSteps := 1000000) (disch := omega) only [go_sem, Nat.reduceEqDiff, Nat.reduceLT, Nat.reduceAdd, Nat.reduceSub, Nat.reduceMul, Nat.reduceBEq, Int.reduceLT, Int.reduceAdd, Int.reduceMul, Int.reduceSub, Int.reduceToNat, Int.reduceLE, Int.reduceEq, ↓reduceIte, reduceCtorEq, Int.reduceNeg, Nat.reduceLeDiff,  b1, l1, blkAt_lo]
  first | refine callB_intro (g10 _) ?_ | refine callD_intro (g10 _) ?_ | refine callP_intro (fun _ => (g10 _)) ?_ | refine callX_pure (g10 _) ?_
  simp (maxSteps := 1000000) (disch := omega) only [go_sem, Nat.reduceEqDiff, Nat.reduceLT, Nat.reduceAdd, Nat.reduceSub, Nat.reduceMul, Nat.reduceBEq, Int.reduceLT, Int.reduceAdd, Int.reduceMul, Int.reduceSub, Int.reduceToNat, Int.reduceLE, Int.reduceEq, ↓reduceIte, reduceCtorEq, Int.reduceNeg, Nat.reduceLeDiff,  er, b1, l1, blkAt_lo]
  first | refine callBE (g17 _) ?_ | refine callDE (g17 _) ?_ | refine callXE (g17 _) ?_
  rintro v H3 hx3 ⟨w, rfl, p3, o3, k3, rfl, s3⟩
  have b2 : blkAt H3 H2.length = some ⟨[.int .i64 (m.r : Nat), .int .i64 (m.c : Nat), .sl p2 o2 (evL m).length 1 k2], true⟩ := hx3.blk (by simp only [go_sem, Nat.reduceEqDiff, Nat.reduceLT, Nat.reduceAdd, Nat.reduceSub, Nat.reduceMul, Nat.reduceBEq, Int.reduceLT, Int.reduceAdd, Int.reduceMul, Int.reduceSub, Int.reduceToNat, Int.reduceLE, Int.reduceEq, ↓reduceIte, reduceCtorEq, Int.reduceNeg, Nat.reduceLeDiff])
  have l2 := blkAt_lt b2
  have hy3 : Ext H2 H3 := (Ext.app _ _).trans hx3
  replace b1 := hy3.blk b1
  have l1 := blkAt_lt b1
  replace hM := hM.ext hy3
  replace s2 := hy3.sl s2
  have ga := f13 (R1 := (m.c : Int)) (C1 := (m.r : Int)) (R2 := (m.r : Int)) (C2 := (m.c : Int)) (k1 := k3) (k2 := k1) s3 hM.hs (by omega)
  have gb := f13 (R1 := (m.r : Int)) (C1 := (m.c : Int)) (R2 := (m.r : Int)) (C2 := (m.c : Int)) (k1 := k2) (k2 := k1) s2 hM.hs (by omega)
  rw [show Mx.l ⟨m.r, m.c, evL m, p1, o1, k1⟩ = evL m from rfl, sm] at ga
  rw [show Mx.l ⟨m.r, m.c, evL m, p1, o1, k1⟩ = evL m from rfl, same_self] at gb
  simp (maxSteps := 1000000) (disch := omega) only [go_sem, Nat.reduceEqDiff, Nat.reduceLT, Nat.reduceAdd, Nat.reduceSub, Nat.reduceMul, Nat.reduceBEq, Int.reduceLT, Int.reduceAdd, Int.reduceMul, Int.reduceSub, Int.reduceToNat, Int.reduceLE, Int.reduceEq, ↓reduceIte, reduceCtorEq, Int.reduceNeg, Nat.reduceLeDiff,  b1, l1, b2, l2]
  first | refine callB_intro (ga) ?_ | refine callD_intro (ga) ?_ | refine callP_intro (fun _ => (ga)) ?_ | refine callX_pure (ga) ?_
  simp (maxSteps := 1000000) (disch := omega) only [go_sem, Nat.reduceEqDiff, Nat.reduceLT, Nat.reduceAdd, Nat.reduceSub, Nat.reduceMul, Nat.reduceBEq, Int.reduceLT, Int.reduceAdd, Int.reduceMul, Int.reduceSub, Int.reduceToNat, Int.reduceLE, Int.reduceEq, ↓reduceIte, reduceCtorEq, Int.reduceNeg, Nat.reduceLeDiff,  b1, l1, b2, l2]
  first | refine callB_intro (gb) ?_ | refine callD_intro (gb) ?_ | refine callP_intro (fun _ => (gb)) ?_ | refine callX_pure (gb) ?_
  simp (maxSteps := 1000000) (disch := omega) only [go_sem, Nat.reduceEqDiff, Nat.reduceLT, Nat.reduceAdd, Nat.reduceSub, Nat.reduceMul, Nat.reduceBEq, Int.reduceLT, Int.reduceAdd, Int.reduceMul, Int.reduceSub, Int.reduceToNat, Int.reduceLE, Int.reduceEq, ↓reduceIte, reduceCtorEq, Int.reduceNeg, Nat.reduceLeDiff]
  exact fin_ext (by simp) ((hy1.trans hy2).trans hy3) (by simp (maxSteps := 1000000) (disch := omega) only [resVal, resAll, resOne, rs5, Env.get, go_sem, Nat.reduceEqDiff, Nat.reduceLT, Nat.reduceAdd, Nat.reduceSub, Nat.reduceMul, Nat.reduceBEq, Int.reduceLT, Int.reduceAdd, Int.reduceMul, Int.reduceSub, Int.reduceToNat, Int.reduceLE, Int.reduceEq, ↓reduceIte, reduceCtorEq, Int.reduceNeg, Nat.reduceLeDiff]) (by simp only [AV.und, AV.unds, and_self])
end Go.Proofs.Ytmlklopopokjoaa.Ah
