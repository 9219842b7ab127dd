/- V03n: a part of the proof: contracts of functions, or plain laws. Conditions: none. -/
import Derived.Test.YtmlklopopokjoaaV03m
namespace Go.Proofs.Ytmlklopopokjoaa.Ah
open Go Go.WideShapes
attribute [local irreducible] acs aopsK drawK leave condK bindR bindD bindX guardK guardD callB callD callX callP callPv
attribute [local go_sem] acs_nil acs_blk acs_skip acs_reg acs_dreg acs_freg acs_nam0 acs_nam nones acs_seq acs_cond acs_block acs_exit acs_ret acs_kl acs_loop leave_nil leave_code leave_lp leave_blk aopsK_nil aopsK_cons aopsK_guard bindR_val bindR_need bindR_br bindR_call bindR_bad drawK_nil drawK_cons drawK_ext drawK_pur drawK_guard callPv_fn drawK_purv bindD_val bindD_need bindD_br bindD_call bindD_bad bindX_val bindX_need bindX_br bindX_call guardD_bool guardD_tup grows grows0 List.append_cancel_left_eq List.cons.injEq exists_eq' exists_eq condK_bool guardK_bool guardK_tup sor r0 r1 r2 r3 rC rB rI rP rA rT rS rF rSl rO rbin rcut run1 Env.evals Env.eval Env.get Env.put Env.ins Env.del Env.dels argEnv AV.full AV.cells AV.cell eqCells decide_true decide_false decide_eq_true_eq decide_eq_false_iff_not Bool.not_eq_true' Bool.not_eq_false' true_and and_true false_implies true_implies forall_const Bool.not_true Bool.not_false Bool.false_eq_true Bool.true_eq_false List.getElem?_cons_zero List.getElem?_cons_succ List.length_cons List.length_nil List.length_append List.all_cons List.all_nil Bool.and_true Bool.and_self implies_true List.append_assoc List.cons_append List.nil_append List.append_nil i64_in imin_eq imax_eq cast3 cast0 cast1 cast2 Option.map_none ite_self and_false false_and Option.isSome_some or_true true_or Int.sub_zero Int.mul_one Nat.sub_zero Nat.zero_le Int.cast_ofNat_Int Int.natCast_nonneg Int.toNat_natCast ne_eq not_false_eq_true not_true_eq_false strC blkAt_app blkAt_app0 blkAt_zero blkAt_succ List.set_cons_zero List.set_cons_succ set_app set_app0 Option.map_some Option.bind_some rd setCells lay rdS szOk rapp ownAt lenAt Option.any_some Option.getD_some List.drop_zero List.drop_succ_cons List.take_succ_cons List.take_zero List.drop_nil List.take_nil Nat.lt_irrefl Nat.zero_add Nat.add_zero Nat.mul_one Nat.one_mul Nat.add_assoc Option.some.injEq eq_self
set_option maxHeartbeats 4000000
set_option linter.unusedSimpArgs false
set_option linter.unusedVariables false
/-! What is made even. -/
def evL (m : Mx) : List Int := matL (fun i k => hf (m.at i k + m.at k i)) m.r m.c
theorem tr_ok {m : Mx} {H H' : Heap} (h : m.ok H) {p off : Nat} {kk : Option Nat} (hs : Sl i64 H' p off (matL (fun i k => m.at k i) m.c m.r)) : Mx.ok ⟨m.c, m.r, matL (fun i k => m.at k i) m.c m.r, p, off, kk⟩ H' :=
  ⟨h.hc, h.hr, matL_len _ _ _, matL_in fun i k hi hk => Mx.at_in h hk hi, hs⟩
theorem ev_ok {m : Mx} {H H' : Heap} (h : m.ok H) (he : m.r = m.c) {p off : Nat} {kk : Option Nat} (hs : Sl i64 H' p off (evL m)) : Mx.ok ⟨m.r, m.c, evL m, p, off, kk⟩ H' :=
  ⟨h.hr, h.hc, matL_len _ _ _, matL_in fun i k hi hk => hf_in (Mx.at_in h hi hk) (Mx.at_in h (by omega) (by omega)), hs⟩
theorem f16 {m : Mx} {H : Heap} (h : m.ok H) (he : m.r = m.c) : ACallE Try.prog 16 [.agg m.av] H fun v H' => ∃ w, v = .tup [.agg [.int .i64 (m.r : Nat), .int .i64 (m.c : Nat), w], .bool false, .int .i64 0] ∧ Rw i64 H' w (evL m) := by
  refine acallE (fun v Hf h => acallK16 (by simp) h) (acs_start ?_)
  have a1 := mav_len m
  have a2 := mav_all m
  have a3 := mav_take m
  have g17 := fun (G : Heap) => f17 (h.app_set (G := G) (b := H.length + 1) (by omega) none)
  unfold c16
  simp (maxSteps := 1000000) (disch := omega) only [go_sem, Nat.reduceEqDiff, Nat.reduceLT, Nat.reduceAdd, Nat.reduceSub, Nat.reduceMul, Nat.reduceBEq, Int.reduceLT, Int.reduceAdd, Int.reduceMul, Int.reduceSub, Int.reduceToNat, Int.reduceLE, Int.reduceEq, ↓reduceIte, reduceCtorEq, Int.reduceNeg, Nat.reduceLeDiff,  a1, a2, a3]
  first | refine callBE (ACallE.frame (b := H.length + 1) (x := ⟨[.int .i64 0, .int .i64 0, .nils], true⟩) (by simp only [go_sem, Nat.reduceEqDiff, Nat.reduceLT, Nat.reduceAdd, Nat.reduceSub, Nat.reduceMul, Nat.reduceBEq, Int.reduceLT, Int.reduceAdd, Int.reduceMul, Int.reduceSub, Int.reduceToNat, Int.reduceLE, Int.reduceEq, ↓reduceIte, reduceCtorEq, Int.reduceNeg, Nat.reduceLeDiff]) rfl (g17 _)) ?_ | refine callDE (ACallE.frame (b := H.length + 1) (x := ⟨[.int .i64 0, .int .i64 0, .nils], true⟩) (by simp only [go_sem, Nat.reduceEqDiff, Nat.reduceLT, Nat.reduceAdd, Nat.reduceSub, Nat.reduceMul, Nat.reduceBEq, Int.reduceLT, Int.reduceAdd, Int.reduceMul, Int.reduceSub, Int.reduceToNat, Int.reduceLE, Int.reduceEq, ↓reduceIte, reduceCtorEq, Int.reduceNeg, Nat.reduceLeDiff]) rfl (g17 _)) ?_ | refine callXE (ACallE.frame (b := H.length + 1) (x := ⟨[.int .i64 0, .int .i64 0, .nils], true⟩) (by simp only [go_sem, Nat.reduceEqDiff, Nat.reduceLT, Nat.reduceAdd, Nat.reduceSub, Nat.reduceMul, Nat.reduceBEq, Int.reduceLT, Int.reduceAdd, Int.reduceMul, Int.reduceSub, Int.reduceToNat, Int.reduceLE, Int.reduceEq, ↓reduceIte, reduceCtorEq, Int.reduceNeg, Nat.reduceLeDiff]) rfl (g17 _)) ?_
  rintro v H1 hx ⟨b1, w, rfl, p, off, kk, rfl, hs⟩
  have hn := tr_ok (kk := kk) h hs
  have hy : Ext H H1 := (Ext.app _ _).trans hx
  have hm1 : m.ok (H1.set (H.length + 1) none) := by obtain ⟨G1, rfl⟩ := hy; exact h.app_set (by omega) _
  have e1 : matL (fun i k => hf (m.at i k + Mx.at ⟨m.c, m.r, matL (fun i k => m.at k i) m.c m.r, p, off, kk⟩ i k)) m.r m.c = evL m := matL_congr fun i k hi hk => by rw [matL_at' (by omega) (by omega)]
  have e2 : matO (fun i k => false) m.r m.c = false := matO_no fun _ _ _ _ => rfl
  have g35 := f35 (g := 38) (u := fun x y => hf (x + y)) (v := fun _ _ => false) hb38 (fun H x y hx hy => f38 hx hy) hm1 hn (by show m.r = m.c; exact he) (by show m.c = m.r; exact he.symm)
  rw [e1, e2] at g35
  have av : Mx.av ⟨m.c, m.r, matL (fun i k => m.at k i) m.c m.r, p, off, kk⟩ = [.int .i64 (m.c : Nat), .int .i64 (m.r : Nat), .sl p off (matL (fun i k => m.at k i) m.c m.r).length 1 kk] := rfl
  rw [av] at g35
  simp (maxSteps := 1000000) (disch := omega) only [go_sem, Nat.reduceEqDiff, Nat.reduceLT, Nat.reduceAdd, Nat.reduceSub, Nat.reduceMul, Nat.reduceBEq, Int.reduceLT, Int.reduceAdd, Int.reduceMul, Int.reduceSub, Int.reduceToNat, Int.reduceLE, Int.reduceEq, ↓reduceIte, reduceCtorEq, Int.reduceNeg, Nat.reduceLeDiff]
  first | refine callBE (ACallE.frame b1 rfl g35) ?_ | refine callDE (ACallE.frame b1 rfl g35) ?_ | refine callXE (ACallE.frame b1 rfl g35) ?_
  rintro z H2 hx2 ⟨b2, w2, rfl, p2, o2, k2, rfl, hs2⟩
  have bl2 := blkAt_lt b2
  have ok2 := fun y => hs2.unset (some ⟨y, true⟩)
  simp (maxSteps := 1000000) (disch := omega) only [go_sem, Nat.reduceEqDiff, Nat.reduceLT, Nat.reduceAdd, Nat.reduceSub, Nat.reduceMul, Nat.reduceBEq, Int.reduceLT, Int.reduceAdd, Int.reduceMul, Int.reduceSub, Int.reduceToNat, Int.reduceLE, Int.reduceEq, ↓reduceIte, reduceCtorEq, Int.reduceNeg, Nat.reduceLeDiff,  b2, bl2, blkAt_lo, set_lo, List.length_set]
  refine fin_e (by simp) (by simp (maxSteps := 1000000) (disch := omega) only [resVal, resAll, resOne, rs16, Env.get, go_sem, Nat.reduceEqDiff, Nat.reduceLT, Nat.reduceAdd, Nat.reduceSub, Nat.reduceMul, Nat.reduceBEq, Int.reduceLT, Int.reduceAdd, Int.reduceMul, Int.reduceSub, Int.reduceToNat, Int.reduceLE, Int.reduceEq, ↓reduceIte, reduceCtorEq, Int.reduceNeg, Nat.reduceLeDiff, b2, bl2, blkAt_los, blkAt_lo, set_lo, List.length_set, blkAt_set_self] <;> rfl) ((hy.trans hx2).set (by omega) _) ⟨_, rfl, Rw.mk _ (ok2 _)⟩
theorem f16_no {m : Mx} {H : Heap} (h : m.ok H) (he : m.r ≠ m.c) : ACallE Try.prog 16 [.agg m.av] H fun v H' => v = .tup [.agg [.int .i64 0, .int .i64 0, .nils], .bool false, .int .i64 9] := by
  refine acallE (fun v Hf h => acallK16 (by simp) h) (acs_start ?_)
  have a1 := mav_len m
  have a2 := mav_all m
  have a3 := mav_take m
  have g17 := fun (G : Heap) => f17 (h.app_set (G := G) (b := H.length + 1) (by omega) none)
  unfold c16
  simp (maxSteps := 1000000) (disch := omega) only [go_sem, Nat.reduceEqDiff, Nat.reduceLT, Nat.reduceAdd, Nat.reduceSub, Nat.reduceMul, Nat.reduceBEq, Int.reduceLT, Int.reduceAdd, Int.reduceMul, Int.reduceSub, Int.reduceToNat, Int.reduceLE, Int.reduceEq, ↓reduceIte, reduceCtorEq, Int.reduceNeg, Nat.reduceLeDiff,  a1, a2, a3]
  first | refine callBE (ACallE.frame (b := H.length + 1) (x := ⟨[.int .i64 0, .int .i64 0, .nils], true⟩) (by simp only [go_sem, Nat.reduceEqDiff, Nat.reduceLT, Nat.reduceAdd, Nat.reduceSub, Nat.reduceMul, Nat.reduceBEq, Int.reduceLT, Int.reduceAdd, Int.reduceMul, Int.reduceSub, Int.reduceToNat, Int.reduceLE, Int.reduceEq, ↓reduceIte, reduceCtorEq, Int.reduceNeg, Nat.reduceLeDiff]) rfl (g17 _)) ?_ | refine callDE (ACallE.frame (b := H.length + 1) (x := ⟨[.int .i64 0, .int .i64 0, .nils], true⟩) (by simp only [go_sem, Nat.reduceEqDiff, Nat.reduceLT, Nat.reduceAdd, Nat.reduceSub, Nat.reduceMul, Nat.reduceBEq, Int.reduceLT, Int.reduceAdd, Int.reduceMul, Int.reduceSub, Int.reduceToNat, Int.reduceLE, Int.reduceEq, ↓reduceIte, reduceCtorEq, Int.reduceNeg, Nat.reduceLeDiff]) rfl (g17 _)) ?_ | refine callXE (ACallE.frame (b := H.length + 1) (x := ⟨[.int .i64 0, .int .i64 0, .nils], true⟩) (by simp only [go_sem, Nat.reduceEqDiff, Nat.reduceLT, Nat.reduceAdd, Nat.reduceSub, Nat.reduceMul, Nat.reduceBEq, Int.reduceLT, Int.reduceAdd, Int.reduceMul, Int.reduceSub, Int.reduceToNat, Int.reduceLE, Int.reduceEq, ↓reduceIte, reduceCtorEq, Int.reduceNeg, Nat.reduceLeDiff]) rfl (g17 _)) ?_
  rintro v H1 hx ⟨b1, w, rfl, p, off, kk, rfl, hs⟩
  have hy : Ext H H1 := (Ext.app _ _).trans hx
  have g35 := f35_no (m := m) (n := ⟨m.c, m.r, matL (fun i k => m.at k i) m.c m.r, p, off, kk⟩) (g := 38) (H := H1) (fun h => he h.1)
  have av : Mx.av ⟨m.c, m.r, matL (fun i k => m.at k i) m.c m.r, p, off, kk⟩ = [.int .i64 (m.c : Nat), .int .i64 (m.r : Nat), .sl p off (matL (fun i k => m.at k i) m.c m.r).length 1 kk] := rfl
  rw [av] at g35
  have bl1 := blkAt_lt b1
  simp (maxSteps := 1000000) (disch := omega) only [go_sem, Nat.reduceEqDiff, Nat.reduceLT, Nat.reduceAdd, Nat.reduceSub, Nat.reduceMul, Nat.reduceBEq, Int.reduceLT, Int.reduceAdd, Int.reduceMul, Int.reduceSub, Int.reduceToNat, Int.reduceLE, Int.reduceEq, ↓reduceIte, reduceCtorEq, Int.reduceNeg, Nat.reduceLeDiff]
  first | refine callB_intro (g35) ?_ | refine callD_intro (g35) ?_ | refine callP_intro (fun _ => (g35)) ?_ | refine callX_pure (g35) ?_
  simp (maxSteps := 1000000) (disch := omega) only [go_sem, Nat.reduceEqDiff, Nat.reduceLT, Nat.reduceAdd, Nat.reduceSub, Nat.reduceMul, Nat.reduceBEq, Int.reduceLT, Int.reduceAdd, Int.reduceMul, Int.reduceSub, Int.reduceToNat, Int.reduceLE, Int.reduceEq, ↓reduceIte, reduceCtorEq, Int.reduceNeg, Nat.reduceLeDiff,  b1, bl1, blkAt_lo, set_lo, List.length_set]
  refine fin_e (by simp) (by simp (maxSteps := 1000000) (disch := omega) only [resVal, resAll, resOne, rs16, Env.get, go_sem, Nat.reduceEqDiff, Nat.reduceLT, Nat.reduceAdd, Nat.reduceSub, Nat.reduceMul, Nat.reduceBEq, Int.reduceLT, Int.reduceAdd, Int.reduceMul, Int.reduceSub, Int.reduceToNat, Int.reduceLE, Int.reduceEq, ↓reduceIte, reduceCtorEq, Int.reduceNeg, Nat.reduceLeDiff, b1, bl1, blkAt_los, blkAt_lo, set_lo, List.length_set, blkAt_set_self] <;> rfl) (hy.set (by omega) _) rfl
end Go.Proofs.Ytmlklopopokjoaa.Ah
