/- V03u: a part of the proof: contracts of functions, or plain laws. Conditions: none. -/
import Derived.Test.YtmlklopopokjoaaV03t
namespace Go.Proofs.Ytmlklopopokjoaa.Ah
open Go Go.WideShapes
attribute [local irreducible] acs aopsK drawK leave condK bindR bindD bindX guardK guardD callB callD callX callP callPv
attribute [local go_sem] acs_nil acs_blk acs_skip acs_reg acs_dreg acs_freg acs_nam0 acs_nam nones acs_seq acs_cond acs_block acs_exit acs_ret acs_kl acs_loop leave_nil leave_code leave_lp leave_blk aopsK_nil aopsK_cons aopsK_guard bindR_val bindR_need bindR_br bindR_call bindR_bad drawK_nil drawK_cons drawK_ext drawK_pur drawK_guard callPv_fn drawK_purv bindD_val bindD_need bindD_br bindD_call bindD_bad bindX_val bindX_need bindX_br bindX_call guardD_bool guardD_tup grows grows0 List.append_cancel_left_eq List.cons.injEq exists_eq' exists_eq condK_bool guardK_bool guardK_tup sor r0 r1 r2 r3 rC rB rI rP rA rT rS rF rSl rO rbin rcut run1 Env.evals Env.eval Env.get Env.put Env.ins Env.del Env.dels argEnv AV.full AV.cells AV.cell eqCells decide_true decide_false decide_eq_true_eq decide_eq_false_iff_not Bool.not_eq_true' Bool.not_eq_false' true_and and_true false_implies true_implies forall_const Bool.not_true Bool.not_false Bool.false_eq_true Bool.true_eq_false List.getElem?_cons_zero List.getElem?_cons_succ List.length_cons List.length_nil List.length_append List.all_cons List.all_nil Bool.and_true Bool.and_self implies_true List.append_assoc List.cons_append List.nil_append List.append_nil i64_in imin_eq imax_eq cast3 cast0 cast1 cast2 Option.map_none ite_self and_false false_and Option.isSome_some or_true true_or Int.sub_zero Int.mul_one Nat.sub_zero Nat.zero_le Int.cast_ofNat_Int Int.natCast_nonneg Int.toNat_natCast ne_eq not_false_eq_true not_true_eq_false strC blkAt_app blkAt_app0 blkAt_zero blkAt_succ List.set_cons_zero List.set_cons_succ set_app set_app0 Option.map_some Option.bind_some rd setCells lay rdS szOk rapp ownAt lenAt Option.any_some Option.getD_some List.drop_zero List.drop_succ_cons List.take_succ_cons List.take_zero List.drop_nil List.take_nil Nat.lt_irrefl Nat.zero_add Nat.add_zero Nat.mul_one Nat.one_mul Nat.add_assoc Option.some.injEq eq_self
set_option maxHeartbeats 4000000
set_option linter.unusedSimpArgs false
set_option linter.unusedVariables false
/-! The law MatDiags. -/
theorem w3_in {a b c : Int} (ha : -16384 ≤ a ∧ a ≤ 16384) (hb : -16384 ≤ b ∧ b ≤ 16384) (hc : -16384 ≤ c ∧ c ≤ 16384) : ∀ x ∈ w3 a b c, InB x := by
  intro x hx
  simp only [w3, List.mem_cons, List.not_mem_nil, or_false] at hx
  unfold InB
  rcases hx with rfl | rfl | rfl <;> omega
theorem f25w {a b c : Int} {p : Nat} {H : Heap} (hb : blkAt H p = some ⟨[.int .i64 (a * 16777216), .int .i64 (b * 16777216), .int .i64 (c * 16777216)], true⟩) (ia : -16384 ≤ a ∧ a ≤ 16384) (ib : -16384 ≤ b ∧ b ≤ 16384) (ic : -16384 ≤ c ∧ c ≤ 16384) :
    ACallE Try.prog 25 [.sl p 0 3 1 none] H fun v H' => ∃ w, v = .tup [.agg [.int .i64 3, .int .i64 3, w], .int .i64 0] ∧ Rw i64 H' w (dgL (w3 a b c)) :=
  f25 (l := w3 a b c) (kk := none) (Sl.whole (o := true) hb) (show 0 < 3 by decide) (show 3 ≤ 8 by decide) (w3_in ia ib ic)
theorem f25o {p : Nat} {H : Heap} (hb : blkAt H p = some ⟨[.int .i64 16777216, .int .i64 16777216, .int .i64 16777216], true⟩) :
    ACallE Try.prog 25 [.sl p 0 3 1 none] H fun v H' => ∃ w, v = .tup [.agg [.int .i64 3, .int .i64 3, w], .int .i64 0] ∧ Rw i64 H' w (eyL 3) := by
  have g := f25 (l := List.replicate 3 16777216) (kk := none) (H := H) (p := p) (off := 0) (Sl.whole (o := true) hb) (by decide) (by decide) (fun x hx => by rw [(List.mem_replicate.1 hx).2]; exact ⟨by decide, by decide⟩)
  rw [ey_eq] at g
  exact g
theorem dg_ok {a b c : Int} {p off : Nat} {k : Option Nat} {H : Heap} (ia : -16384 ≤ a ∧ a ≤ 16384) (ib : -16384 ≤ b ∧ b ≤ 16384) (ic : -16384 ≤ c ∧ c ≤ 16384) (hs : Sl i64 H p off (dgL (w3 a b c))) : Mx.ok ⟨3, 3, dgL (w3 a b c), p, off, k⟩ H := by
  refine ⟨⟨show 0 < 3 by decide, show 3 ≤ 8 by decide⟩, ⟨show 0 < 3 by decide, show 3 ≤ 8 by decide⟩, matL_len _ _ _, ?_, hs⟩
  intro x hx
  refine matL_in (q := dg (w3 a b c)) (r := 3) (c := 3) (fun i k hi hk => ?_) x hx
  unfold dg
  split
  · have ci : i = 0 ∨ i = 1 ∨ i = 2 := by omega
    rcases ci with rfl | rfl | rfl
    · exact w3_in ia ib ic _ (by simp [w3])
    · exact w3_in ia ib ic _ (by simp [w3])
    · exact w3_in ia ib ic _ (by simp [w3])
  · exact ⟨by decide, by decide⟩
theorem dg_len (a b c : Int) : (dgL (w3 a b c)).length = 9 := matL_len _ _ _
theorem ey_len : (eyL 3).length = 9 := matL_len _ _ _
theorem pr_in {a b : Int} (ha : -128 ≤ a ∧ a ≤ 127) (hb : -128 ≤ b ∧ b ≤ 127) : -16384 ≤ a * b ∧ a * b ≤ 16384 := by
  have h := Nat.mul_le_mul (show a.natAbs ≤ 128 by omega) (show b.natAbs ≤ 128 by omega)
  rw [← Int.natAbs_mul] at h
  generalize a * b = z at *
  omega
theorem f8a (a0 a1 a2 b0 b1 b2 : Int) (H : Heap) (h0 : -128 ≤ a0 ∧ a0 ≤ 127) (h1 : -128 ≤ a1 ∧ a1 ≤ 127) (h2 : -128 ≤ a2 ∧ a2 ≤ 127) (g0 : -128 ≤ b0 ∧ b0 ≤ 127) (g1 : -128 ≤ b1 ∧ b1 ≤ 127) (g2 : -128 ≤ b2 ∧ b2 ≤ 127)
    (i0 : -16384 ≤ a0 * b0 ∧ a0 * b0 ≤ 16384) (i1 : -16384 ≤ a1 * b1 ∧ a1 * b1 ≤ 16384) (i2 : -16384 ≤ a2 * b2 ∧ a2 * b2 ≤ 16384) :
    ACall Try.prog 8 [.agg [.int .i8 a0, .int .i8 a1, .int .i8 a2], .agg [.int .i8 b0, .int .i8 b1, .int .i8 b2]] H (.bool true) H := by
  refine acall8 (by simp) (acs_start ?_)
  unfold c8
  simp (maxSteps := 1000000) (disch := omega) only [go_sem, Nat.reduceEqDiff, Nat.reduceLT, Nat.reduceAdd, Nat.reduceSub, Nat.reduceMul, Nat.reduceBEq, Int.reduceLT, Int.reduceAdd, Int.reduceMul, Int.reduceSub, Int.reduceToNat, Int.reduceLE, Int.reduceEq, ↓reduceIte, reduceCtorEq, Int.reduceNeg, Nat.reduceLeDiff]
  first | refine callB_intro (f9) ?_ | refine callD_intro (f9) ?_ | refine callP_intro (fun _ => (f9)) ?_ | refine callX_pure (f9) ?_
  simp (maxSteps := 1000000) (disch := omega) only [go_sem, Nat.reduceEqDiff, Nat.reduceLT, Nat.reduceAdd, Nat.reduceSub, Nat.reduceMul, Nat.reduceBEq, Int.reduceLT, Int.reduceAdd, Int.reduceMul, Int.reduceSub, Int.reduceToNat, Int.reduceLE, Int.reduceEq, ↓reduceIte, reduceCtorEq, Int.reduceNeg, Nat.reduceLeDiff]
  rw [acs_lp]; conv in Fr.code c8l0 => unfold c8l0
  simp (maxSteps := 1000000) (disch := omega) only [go_sem, Nat.reduceEqDiff, Nat.reduceLT, Nat.reduceAdd, Nat.reduceSub, Nat.reduceMul, Nat.reduceBEq, Int.reduceLT, Int.reduceAdd, Int.reduceMul, Int.reduceSub, Int.reduceToNat, Int.reduceLE, Int.reduceEq, ↓reduceIte, reduceCtorEq, Int.reduceNeg, Nat.reduceLeDiff]
  rw [acs_lp]; conv in Fr.code c8l0 => unfold c8l0
  simp (maxSteps := 1000000) (disch := omega) only [go_sem, Nat.reduceEqDiff, Nat.reduceLT, Nat.reduceAdd, Nat.reduceSub, Nat.reduceMul, Nat.reduceBEq, Int.reduceLT, Int.reduceAdd, Int.reduceMul, Int.reduceSub, Int.reduceToNat, Int.reduceLE, Int.reduceEq, ↓reduceIte, reduceCtorEq, Int.reduceNeg, Nat.reduceLeDiff]
  rw [acs_lp]; conv in Fr.code c8l0 => unfold c8l0
  simp (maxSteps := 1000000) (disch := omega) only [go_sem, Nat.reduceEqDiff, Nat.reduceLT, Nat.reduceAdd, Nat.reduceSub, Nat.reduceMul, Nat.reduceBEq, Int.reduceLT, Int.reduceAdd, Int.reduceMul, Int.reduceSub, Int.reduceToNat, Int.reduceLE, Int.reduceEq, ↓reduceIte, reduceCtorEq, Int.reduceNeg, Nat.reduceLeDiff]
  rw [acs_lp]; conv in Fr.code c8l0 => unfold c8l0
  simp (maxSteps := 1000000) (disch := omega) only [go_sem, Nat.reduceEqDiff, Nat.reduceLT, Nat.reduceAdd, Nat.reduceSub, Nat.reduceMul, Nat.reduceBEq, Int.reduceLT, Int.reduceAdd, Int.reduceMul, Int.reduceSub, Int.reduceToNat, Int.reduceLE, Int.reduceEq, ↓reduceIte, reduceCtorEq, Int.reduceNeg, Nat.reduceLeDiff]
  refine callBE (f25w (a := a0) (b := a1) (c := a2) (p := H.length + 19) (by simp only [go_sem, Nat.reduceEqDiff, Nat.reduceLT, Nat.reduceAdd, Nat.reduceSub, Nat.reduceMul, Nat.reduceBEq, Int.reduceLT, Int.reduceAdd, Int.reduceMul, Int.reduceSub, Int.reduceToNat, Int.reduceLE, Int.reduceEq, ↓reduceIte, reduceCtorEq, Int.reduceNeg, Nat.reduceLeDiff]) (by omega) (by omega) (by omega)) ?_
  rintro v H1 hx1 ⟨w, rfl, p1, o1, k1, rfl, s1⟩
  have r7 : blkAt H1 (H.length + 21) = some ⟨[.int .i64 (b0 * 16777216), .int .i64 (b1 * 16777216), .int .i64 (b2 * 16777216)], true⟩ := hx1.blk (by simp only [go_sem, Nat.reduceEqDiff, Nat.reduceLT, Nat.reduceAdd, Nat.reduceSub, Nat.reduceMul, Nat.reduceBEq, Int.reduceLT, Int.reduceAdd, Int.reduceMul, Int.reduceSub, Int.reduceToNat, Int.reduceLE, Int.reduceEq, ↓reduceIte, reduceCtorEq, Int.reduceNeg, Nat.reduceLeDiff])
  have r8 : blkAt H1 (H.length + 23) = some ⟨[.int .i64 (a0 * b0 * 16777216), .int .i64 (a1 * b1 * 16777216), .int .i64 (a2 * b2 * 16777216)], true⟩ := hx1.blk (by simp only [go_sem, Nat.reduceEqDiff, Nat.reduceLT, Nat.reduceAdd, Nat.reduceSub, Nat.reduceMul, Nat.reduceBEq, Int.reduceLT, Int.reduceAdd, Int.reduceMul, Int.reduceSub, Int.reduceToNat, Int.reduceLE, Int.reduceEq, ↓reduceIte, reduceCtorEq, Int.reduceNeg, Nat.reduceLeDiff])
  have r9 : blkAt H1 (H.length + 25) = some ⟨[.int .i64 16777216, .int .i64 16777216, .int .i64 16777216], true⟩ := hx1.blk (by simp only [go_sem, Nat.reduceEqDiff, Nat.reduceLT, Nat.reduceAdd, Nat.reduceSub, Nat.reduceMul, Nat.reduceBEq, Int.reduceLT, Int.reduceAdd, Int.reduceMul, Int.reduceSub, Int.reduceToNat, Int.reduceLE, Int.reduceEq, ↓reduceIte, reduceCtorEq, Int.reduceNeg, Nat.reduceLeDiff])
  have hy1 : Ext H H1 := (Ext.app _ _).trans hx1
  clear hx1
  simp (maxSteps := 1000000) (disch := omega) only [go_sem, Nat.reduceEqDiff, Nat.reduceLT, Nat.reduceAdd, Nat.reduceSub, Nat.reduceMul, Nat.reduceBEq, Int.reduceLT, Int.reduceAdd, Int.reduceMul, Int.reduceSub, Int.reduceToNat, Int.reduceLE, Int.reduceEq, ↓reduceIte, reduceCtorEq, Int.reduceNeg, Nat.reduceLeDiff]
  refine callBE (f25w (a := b0) (b := b1) (c := b2) (p := H.length + 21) (by rw [blkAt_lo _ (blkAt_lt r7)]; exact r7) (by omega) (by omega) (by omega)) ?_
  rintro v H2 hx2 ⟨w, rfl, p2, o2, k2, rfl, s2⟩
  have m1 : blkAt H2 H1.length = some ⟨[.int .i64 3, .int .i64 3, .sl p1 o1 (dgL (w3 a0 a1 a2)).length 1 k1], true⟩ := hx2.blk (by simp only [go_sem, Nat.reduceEqDiff, Nat.reduceLT, Nat.reduceAdd, Nat.reduceSub, Nat.reduceMul, Nat.reduceBEq, Int.reduceLT, Int.reduceAdd, Int.reduceMul, Int.reduceSub, Int.reduceToNat, Int.reduceLE, Int.reduceEq, ↓reduceIte, reduceCtorEq, Int.reduceNeg, Nat.reduceLeDiff])
  have hy2 : Ext H1 H2 := (Ext.app _ _).trans hx2
  clear hx2
  replace r8 := hy2.blk r8
  replace r9 := hy2.blk r9
  replace s1 := hy2.sl s1
  simp (maxSteps := 1000000) (disch := omega) only [go_sem, Nat.reduceEqDiff, Nat.reduceLT, Nat.reduceAdd, Nat.reduceSub, Nat.reduceMul, Nat.reduceBEq, Int.reduceLT, Int.reduceAdd, Int.reduceMul, Int.reduceSub, Int.reduceToNat, Int.reduceLE, Int.reduceEq, ↓reduceIte, reduceCtorEq, Int.reduceNeg, Nat.reduceLeDiff]
  refine callBE (f25w (a := a0 * b0) (b := a1 * b1) (c := a2 * b2) (p := H.length + 23) (by rw [blkAt_lo _ (blkAt_lt r8)]; exact r8) i0 i1 i2) ?_
  rintro v H3 hx3 ⟨w, rfl, p3, o3, k3, rfl, s3⟩
  have m2 : blkAt H3 H2.length = some ⟨[.int .i64 3, .int .i64 3, .sl p2 o2 (dgL (w3 b0 b1 b2)).length 1 k2], true⟩ := hx3.blk (by simp only [go_sem, Nat.reduceEqDiff, Nat.reduceLT, Nat.reduceAdd, Nat.reduceSub, Nat.reduceMul, Nat.reduceBEq, Int.reduceLT, Int.reduceAdd, Int.reduceMul, Int.reduceSub, Int.reduceToNat, Int.reduceLE, Int.reduceEq, ↓reduceIte, reduceCtorEq, Int.reduceNeg, Nat.reduceLeDiff])
  have hy3 : Ext H2 H3 := (Ext.app _ _).trans hx3
  clear hx3
  replace r9 := hy3.blk r9
  replace s1 := hy3.sl s1
  replace s2 := hy3.sl s2
  replace m1 := hy3.blk m1
  have l1 := blkAt_lt m1
  have l2 := blkAt_lt m2
  have d1 := dg_ok (k := k1) (by omega) (by omega) (by omega) s1
  have d2 := dg_ok (k := k2) (by omega) (by omega) (by omega) s2
  have g20 := fun G => f20 (d1.app G) (d2.app G) rfl
  obtain ⟨y1, y2⟩ := mul_dg h0 h1 h2 g0 g1 g2 (p1 := p1) (o1 := o1) (k1 := k1) (p2 := p2) (o2 := o2) (k2 := k2) (by unfold InB; omega) (by unfold InB; omega) (by unfold InB; omega)
  rw [y1, y2] at g20
  have g20' : ∀ G, ACallE Try.prog 20 [.agg [.int .i64 3, .int .i64 3, .sl p1 o1 (dgL (w3 a0 a1 a2)).length 1 k1], .agg [.int .i64 3, .int .i64 3, .sl p2 o2 (dgL (w3 b0 b1 b2)).length 1 k2]] (H3 ++ G) fun z H' => ∃ w, z = .tup [.agg [.int .i64 3, .int .i64 3, w], .bool false, .int .i64 0] ∧ Rw i64 H' w (dgL (w3 (a0 * b0) (a1 * b1) (a2 * b2))) := g20
  clear g20 y1 y2 d1 d2
  simp (maxSteps := 1000000) (disch := omega) only [go_sem, Nat.reduceEqDiff, Nat.reduceLT, Nat.reduceAdd, Nat.reduceSub, Nat.reduceMul, Nat.reduceBEq, Int.reduceLT, Int.reduceAdd, Int.reduceMul, Int.reduceSub, Int.reduceToNat, Int.reduceLE, Int.reduceEq, ↓reduceIte, reduceCtorEq, Int.reduceNeg, Nat.reduceLeDiff,  m1, m2, l1, l2, blkAt_lo]
  first | refine callBE (g20' _) ?_ | refine callDE (g20' _) ?_ | refine callXE (g20' _) ?_
  rintro v H4 hx4 ⟨w, rfl, p4, o4, k4, rfl, s4⟩
  have m3 : blkAt H4 H3.length = some ⟨[.int .i64 3, .int .i64 3, .sl p3 o3 (dgL (w3 (a0 * b0) (a1 * b1) (a2 * b2))).length 1 k3], true⟩ := hx4.blk (by simp only [go_sem, Nat.reduceEqDiff, Nat.reduceLT, Nat.reduceAdd, Nat.reduceSub, Nat.reduceMul, Nat.reduceBEq, Int.reduceLT, Int.reduceAdd, Int.reduceMul, Int.reduceSub, Int.reduceToNat, Int.reduceLE, Int.reduceEq, ↓reduceIte, reduceCtorEq, Int.reduceNeg, Nat.reduceLeDiff])
  have hy4 : Ext H3 H4 := (Ext.app _ _).trans hx4
  clear hx4 g20'
  replace r9 := hy4.blk r9
  replace s3 := hy4.sl s3
  simp (maxSteps := 1000000) (disch := omega) only [go_sem, Nat.reduceEqDiff, Nat.reduceLT, Nat.reduceAdd, Nat.reduceSub, Nat.reduceMul, Nat.reduceBEq, Int.reduceLT, Int.reduceAdd, Int.reduceMul, Int.reduceSub, Int.reduceToNat, Int.reduceLE, Int.reduceEq, ↓reduceIte, reduceCtorEq, Int.reduceNeg, Nat.reduceLeDiff]
  first | refine callBE (f23 (n := 3) ⟨by omega, by omega⟩) ?_ | refine callDE (f23 (n := 3) ⟨by omega, by omega⟩) ?_ | refine callXE (f23 (n := 3) ⟨by omega, by omega⟩) ?_
  rintro v H5 hx5 ⟨w, rfl, p5, o5, k5, rfl, s5⟩
  have m4 : blkAt H5 H4.length = some ⟨[.int .i64 3, .int .i64 3, .sl p4 o4 (dgL (w3 (a0 * b0) (a1 * b1) (a2 * b2))).length 1 k4], true⟩ := hx5.blk (by simp only [go_sem, Nat.reduceEqDiff, Nat.reduceLT, Nat.reduceAdd, Nat.reduceSub, Nat.reduceMul, Nat.reduceBEq, Int.reduceLT, Int.reduceAdd, Int.reduceMul, Int.reduceSub, Int.reduceToNat, Int.reduceLE, Int.reduceEq, ↓reduceIte, reduceCtorEq, Int.reduceNeg, Nat.reduceLeDiff])
  have hy5 : Ext H4 H5 := (Ext.app _ _).trans hx5
  clear hx5
  replace r9 := hy5.blk r9
  replace s3 := hy5.sl s3
  replace s4 := hy5.sl s4
  replace m3 := hy5.blk m3
  simp (maxSteps := 1000000) (disch := omega) only [go_sem, Nat.reduceEqDiff, Nat.reduceLT, Nat.reduceAdd, Nat.reduceSub, Nat.reduceMul, Nat.reduceBEq, Int.reduceLT, Int.reduceAdd, Int.reduceMul, Int.reduceSub, Int.reduceToNat, Int.reduceLE, Int.reduceEq, ↓reduceIte, reduceCtorEq, Int.reduceNeg, Nat.reduceLeDiff]
  refine callBE (f25o (p := H.length + 25) (by rw [blkAt_lo _ (blkAt_lt r9)]; exact r9)) ?_
  rintro v H6 hx6 ⟨w, rfl, p6, o6, k6, rfl, s6⟩
  have m5 : blkAt H6 H5.length = some ⟨[.int .i64 3, .int .i64 3, .sl p5 o5 (eyL 3).length 1 k5], true⟩ := hx6.blk (by simp only [go_sem, Nat.reduceEqDiff, Nat.reduceLT, Nat.reduceAdd, Nat.reduceSub, Nat.reduceMul, Nat.reduceBEq, Int.reduceLT, Int.reduceAdd, Int.reduceMul, Int.reduceSub, Int.reduceToNat, Int.reduceLE, Int.reduceEq, ↓reduceIte, reduceCtorEq, Int.reduceNeg, Nat.reduceLeDiff])
  have hy6 : Ext H5 H6 := (Ext.app _ _).trans hx6
  clear hx6
  replace s3 := hy6.sl s3
  replace s4 := hy6.sl s4
  replace s5 := hy6.sl s5
  replace m3 := hy6.blk m3
  replace m4 := hy6.blk m4
  have l3 := blkAt_lt m3
  have l4 := blkAt_lt m4
  have l5 := blkAt_lt m5
  have hyA : Ext H H6 := ((((hy1.trans hy2).trans hy3).trans hy4).trans hy5).trans hy6
  have ga := fun G => f13 (R1 := 3) (C1 := 3) (R2 := 3) (C2 := 3) (k1 := k4) (k2 := k3) (s4.app G) (s3.app G) (by rw [dg_len]; omega)
  have gb := fun G => f13 (R1 := 3) (C1 := 3) (R2 := 3) (C2 := 3) (k1 := k5) (k2 := k6) (s5.app G) (s6.app G) (by rw [ey_len]; omega)
  rw [same_self] at ga gb
  simp (maxSteps := 1000000) (disch := omega) only [go_sem, Nat.reduceEqDiff, Nat.reduceLT, Nat.reduceAdd, Nat.reduceSub, Nat.reduceMul, Nat.reduceBEq, Int.reduceLT, Int.reduceAdd, Int.reduceMul, Int.reduceSub, Int.reduceToNat, Int.reduceLE, Int.reduceEq, ↓reduceIte, reduceCtorEq, Int.reduceNeg, Nat.reduceLeDiff,  m3, m4, m5, l3, l4, l5, blkAt_lo]
  first | refine callB_intro (ga _) ?_ | refine callD_intro (ga _) ?_ | refine callP_intro (fun _ => (ga _)) ?_ | refine callX_pure (ga _) ?_
  simp (maxSteps := 1000000) (disch := omega) only [go_sem, Nat.reduceEqDiff, Nat.reduceLT, Nat.reduceAdd, Nat.reduceSub, Nat.reduceMul, Nat.reduceBEq, Int.reduceLT, Int.reduceAdd, Int.reduceMul, Int.reduceSub, Int.reduceToNat, Int.reduceLE, Int.reduceEq, ↓reduceIte, reduceCtorEq, Int.reduceNeg, Nat.reduceLeDiff,  m3, m4, m5, l3, l4, l5, blkAt_lo]
  first | refine callB_intro (gb _) ?_ | refine callD_intro (gb _) ?_ | refine callP_intro (fun _ => (gb _)) ?_ | refine callX_pure (gb _) ?_
  simp (maxSteps := 1000000) (disch := omega) only [go_sem, Nat.reduceEqDiff, Nat.reduceLT, Nat.reduceAdd, Nat.reduceSub, Nat.reduceMul, Nat.reduceBEq, Int.reduceLT, Int.reduceAdd, Int.reduceMul, Int.reduceSub, Int.reduceToNat, Int.reduceLE, Int.reduceEq, ↓reduceIte, reduceCtorEq, Int.reduceNeg, Nat.reduceLeDiff]
  exact fin_ext (by simp) (hyA.to _) (by simp (maxSteps := 1000000) (disch := omega) only [resVal, resAll, resOne, rs8, Env.get, go_sem, Nat.reduceEqDiff, Nat.reduceLT, Nat.reduceAdd, Nat.reduceSub, Nat.reduceMul, Nat.reduceBEq, Int.reduceLT, Int.reduceAdd, Int.reduceMul, Int.reduceSub, Int.reduceToNat, Int.reduceLE, Int.reduceEq, ↓reduceIte, reduceCtorEq, Int.reduceNeg, Nat.reduceLeDiff]) (by simp only [AV.und, AV.unds, and_self])
theorem wf8 {n : Int} (h : (Lit.int .i8 n).wf = true) : -128 ≤ n ∧ n ≤ 127 := by
  simp [Lit.wf, IntKind.min, IntKind.max, IntKind.signed, IntKind.bits] at h
  omega
theorem f8 (a0 a1 a2 b0 b1 b2 : Int) (H : Heap) (h0 : (Lit.int .i8 a0).wf = true) (h1 : (Lit.int .i8 a1).wf = true) (h2 : (Lit.int .i8 a2).wf = true) (g0 : (Lit.int .i8 b0).wf = true) (g1 : (Lit.int .i8 b1).wf = true) (g2 : (Lit.int .i8 b2).wf = true) :
    ACall Try.prog 8 [.agg [.int .i8 a0, .int .i8 a1, .int .i8 a2], .agg [.int .i8 b0, .int .i8 b1, .int .i8 b2]] H (.bool true) H :=
  f8a a0 a1 a2 b0 b1 b2 H (wf8 h0) (wf8 h1) (wf8 h2) (wf8 g0) (wf8 g1) (wf8 g2) (pr_in (wf8 h0) (wf8 g0)) (pr_in (wf8 h1) (wf8 g1)) (pr_in (wf8 h2) (wf8 g2))
end Go.Proofs.Ytmlklopopokjoaa.Ah
