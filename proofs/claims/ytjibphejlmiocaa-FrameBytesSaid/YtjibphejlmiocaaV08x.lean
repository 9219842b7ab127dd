/- V08x: a part of the proof: contracts of functions, or plain laws. Conditions: none. -/
import Derived.Test.YtjibphejlmiocaaV08w
namespace Go.Proofs.Ytjibphejlmiocaa.Ah
open Go Go.WideShapes
attribute [local irreducible] acs aopsK drawK leave condK bindR bindD bindX guardK guardD callB callD callX callP callPv rfunG rfunK yldB yldD
attribute [local go_sem] acs_nil acs_blk acs_skip acs_reg acs_dreg acs_freg acs_nam0 acs_nam nones acs_seq acs_cond acs_block acs_exit acs_ret acs_kl acs_loop leave_nil leave_code leave_lp leave_blk aopsK_nil aopsK_cons aopsK_guard bindR_val bindR_need bindR_br bindR_call bindR_ycall acs_rfun rfunG_fn bindR_bad drawK_nil drawK_cons drawK_ext drawK_pur drawK_guard callPv_fn drawK_purv bindD_val bindD_need bindD_br bindD_call bindD_ycall bindD_bad bindX_val bindX_need bindX_br bindX_call guardD_bool guardD_tup grows grows0 List.append_cancel_left_eq List.cons.injEq exists_eq' exists_eq condK_bool guardK_bool guardK_tup sor r0 r1 r2 r3 rC rB rI rP rA rT rS rF rSl rO rbin rcut run1 Env.evals Env.eval Env.get Env.put Env.ins Env.del Env.dels argEnv AV.full AV.cells AV.cell eqCells decide_true decide_false decide_eq_true_eq decide_eq_false_iff_not Bool.not_eq_true' Bool.not_eq_false' true_and and_true false_implies true_implies forall_const Bool.not_true Bool.not_false Bool.false_eq_true Bool.true_eq_false List.getElem?_cons_zero List.getElem?_cons_succ List.length_cons List.length_nil List.length_append List.all_cons List.all_nil Bool.and_true Bool.and_self implies_true List.append_assoc List.cons_append List.nil_append List.append_nil i64_in imin_eq imax_eq cast3 cast0 cast1 cast2 Option.map_none ite_self and_false false_and Option.isSome_some or_true true_or Int.sub_zero Int.mul_one Nat.sub_zero Nat.zero_le Int.cast_ofNat_Int Int.natCast_nonneg Int.toNat_natCast ne_eq not_false_eq_true not_true_eq_false strC blkAt_app blkAt_app0 blkAt_zero blkAt_succ List.set_cons_zero List.set_cons_succ set_app set_app0 Option.map_some Option.bind_some rd setCells lay rdS szOk rapp ownAt lenAt Option.any_some Option.getD_some List.drop_zero List.drop_succ_cons List.take_succ_cons List.take_zero List.drop_nil List.take_nil Nat.lt_irrefl Nat.zero_add Nat.add_zero Nat.mul_one Nat.one_mul Nat.add_assoc Option.some.injEq eq_self
set_option maxHeartbeats 4000000
set_option linter.unusedSimpArgs false
set_option linter.unusedVariables false
/-! The law FrameBack. -/
def encE (k : Int) (n : Nat) : Int := if right k n then 0 else 1
def encT (k : Int) (ns : List Int) : List Nat := if right k ns.length then encB k.toNat ns else []
theorem encT_By (k : Int) (ns : List Int) : By (encT k ns) := by
  unfold encT
  split
  · rename_i h
    have := lng_kind (of_decide_eq_true h).1
    exact encB_By (by omega)
  · intro x hx; cases hx
theorem encT_len (k : Int) (ns : List Int) : (encT k ns).length ≤ 200 := by
  unfold encT
  split
  · rename_i h
    have h1 := (of_decide_eq_true h).2
    have h2 := (lng_in k).2
    rw [encB_len]
    omega
  · simp
theorem f12_no {k : Int} {ns : List Int} {p off : Nat} {cp : Option Nat} {H : Heap} (hr : right k ns.length = false) :
    ACallE Try.prog 12 [.agg [.int .i64 k, .sl p off ns.length 1 cp]] H fun v H' => v = .tup [.nils, .int .i64 1] := by
  refine acallE (fun v Hf h => acallK12 (by simp) h) (acs_start ?_)
  have g26 := fun H => f26 (k := k) (p := p) (off := off) (n := ns.length) (c := cp) (H := H)
  rw [hr] at g26
  unfold c12
  simp (maxSteps := 1000000) (disch := omega) only [go_sem, Nat.reduceEqDiff, Nat.reduceLT, Nat.reduceAdd, Nat.reduceSub, Nat.reduceMul, Nat.reduceBEq, Int.reduceLT, Int.reduceAdd, Int.reduceMul, Int.reduceSub, Int.reduceToNat, Int.reduceLE, Int.reduceEq, ↓reduceIte, reduceCtorEq, Int.reduceNeg, Nat.reduceLeDiff]
  first | refine callB_intro (g26 _) ?_ | refine callD_intro (g26 _) ?_ | refine callP_intro (fun _ => (g26 _)) ?_ | refine callX_pure (g26 _) ?_
  simp (maxSteps := 1000000) (disch := omega) only [go_sem, Nat.reduceEqDiff, Nat.reduceLT, Nat.reduceAdd, Nat.reduceSub, Nat.reduceMul, Nat.reduceBEq, Int.reduceLT, Int.reduceAdd, Int.reduceMul, Int.reduceSub, Int.reduceToNat, Int.reduceLE, Int.reduceEq, ↓reduceIte, reduceCtorEq, Int.reduceNeg, Nat.reduceLeDiff]
  refine fin_e (by simp) (by simp (maxSteps := 1000000) (disch := omega) only [resVal, resAll, resOne, rs12, Env.get, go_sem, Nat.reduceEqDiff, Nat.reduceLT, Nat.reduceAdd, Nat.reduceSub, Nat.reduceMul, Nat.reduceBEq, Int.reduceLT, Int.reduceAdd, Int.reduceMul, Int.reduceSub, Int.reduceToNat, Int.reduceLE, Int.reduceEq, ↓reduceIte, reduceCtorEq, Int.reduceNeg, Nat.reduceLeDiff, ] <;> rfl) (Ext.app _ _) rfl
theorem f12T {k : Int} {ns : List Int} {p off : Nat} {cp : Option Nat} {H : Heap} (hs : Sl i64 H p off ns) :
    ACallE Try.prog 12 [.agg [.int .i64 k, .sl p off ns.length 1 cp]] H fun v H' => ∃ w, v = .tup [w, .int .i64 (encE k ns.length)] ∧ Rw u8 H' w (encT k ns) := by
  cases hr : right k ns.length with
  | true =>
    refine (f12 (cp := cp) hs hr).mono fun v H' _ ⟨q, _, hv, hb⟩ => ?_
    unfold encE encT
    rw [hr]
    simp only [if_true]
    exact ⟨_, hv, Rw.mk none (Sl.whole (o := true) hb)⟩
  | false =>
    refine callE_nlr 1 ((f12_no (cp := cp) hr).mono fun v H' _ hv => ?_)
    subst hv
    unfold encE encT
    rw [hr]
    exact ⟨_, rfl, Rw.empty _⟩
theorem upk_pk (s : Smp) : upk (pk s) = some s := by
  obtain ⟨m, g0, g1, g2, a0, a1, a2, hb, b, hg, n0, n1, n2⟩ := s
  unfold pk upk
  cases m <;> cases hb <;> cases hg <;> simp [one]
theorem upkS_pk (s : Smp) : upkS (pk s) = s := by unfold upkS; rw [upk_pk]; rfl
theorem upkE_pk (s : Smp) : upkE (pk s) = 0 := by unfold upkE; rw [upk_pk]; rfl
theorem s_refl (s : Smp) : eqCells [.bool, .int, .int, .int, .int, .int, .int, .bool, .int, .bool, .int, .int, .int] s.av s.av = some true := by
  unfold Smp.av
  simp [eqCells]
theorem f9 (k : Int) (ns : List Int) (s : Smp) (zs : List Nat) (p o q o2 : Nat) (c c2 : Option Nat) (H : Heap) (hs : Sl i64 H p o ns) (hb : Sl u8 H q o2 zs) (wn : W64 ns) (hz : By zs) (l1 : ns.length ≤ 140737488351232) (l2 : zs.length ≤ 140737488351232) :
    ACall Try.prog 9 [.agg [.int .i64 k, .sl p o ns.length 1 c], .agg s.av, .sl q o2 zs.length 1 c2] H (.bool true) H := by
  refine acall9 (by simp) (acs_start ?_)
  have av1 : s.av.length = 13 := rfl
  have av2 : s.av.all AV.cell = true := rfl
  have av3 : List.take 13 s.av = s.av := rfl
  unfold c9
  by_cases hl : 100 < ns.length
  · have hl1 : (100 : Int) < (ns.length : Int) := by omega
    simp (maxSteps := 1000000) (disch := omega) only [go_sem, Nat.reduceEqDiff, Nat.reduceLT, Nat.reduceAdd, Nat.reduceSub, Nat.reduceMul, Nat.reduceBEq, Int.reduceLT, Int.reduceAdd, Int.reduceMul, Int.reduceSub, Int.reduceToNat, Int.reduceLE, Int.reduceEq, ↓reduceIte, reduceCtorEq, Int.reduceNeg, Nat.reduceLeDiff,  av1, av2]
    first | refine callB_intro (f10 _) ?_ | refine callD_intro (f10 _) ?_ | refine callP_intro (fun _ => (f10 _)) ?_ | refine callX_pure (f10 _) ?_
    simp (maxSteps := 1000000) (disch := omega) only [go_sem, Nat.reduceEqDiff, Nat.reduceLT, Nat.reduceAdd, Nat.reduceSub, Nat.reduceMul, Nat.reduceBEq, Int.reduceLT, Int.reduceAdd, Int.reduceMul, Int.reduceSub, Int.reduceToNat, Int.reduceLE, Int.reduceEq, ↓reduceIte, reduceCtorEq, Int.reduceNeg, Nat.reduceLeDiff,  hl1]
    exact fin_same (by simp) _ (by first | exact (List.append_nil _).symm | rfl) (by simp (maxSteps := 1000000) (disch := omega) only [resVal, resAll, resOne, rs9, Env.get, go_sem, Nat.reduceEqDiff, Nat.reduceLT, Nat.reduceAdd, Nat.reduceSub, Nat.reduceMul, Nat.reduceBEq, Int.reduceLT, Int.reduceAdd, Int.reduceMul, Int.reduceSub, Int.reduceToNat, Int.reduceLE, Int.reduceEq, ↓reduceIte, reduceCtorEq, Int.reduceNeg, Nat.reduceLeDiff]) (by simp only [AV.und, AV.unds, and_self])
  have hl1 : ¬ (100 : Int) < (ns.length : Int) := by omega
  by_cases hm : 500 < zs.length
  · have hm1 : (500 : Int) < (zs.length : Int) := by omega
    simp (maxSteps := 1000000) (disch := omega) only [go_sem, Nat.reduceEqDiff, Nat.reduceLT, Nat.reduceAdd, Nat.reduceSub, Nat.reduceMul, Nat.reduceBEq, Int.reduceLT, Int.reduceAdd, Int.reduceMul, Int.reduceSub, Int.reduceToNat, Int.reduceLE, Int.reduceEq, ↓reduceIte, reduceCtorEq, Int.reduceNeg, Nat.reduceLeDiff,  av1, av2]
    first | refine callB_intro (f10 _) ?_ | refine callD_intro (f10 _) ?_ | refine callP_intro (fun _ => (f10 _)) ?_ | refine callX_pure (f10 _) ?_
    simp (maxSteps := 1000000) (disch := omega) only [go_sem, Nat.reduceEqDiff, Nat.reduceLT, Nat.reduceAdd, Nat.reduceSub, Nat.reduceMul, Nat.reduceBEq, Int.reduceLT, Int.reduceAdd, Int.reduceMul, Int.reduceSub, Int.reduceToNat, Int.reduceLE, Int.reduceEq, ↓reduceIte, reduceCtorEq, Int.reduceNeg, Nat.reduceLeDiff,  hl1, hm1]
    exact fin_same (by simp) _ (by first | exact (List.append_nil _).symm | rfl) (by simp (maxSteps := 1000000) (disch := omega) only [resVal, resAll, resOne, rs9, Env.get, go_sem, Nat.reduceEqDiff, Nat.reduceLT, Nat.reduceAdd, Nat.reduceSub, Nat.reduceMul, Nat.reduceBEq, Int.reduceLT, Int.reduceAdd, Int.reduceMul, Int.reduceSub, Int.reduceToNat, Int.reduceLE, Int.reduceEq, ↓reduceIte, reduceCtorEq, Int.reduceNeg, Nat.reduceLeDiff]) (by simp only [AV.und, AV.unds, and_self])
  have hm1 : ¬ (500 : Int) < (zs.length : Int) := by omega
  have g12 := fun G => f12T (k := k) (cp := c) (hs.app G)
  have hdec : right k ns.length = true → decE (encT k ns) = 0 ∧ decK (encT k ns) = k ∧ decL (encT k ns) = ns := by
    intro hr
    have hk := lng_kind (of_decide_eq_true hr).1
    have := dec_enc (k := k.toNat) wn (by rw [show ((k.toNat : Nat) : Int) = k by omega]; exact hr)
    unfold encT
    rw [if_pos hr]
    rw [show ((k.toNat : Nat) : Int) = k by omega] at this
    exact this
  have hTB := encT_By k ns
  have hTl := encT_len k ns
  generalize encT k ns = xs at *
  simp (maxSteps := 1000000) (disch := omega) only [go_sem, Nat.reduceEqDiff, Nat.reduceLT, Nat.reduceAdd, Nat.reduceSub, Nat.reduceMul, Nat.reduceBEq, Int.reduceLT, Int.reduceAdd, Int.reduceMul, Int.reduceSub, Int.reduceToNat, Int.reduceLE, Int.reduceEq, ↓reduceIte, reduceCtorEq, Int.reduceNeg, Nat.reduceLeDiff,  av1, av2]
  first | refine callB_intro (f10 _) ?_ | refine callD_intro (f10 _) ?_ | refine callP_intro (fun _ => (f10 _)) ?_ | refine callX_pure (f10 _) ?_
  simp (maxSteps := 1000000) (disch := omega) only [go_sem, Nat.reduceEqDiff, Nat.reduceLT, Nat.reduceAdd, Nat.reduceSub, Nat.reduceMul, Nat.reduceBEq, Int.reduceLT, Int.reduceAdd, Int.reduceMul, Int.reduceSub, Int.reduceToNat, Int.reduceLE, Int.reduceEq, ↓reduceIte, reduceCtorEq, Int.reduceNeg, Nat.reduceLeDiff,  hl1, hm1]
  first | refine callBE (g12 _) ?_ | refine callDE (g12 _) ?_ | refine callXE (g12 _) ?_
  rintro v H1 hx1 ⟨w, rfl, p1, o1, k1, rfl, s1⟩
  have b0 : blkAt H1 H.length = some ⟨[.int .i64 k, .sl p o ns.length 1 c], true⟩ := hx1.blk (by simp only [go_sem, Nat.reduceEqDiff, Nat.reduceLT, Nat.reduceAdd, Nat.reduceSub, Nat.reduceMul, Nat.reduceBEq, Int.reduceLT, Int.reduceAdd, Int.reduceMul, Int.reduceSub, Int.reduceToNat, Int.reduceLE, Int.reduceEq, ↓reduceIte, reduceCtorEq, Int.reduceNeg, Nat.reduceLeDiff])
  have b1 : blkAt H1 (H.length + 1) = some ⟨s.av, true⟩ := hx1.blk (by simp only [go_sem, Nat.reduceEqDiff, Nat.reduceLT, Nat.reduceAdd, Nat.reduceSub, Nat.reduceMul, Nat.reduceBEq, Int.reduceLT, Int.reduceAdd, Int.reduceMul, Int.reduceSub, Int.reduceToNat, Int.reduceLE, Int.reduceEq, ↓reduceIte, reduceCtorEq, Int.reduceNeg, Nat.reduceLeDiff])
  have hy1 : Ext H H1 := (Ext.app _ _).trans hx1
  clear hx1 g12
  simp (maxSteps := 1000000) (disch := omega) only [go_sem, Nat.reduceEqDiff, Nat.reduceLT, Nat.reduceAdd, Nat.reduceSub, Nat.reduceMul, Nat.reduceBEq, Int.reduceLT, Int.reduceAdd, Int.reduceMul, Int.reduceSub, Int.reduceToNat, Int.reduceLE, Int.reduceEq, ↓reduceIte, reduceCtorEq, Int.reduceNeg, Nat.reduceLeDiff]
  first | refine callBE (f20 (cp := k1) s1 hTB (by omega)) ?_ | refine callDE (f20 (cp := k1) s1 hTB (by omega)) ?_ | refine callXE (f20 (cp := k1) s1 hTB (by omega)) ?_
  rintro v H2 hx2 ⟨w, rfl, p2, o2', k2, rfl, s2⟩
  replace b0 := hx2.blk b0
  replace b1 := hx2.blk b1
  have hy2 := hy1.trans hx2
  clear hx2 hy1 s1
  have m0 := blkAt_lt b0
  have m1 := blkAt_lt b1
  have gp := fun G => f15 s (H2 ++ G)
  simp (maxSteps := 1000000) (disch := omega) only [go_sem, Nat.reduceEqDiff, Nat.reduceLT, Nat.reduceAdd, Nat.reduceSub, Nat.reduceMul, Nat.reduceBEq, Int.reduceLT, Int.reduceAdd, Int.reduceMul, Int.reduceSub, Int.reduceToNat, Int.reduceLE, Int.reduceEq, ↓reduceIte, reduceCtorEq, Int.reduceNeg, Nat.reduceLeDiff,  b1, m1, av1, av3, blkAt_lo, Nat.le_refl]
  first | refine callBE (gp _) ?_ | refine callDE (gp _) ?_ | refine callXE (gp _) ?_
  rintro v H3 hx3 ⟨p3, o3, k3, rfl, s3⟩
  have b2 : blkAt H3 H2.length = some ⟨[.int .i64 (decK xs), .sl p2 o2' (decL xs).length 1 k2], true⟩ := hx3.blk (by simp only [go_sem, Nat.reduceEqDiff, Nat.reduceLT, Nat.reduceAdd, Nat.reduceSub, Nat.reduceMul, Nat.reduceBEq, Int.reduceLT, Int.reduceAdd, Int.reduceMul, Int.reduceSub, Int.reduceToNat, Int.reduceLE, Int.reduceEq, ↓reduceIte, reduceCtorEq, Int.reduceNeg, Nat.reduceLeDiff])
  have hx3' : Ext H2 H3 := (Ext.app _ _).trans hx3
  replace b0 := hx3'.blk b0
  replace b1 := hx3'.blk b1
  replace s2 := hx3'.sl s2
  have hy3 := hy2.trans hx3'
  clear hx3 hx3' hy2 gp
  have m0 := blkAt_lt b0
  have m1 := blkAt_lt b1
  have m2 := blkAt_lt b2
  have gu := f16 (c := k3) s3 (by show 13 ≤ 1000; omega)
  rw [upkS_pk, upkE_pk] at gu
  have hsr := s_refl s
  simp (maxSteps := 1000000) (disch := omega) only [go_sem, Nat.reduceEqDiff, Nat.reduceLT, Nat.reduceAdd, Nat.reduceSub, Nat.reduceMul, Nat.reduceBEq, Int.reduceLT, Int.reduceAdd, Int.reduceMul, Int.reduceSub, Int.reduceToNat, Int.reduceLE, Int.reduceEq, ↓reduceIte, reduceCtorEq, Int.reduceNeg, Nat.reduceLeDiff]
  first | refine callB_intro (gu) ?_ | refine callD_intro (gu) ?_ | refine callP_intro (fun _ => (gu)) ?_ | refine callX_pure (gu) ?_
  have g26 := fun G => f26 (k := k) (p := p) (off := o) (n := ns.length) (c := c) (H := H3 ++ G)
  have g13 := fun G => f13 (a := decK xs) (b := k) (c1 := k2) (c2 := c) (s2.app G) ((hy3.sl hs).app G) (by
    unfold decL
    split
    · have := (decM_eq xs).2; simp [decW]; omega
    · simp)
  have g20 := fun G => f20 (cp := c2) ((hy3.sl hb).app G) hz (by omega)
  have hbE := fun H' (h : Ext H3 H') => (hy3.trans h).sl hb
  have hend := fun (h : decE zs = 0) => enc_dec hz h
  unfold encE
  cases hr : right k ns.length with
  | false =>
    rw [hr] at g26
    clear hdec hTB hTl
    simp only [Bool.false_eq_true, if_false, if_true]
    simp (maxSteps := 1000000) (disch := omega) only [go_sem, Nat.reduceEqDiff, Nat.reduceLT, Nat.reduceAdd, Nat.reduceSub, Nat.reduceMul, Nat.reduceBEq, Int.reduceLT, Int.reduceAdd, Int.reduceMul, Int.reduceSub, Int.reduceToNat, Int.reduceLE, Int.reduceEq, ↓reduceIte, reduceCtorEq, Int.reduceNeg, Nat.reduceLeDiff,  b0, b1, b2, m0, m1, m2, av1, av2, av3, blkAt_lo, hsr, Nat.le_refl]
    first | refine callB_intro (g26 _) ?_ | refine callD_intro (g26 _) ?_ | refine callP_intro (fun _ => (g26 _)) ?_ | refine callX_pure (g26 _) ?_
    simp (maxSteps := 1000000) (disch := omega) only [go_sem, Nat.reduceEqDiff, Nat.reduceLT, Nat.reduceAdd, Nat.reduceSub, Nat.reduceMul, Nat.reduceBEq, Int.reduceLT, Int.reduceAdd, Int.reduceMul, Int.reduceSub, Int.reduceToNat, Int.reduceLE, Int.reduceEq, ↓reduceIte, reduceCtorEq, Int.reduceNeg, Nat.reduceLeDiff,  b0, b1, b2, m0, m1, m2, av1, av2, av3, blkAt_lo, hsr, Nat.le_refl]
    first | refine callBE (g20 _) ?_ | refine callDE (g20 _) ?_ | refine callXE (g20 _) ?_
    rintro v H4 hx4 ⟨w, rfl, p4, o4, k4, rfl, s4⟩
    have hy4 : Ext H3 H4 := (Ext.app _ _).trans hx4
    have hs4 := hbE H4 hy4
    clear hx4 g20 g13 g26
    by_cases he : decE zs = 0
    · obtain ⟨t1, t2, t3⟩ := hend he
      have eT : encT (decK zs) (decL zs) = zs := by unfold encT; rw [if_pos t2]; exact t1
      have eE : encE (decK zs) (decL zs).length = 0 := by unfold encE; rw [t2]; rfl
      have g12 := fun G => f12T (k := decK zs) (cp := k4) (s4.app G)
      rw [eT, eE] at g12
      rw [he]
      simp (maxSteps := 1000000) (disch := omega) only [go_sem, Nat.reduceEqDiff, Nat.reduceLT, Nat.reduceAdd, Nat.reduceSub, Nat.reduceMul, Nat.reduceBEq, Int.reduceLT, Int.reduceAdd, Int.reduceMul, Int.reduceSub, Int.reduceToNat, Int.reduceLE, Int.reduceEq, ↓reduceIte, reduceCtorEq, Int.reduceNeg, Nat.reduceLeDiff]
      first | refine callBE (g12 _) ?_ | refine callDE (g12 _) ?_ | refine callXE (g12 _) ?_
      rintro v H5 hx5 ⟨w, rfl, p5, o5, k5, rfl, s5⟩
      have hy5 : Ext H4 H5 := (Ext.app _ _).trans hx5
      have g24 := f24 (c1 := k5) (c2 := c2) s5 (hy5.sl hs4) (by omega)
      rw [decide_eq_true rfl] at g24
      simp (maxSteps := 1000000) (disch := omega) only [go_sem, Nat.reduceEqDiff, Nat.reduceLT, Nat.reduceAdd, Nat.reduceSub, Nat.reduceMul, Nat.reduceBEq, Int.reduceLT, Int.reduceAdd, Int.reduceMul, Int.reduceSub, Int.reduceToNat, Int.reduceLE, Int.reduceEq, ↓reduceIte, reduceCtorEq, Int.reduceNeg, Nat.reduceLeDiff]
      first | refine callB_intro (g24) ?_ | refine callD_intro (g24) ?_ | refine callP_intro (fun _ => (g24)) ?_ | refine callX_pure (g24) ?_
      simp (maxSteps := 1000000) (disch := omega) only [go_sem, Nat.reduceEqDiff, Nat.reduceLT, Nat.reduceAdd, Nat.reduceSub, Nat.reduceMul, Nat.reduceBEq, Int.reduceLT, Int.reduceAdd, Int.reduceMul, Int.reduceSub, Int.reduceToNat, Int.reduceLE, Int.reduceEq, ↓reduceIte, reduceCtorEq, Int.reduceNeg, Nat.reduceLeDiff]
      exact fin_ext (by simp) ((hy3.trans hy4).trans hy5) (by simp (maxSteps := 1000000) (disch := omega) only [resVal, resAll, resOne, rs9, Env.get, go_sem, Nat.reduceEqDiff, Nat.reduceLT, Nat.reduceAdd, Nat.reduceSub, Nat.reduceMul, Nat.reduceBEq, Int.reduceLT, Int.reduceAdd, Int.reduceMul, Int.reduceSub, Int.reduceToNat, Int.reduceLE, Int.reduceEq, ↓reduceIte, reduceCtorEq, Int.reduceNeg, Nat.reduceLeDiff]) (by simp only [AV.und, AV.unds, and_self])
    · simp (maxSteps := 1000000) (disch := omega) only [go_sem, Nat.reduceEqDiff, Nat.reduceLT, Nat.reduceAdd, Nat.reduceSub, Nat.reduceMul, Nat.reduceBEq, Int.reduceLT, Int.reduceAdd, Int.reduceMul, Int.reduceSub, Int.reduceToNat, Int.reduceLE, Int.reduceEq, ↓reduceIte, reduceCtorEq, Int.reduceNeg, Nat.reduceLeDiff,  he]
      exact fin_ext (by simp) ((hy3.trans hy4).to _) (by simp (maxSteps := 1000000) (disch := omega) only [resVal, resAll, resOne, rs9, Env.get, go_sem, Nat.reduceEqDiff, Nat.reduceLT, Nat.reduceAdd, Nat.reduceSub, Nat.reduceMul, Nat.reduceBEq, Int.reduceLT, Int.reduceAdd, Int.reduceMul, Int.reduceSub, Int.reduceToNat, Int.reduceLE, Int.reduceEq, ↓reduceIte, reduceCtorEq, Int.reduceNeg, Nat.reduceLeDiff]) (by simp only [AV.und, AV.unds, and_self])
  | true =>
    rw [hr] at g26
    obtain ⟨q1, q2, q3⟩ := hdec hr
    rw [q2, q3, decide_eq_true ⟨rfl, rfl⟩] at g13
    rw [q1]
    rw [q2, q3] at b2
    clear hdec hTB hTl
    simp only [Bool.false_eq_true, if_false, if_true]
    simp (maxSteps := 1000000) (disch := omega) only [go_sem, Nat.reduceEqDiff, Nat.reduceLT, Nat.reduceAdd, Nat.reduceSub, Nat.reduceMul, Nat.reduceBEq, Int.reduceLT, Int.reduceAdd, Int.reduceMul, Int.reduceSub, Int.reduceToNat, Int.reduceLE, Int.reduceEq, ↓reduceIte, reduceCtorEq, Int.reduceNeg, Nat.reduceLeDiff,  b0, b1, b2, m0, m1, m2, av1, av2, av3, blkAt_lo, hsr, Nat.le_refl]
    first | refine callB_intro (g26 _) ?_ | refine callD_intro (g26 _) ?_ | refine callP_intro (fun _ => (g26 _)) ?_ | refine callX_pure (g26 _) ?_
    simp (maxSteps := 1000000) (disch := omega) only [go_sem, Nat.reduceEqDiff, Nat.reduceLT, Nat.reduceAdd, Nat.reduceSub, Nat.reduceMul, Nat.reduceBEq, Int.reduceLT, Int.reduceAdd, Int.reduceMul, Int.reduceSub, Int.reduceToNat, Int.reduceLE, Int.reduceEq, ↓reduceIte, reduceCtorEq, Int.reduceNeg, Nat.reduceLeDiff,  b0, b1, b2, m0, m1, m2, av1, av2, av3, blkAt_lo, hsr, Nat.le_refl]
    first | refine callB_intro (g13 _) ?_ | refine callD_intro (g13 _) ?_ | refine callP_intro (fun _ => (g13 _)) ?_ | refine callX_pure (g13 _) ?_
    simp (maxSteps := 1000000) (disch := omega) only [go_sem, Nat.reduceEqDiff, Nat.reduceLT, Nat.reduceAdd, Nat.reduceSub, Nat.reduceMul, Nat.reduceBEq, Int.reduceLT, Int.reduceAdd, Int.reduceMul, Int.reduceSub, Int.reduceToNat, Int.reduceLE, Int.reduceEq, ↓reduceIte, reduceCtorEq, Int.reduceNeg, Nat.reduceLeDiff]
    first | refine callBE (g20 _) ?_ | refine callDE (g20 _) ?_ | refine callXE (g20 _) ?_
    rintro v H4 hx4 ⟨w, rfl, p4, o4, k4, rfl, s4⟩
    have hy4 : Ext H3 H4 := (Ext.app _ _).trans hx4
    have hs4 := hbE H4 hy4
    clear hx4 g20 g13 g26
    by_cases he : decE zs = 0
    · obtain ⟨t1, t2, t3⟩ := hend he
      have eT : encT (decK zs) (decL zs) = zs := by unfold encT; rw [if_pos t2]; exact t1
      have eE : encE (decK zs) (decL zs).length = 0 := by unfold encE; rw [t2]; rfl
      have g12 := fun G => f12T (k := decK zs) (cp := k4) (s4.app G)
      rw [eT, eE] at g12
      rw [he]
      simp (maxSteps := 1000000) (disch := omega) only [go_sem, Nat.reduceEqDiff, Nat.reduceLT, Nat.reduceAdd, Nat.reduceSub, Nat.reduceMul, Nat.reduceBEq, Int.reduceLT, Int.reduceAdd, Int.reduceMul, Int.reduceSub, Int.reduceToNat, Int.reduceLE, Int.reduceEq, ↓reduceIte, reduceCtorEq, Int.reduceNeg, Nat.reduceLeDiff]
      first | refine callBE (g12 _) ?_ | refine callDE (g12 _) ?_ | refine callXE (g12 _) ?_
      rintro v H5 hx5 ⟨w, rfl, p5, o5, k5, rfl, s5⟩
      have hy5 : Ext H4 H5 := (Ext.app _ _).trans hx5
      have g24 := f24 (c1 := k5) (c2 := c2) s5 (hy5.sl hs4) (by omega)
      rw [decide_eq_true rfl] at g24
      simp (maxSteps := 1000000) (disch := omega) only [go_sem, Nat.reduceEqDiff, Nat.reduceLT, Nat.reduceAdd, Nat.reduceSub, Nat.reduceMul, Nat.reduceBEq, Int.reduceLT, Int.reduceAdd, Int.reduceMul, Int.reduceSub, Int.reduceToNat, Int.reduceLE, Int.reduceEq, ↓reduceIte, reduceCtorEq, Int.reduceNeg, Nat.reduceLeDiff]
      first | refine callB_intro (g24) ?_ | refine callD_intro (g24) ?_ | refine callP_intro (fun _ => (g24)) ?_ | refine callX_pure (g24) ?_
      simp (maxSteps := 1000000) (disch := omega) only [go_sem, Nat.reduceEqDiff, Nat.reduceLT, Nat.reduceAdd, Nat.reduceSub, Nat.reduceMul, Nat.reduceBEq, Int.reduceLT, Int.reduceAdd, Int.reduceMul, Int.reduceSub, Int.reduceToNat, Int.reduceLE, Int.reduceEq, ↓reduceIte, reduceCtorEq, Int.reduceNeg, Nat.reduceLeDiff]
      exact fin_ext (by simp) ((hy3.trans hy4).trans hy5) (by simp (maxSteps := 1000000) (disch := omega) only [resVal, resAll, resOne, rs9, Env.get, go_sem, Nat.reduceEqDiff, Nat.reduceLT, Nat.reduceAdd, Nat.reduceSub, Nat.reduceMul, Nat.reduceBEq, Int.reduceLT, Int.reduceAdd, Int.reduceMul, Int.reduceSub, Int.reduceToNat, Int.reduceLE, Int.reduceEq, ↓reduceIte, reduceCtorEq, Int.reduceNeg, Nat.reduceLeDiff]) (by simp only [AV.und, AV.unds, and_self])
    · simp (maxSteps := 1000000) (disch := omega) only [go_sem, Nat.reduceEqDiff, Nat.reduceLT, Nat.reduceAdd, Nat.reduceSub, Nat.reduceMul, Nat.reduceBEq, Int.reduceLT, Int.reduceAdd, Int.reduceMul, Int.reduceSub, Int.reduceToNat, Int.reduceLE, Int.reduceEq, ↓reduceIte, reduceCtorEq, Int.reduceNeg, Nat.reduceLeDiff,  he]
      exact fin_ext (by simp) ((hy3.trans hy4).to _) (by simp (maxSteps := 1000000) (disch := omega) only [resVal, resAll, resOne, rs9, Env.get, go_sem, Nat.reduceEqDiff, Nat.reduceLT, Nat.reduceAdd, Nat.reduceSub, Nat.reduceMul, Nat.reduceBEq, Int.reduceLT, Int.reduceAdd, Int.reduceMul, Int.reduceSub, Int.reduceToNat, Int.reduceLE, Int.reduceEq, ↓reduceIte, reduceCtorEq, Int.reduceNeg, Nat.reduceLeDiff]) (by simp only [AV.und, AV.unds, and_self])
end Go.Proofs.Ytjibphejlmiocaa.Ah
