/- V10y: a part of the proof: contracts of functions, or plain laws. Conditions: none. -/
import Derived.Test.YtjibcbfdfambeaaV10t
namespace Go.Proofs.Ytjibcbfdfambeaa.Ah
open Go Go.WideShapes
attribute [local irreducible] acs aopsK drawK leave condK bindR bindD bindX guardK guardD callB callD callX callP callPv
attribute [local go_sem] acs_nil acs_blk acs_skip acs_reg acs_dreg acs_freg acs_nam0 acs_nam nones acs_seq acs_cond acs_block acs_exit acs_ret acs_kl acs_loop leave_nil leave_code leave_lp leave_blk aopsK_nil aopsK_cons aopsK_guard bindR_val bindR_need bindR_br bindR_call bindR_bad drawK_nil drawK_cons drawK_ext drawK_pur drawK_guard callPv_fn drawK_purv bindD_val bindD_need bindD_br bindD_call bindD_bad bindX_val bindX_need bindX_br bindX_call guardD_bool guardD_tup grows grows0 List.append_cancel_left_eq List.cons.injEq exists_eq' exists_eq condK_bool guardK_bool guardK_tup sor r0 r1 r2 r3 rC rB rI rP rA rT rS rF rSl rO rbin rcut run1 Env.evals Env.eval Env.get Env.put Env.ins Env.del Env.dels argEnv AV.full AV.cells AV.cell eqCells decide_true decide_false decide_eq_true_eq decide_eq_false_iff_not Bool.not_eq_true' Bool.not_eq_false' true_and and_true false_implies true_implies forall_const Bool.not_true Bool.not_false Bool.false_eq_true Bool.true_eq_false List.getElem?_cons_zero List.getElem?_cons_succ List.length_cons List.length_nil List.length_append List.all_cons List.all_nil Bool.and_true Bool.and_self implies_true List.append_assoc List.cons_append List.nil_append List.append_nil i64_in imin_eq imax_eq cast3 cast0 cast1 cast2 Option.map_none ite_self and_false false_and Option.isSome_some or_true true_or Int.sub_zero Int.mul_one Nat.sub_zero Nat.zero_le Int.cast_ofNat_Int Int.natCast_nonneg Int.toNat_natCast ne_eq not_false_eq_true not_true_eq_false strC blkAt_app blkAt_app0 blkAt_zero blkAt_succ List.set_cons_zero List.set_cons_succ set_app set_app0 Option.map_some Option.bind_some rd setCells lay rdS szOk rapp ownAt lenAt Option.any_some Option.getD_some List.drop_zero List.drop_succ_cons List.take_succ_cons List.take_zero List.drop_nil List.take_nil Nat.lt_irrefl Nat.zero_add Nat.add_zero Nat.mul_one Nat.one_mul Nat.add_assoc Option.some.injEq eq_self
set_option maxHeartbeats 4000000
set_option linter.unusedSimpArgs false
set_option linter.unusedVariables false
/-! The law NvramTwice. -/
theorem Sl.fill {α : Type} {f : α → AV} {H : Heap} {p off b : Nat} {zs : List α} (hs : Sl f H p off zs) (hb : H[b]? = some none) (x : Option Blk) : Sl f (H.set b x) p off zs := by
  have : H.set b none = H := by
    apply List.ext_getElem?
    intro i
    by_cases h : b = i
    · subst h
      rw [List.getElem?_set_self (List.getElem?_eq_some_iff.1 hb).1, hb]
    · rw [List.getElem?_set_ne h]
  refine Sl.unset ?_ x
  rw [this]
  exact hs
theorem Stt.ok.fill {S : Stt} {H : Heap} {b : Nat} (h : S.ok H) (hb : H[b]? = some none) (x : Option Blk) : S.ok (H.set b x) := ⟨h.h0.fill hb x, h.h1.fill hb x, h.l0, h.l1⟩
theorem f13_new {us : List Int} {q oq : Nat} {kq : Option Nat} {H : Heap} (hu : Sl i64 H q oq us) (lu : us.length ≤ 1000) :
    ACallE Try.prog 13 [.agg [.nils, .int .i64 0, .nils, .int .i64 0], .sl q oq us.length 1 kq] H fun v H' => ∃ S' : Stt, v = .tup [.agg S'.av, .int .i64 (errP (([], 0), ([], 0)) us)] ∧ S'.ok H' ∧ S'.pu = tornP (([], 0), ([], 0)) us ((us.length : Int) + 3) := by
  refine callE_nl 1 ?_
  have h0 : Sl i64 (H ++ [some ⟨[], false⟩]) H.length 0 [] := Sl.whole (o := false) (by simp only [go_sem, Nat.reduceEqDiff, Nat.reduceLT, Nat.reduceAdd, Nat.reduceSub, Nat.reduceMul, Nat.reduceBEq, Int.reduceLT, Int.reduceAdd, Int.reduceMul, Int.reduceSub, Int.reduceToNat, Int.reduceLE, Int.reduceEq, ↓reduceIte, reduceCtorEq, Int.reduceNeg, Nat.reduceLeDiff, List.map_nil])
  exact f13_t (S := ⟨H.length, 0, none, [], 0, H.length, 0, none, [], 0⟩) ⟨h0, h0, Nat.zero_le _, Nat.zero_le _⟩ (hu.app _) lu
theorem tw1 {a : List Int} (l : a.length ≤ 600) : errP (([], 0), ([], 0)) a = 0 ∧ tornP (([], 0), ([], 0)) a ((a.length : Int) + 3) = ((1 :: a, com (1 :: a)), ([], 0)) := by
  have en : nwP (([], 0), ([], 0)) = -1 := nw_f (wh_zero _) (wh_zero _)
  have e2 : lastP (([], 0), ([], 0)) = 0 := by simp [lastP, en]
  constructor
  · unfold errP; rw [e2, if_neg (by omega)]
  · unfold tornP slotP
    rw [e2, en, if_neg (by omega), if_neg (by omega), if_pos (by omega), Int.zero_add]
theorem tw2 {a b : List Int} (l : b.length ≤ 600) : errP ((1 :: a, com (1 :: a)), ([], 0)) b = 0 ∧ tornP ((1 :: a, com (1 :: a)), ([], 0)) b ((b.length : Int) + 3) = ((1 :: a, com (1 :: a)), (2 :: b, com (2 :: b))) := by
  have en : nwP ((1 :: a, com (1 :: a)), ([], 0)) = 0 := nw_0 (wh_new (by decide)) (.inl (wh_zero _))
  have e2 : lastP ((1 :: a, com (1 :: a)), ([], 0)) = 1 := by simp [lastP, en, hd0]
  constructor
  · unfold errP; rw [e2, if_neg (by omega)]
  · unfold tornP slotP
    rw [e2, en, if_neg (by omega), if_pos rfl, if_pos (by omega)]
    rfl
theorem tw3 {a b c : List Int} {d : Int} (l : c.length ≤ 600) (hd : d < (c.length : Int) + 3) : errP ((1 :: a, com (1 :: a)), (2 :: b, com (2 :: b))) c = 0 ∧ ∃ s, tornP ((1 :: a, com (1 :: a)), (2 :: b, com (2 :: b))) c d = (s, (2 :: b, com (2 :: b))) ∧ nwP (s, (2 :: b, com (2 :: b))) = 1 := by
  have en : nwP ((1 :: a, com (1 :: a)), (2 :: b, com (2 :: b))) = 1 := nw_1 (wh_new (by decide)) (.inr (by simp [hd0]))
  have e2 : lastP ((1 :: a, com (1 :: a)), (2 :: b, com (2 :: b))) = 2 := by simp [lastP, en, hd0]
  constructor
  · unfold errP; rw [e2, if_neg (by omega)]
  · refine ⟨slotP (1 :: a, com (1 :: a)) (2 + 1) c d, ?_, ?_⟩
    · unfold tornP
      rw [e2, en, if_neg (by omega), if_neg (by omega)]
    · unfold slotP
      rw [if_neg (by omega)]
      split
      · exact nw_1 (wh_new (by decide)) (.inl (wh_zero _))
      · split
        · exact nw_1 (wh_new (by decide)) (.inl (wh_zero _))
        · exact en
theorem f5 (a b c : List Int) (pa oa pb ob pc oc : Nat) (ka kb kc : Option Nat) (done : Int) (H : Heap) (ha : Sl i64 H pa oa a) (hb : Sl i64 H pb ob b) (hc : Sl i64 H pc oc c) (la : a.length ≤ 140737488351232) (lb : b.length ≤ 140737488351232) (lc : c.length ≤ 140737488351232) (hd : 0 ≤ done ∧ done < 256) :
    ACall Try.prog 5 [.agg [.sl pa oa a.length 1 ka, .sl pb ob b.length 1 kb, .sl pc oc c.length 1 kc, .int .u8 done]] H (.bool true) H := by
  refine acall5 (by simp) (acs_start ?_)
  have g17 := fun H => @f17 c.length pc oc kc H (by omega)
  unfold c5
  by_cases few : (a.length : Int) + b.length + c.length ≤ 500
  rotate_left
  · have few' : (500 : Int) < (a.length : Int) + b.length + c.length := by omega
    simp (maxSteps := 1000000) (disch := omega) only [go_sem, Nat.reduceEqDiff, Nat.reduceLT, Nat.reduceAdd, Nat.reduceSub, Nat.reduceMul, Nat.reduceBEq, Int.reduceLT, Int.reduceAdd, Int.reduceMul, Int.reduceSub, Int.reduceToNat, Int.reduceLE, Int.reduceEq, ↓reduceIte, reduceCtorEq, Int.reduceNeg, Nat.reduceLeDiff]
    first | refine callB_intro (f10 _) ?_ | refine callD_intro (f10 _) ?_ | refine callP_intro (fun _ => (f10 _)) ?_ | refine callX_pure (f10 _) ?_
    simp (maxSteps := 1000000) (disch := omega) only [go_sem, Nat.reduceEqDiff, Nat.reduceLT, Nat.reduceAdd, Nat.reduceSub, Nat.reduceMul, Nat.reduceBEq, Int.reduceLT, Int.reduceAdd, Int.reduceMul, Int.reduceSub, Int.reduceToNat, Int.reduceLE, Int.reduceEq, ↓reduceIte, reduceCtorEq, Int.reduceNeg, Nat.reduceLeDiff,  few']
    exact fin_same (by simp) _ (by first | exact (List.append_nil _).symm | rfl) (by simp (maxSteps := 1000000) (disch := omega) only [resVal, resAll, resOne, rs5, Env.get, go_sem, Nat.reduceEqDiff, Nat.reduceLT, Nat.reduceAdd, Nat.reduceSub, Nat.reduceMul, Nat.reduceBEq, Int.reduceLT, Int.reduceAdd, Int.reduceMul, Int.reduceSub, Int.reduceToNat, Int.reduceLE, Int.reduceEq, ↓reduceIte, reduceCtorEq, Int.reduceNeg, Nat.reduceLeDiff]) (by simp only [AV.und, AV.unds, and_self])
  have few' : ¬ (500 : Int) < (a.length : Int) + b.length + c.length := by omega
  simp (maxSteps := 1000000) (disch := omega) only [go_sem, Nat.reduceEqDiff, Nat.reduceLT, Nat.reduceAdd, Nat.reduceSub, Nat.reduceMul, Nat.reduceBEq, Int.reduceLT, Int.reduceAdd, Int.reduceMul, Int.reduceSub, Int.reduceToNat, Int.reduceLE, Int.reduceEq, ↓reduceIte, reduceCtorEq, Int.reduceNeg, Nat.reduceLeDiff]
  first | refine callB_intro (f10 _) ?_ | refine callD_intro (f10 _) ?_ | refine callP_intro (fun _ => (f10 _)) ?_ | refine callX_pure (f10 _) ?_
  simp (maxSteps := 1000000) (disch := omega) only [go_sem, Nat.reduceEqDiff, Nat.reduceLT, Nat.reduceAdd, Nat.reduceSub, Nat.reduceMul, Nat.reduceBEq, Int.reduceLT, Int.reduceAdd, Int.reduceMul, Int.reduceSub, Int.reduceToNat, Int.reduceLE, Int.reduceEq, ↓reduceIte, reduceCtorEq, Int.reduceNeg, Nat.reduceLeDiff,  few']
  first | refine callB_intro (g17 _) ?_ | refine callD_intro (g17 _) ?_ | refine callP_intro (fun _ => (g17 _)) ?_ | refine callX_pure (g17 _) ?_
  have st1 : ¬ (c.length : Int) + 3 < 1 := by omega
  simp (maxSteps := 1000000) (disch := omega) only [go_sem, Nat.reduceEqDiff, Nat.reduceLT, Nat.reduceAdd, Nat.reduceSub, Nat.reduceMul, Nat.reduceBEq, Int.reduceLT, Int.reduceAdd, Int.reduceMul, Int.reduceSub, Int.reduceToNat, Int.reduceLE, Int.reduceEq, ↓reduceIte, reduceCtorEq, Int.reduceNeg, Nat.reduceLeDiff,  st1]
  first | refine callBE (f13_new (ha.app _) (by omega)) ?_ | refine callDE (f13_new (ha.app _) (by omega)) ?_ | refine callXE (f13_new (ha.app _) (by omega)) ?_
  rintro v1 H1 hx1 ⟨S1, rfl, k1, e1⟩
  obtain ⟨t1, t2⟩ := tw1 (a := a) (by omega)
  rw [t1]
  rw [t2] at e1
  have hy1 : Ext H H1 := (Ext.app _ _).trans hx1
  replace ha := hy1.sl ha
  replace hb := hy1.sl hb
  replace hc := hy1.sl hc
  have a1 := av_len S1
  have a2 := av_all S1
  have a3 := av_take S1
  simp (maxSteps := 1000000) (disch := omega) only [go_sem, Nat.reduceEqDiff, Nat.reduceLT, Nat.reduceAdd, Nat.reduceSub, Nat.reduceMul, Nat.reduceBEq, Int.reduceLT, Int.reduceAdd, Int.reduceMul, Int.reduceSub, Int.reduceToNat, Int.reduceLE, Int.reduceEq, ↓reduceIte, reduceCtorEq, Int.reduceNeg, Nat.reduceLeDiff,  a1, a2, a3]
  first | refine callBE (f13_t (k1.app _) (hb.app _) (by omega)) ?_ | refine callDE (f13_t (k1.app _) (hb.app _) (by omega)) ?_ | refine callXE (f13_t (k1.app _) (hb.app _) (by omega)) ?_
  rintro v2 H2 hx2 ⟨S2, rfl, k2, e2⟩
  rw [e1] at e2 ⊢
  obtain ⟨t3, t4⟩ := tw2 (a := a) (b := b) (by omega)
  rw [t3]
  rw [t4] at e2
  have hy2 : Ext H1 H2 := (Ext.app _ _).trans hx2
  replace ha := hy2.sl ha
  replace hb := hy2.sl hb
  replace hc := hy2.sl hc
  have d1 := av_len S2
  have d2 := av_all S2
  have d3 := av_take S2
  have hne : ¬ (c.length : Int) + 3 = 0 := by omega
  have hu8 : 0 ≤ done ∧ done ≤ 9223372036854775807 := by omega
  simp (maxSteps := 1000000) (disch := omega) only [go_sem, Nat.reduceEqDiff, Nat.reduceLT, Nat.reduceAdd, Nat.reduceSub, Nat.reduceMul, Nat.reduceBEq, Int.reduceLT, Int.reduceAdd, Int.reduceMul, Int.reduceSub, Int.reduceToNat, Int.reduceLE, Int.reduceEq, ↓reduceIte, reduceCtorEq, Int.reduceNeg, Nat.reduceLeDiff,  d1, d2, d3, hne]
  first | refine callBE (f16_t (k2.app _) (hc.app _) (by omega)) ?_ | refine callDE (f16_t (k2.app _) (hc.app _) (by omega)) ?_ | refine callXE (f16_t (k2.app _) (hc.app _) (by omega)) ?_
  rintro v3 H3 hx3 ⟨S3, rfl, k3, e3⟩
  have hlt := Int.tmod_lt_of_pos done (b := (c.length : Int) + 3) (by omega)
  obtain ⟨t5, s, t6, t7⟩ := tw3 (a := a) (b := b) (c := c) (by omega) hlt
  rw [e2] at e3 ⊢
  rw [t5]
  rw [t6] at e3
  obtain ⟨G, rfl⟩ := hx3
  have k3' := fun x => k3.fill (b := H2.length + 1) (by simp) x
  simp only [go_sem, Nat.reduceEqDiff, Nat.reduceLT, Nat.reduceAdd, Nat.reduceSub, Nat.reduceMul, Nat.reduceBEq, Int.reduceLT, Int.reduceAdd, Int.reduceMul, Int.reduceSub, Int.reduceToNat, Int.reduceLE, Int.reduceEq, ↓reduceIte, reduceCtorEq, Int.reduceNeg, Nat.reduceLeDiff] at k3'
  have f1 := av_len S3
  have f2 := av_all S3
  have f3 := av_take S3
  simp (maxSteps := 1000000) (disch := omega) only [go_sem, Nat.reduceEqDiff, Nat.reduceLT, Nat.reduceAdd, Nat.reduceSub, Nat.reduceMul, Nat.reduceBEq, Int.reduceLT, Int.reduceAdd, Int.reduceMul, Int.reduceSub, Int.reduceToNat, Int.reduceLE, Int.reduceEq, ↓reduceIte, reduceCtorEq, Int.reduceNeg, Nat.reduceLeDiff,  f1, f2, f3]
  first | refine callBE (f12_t (k3' _)) ?_ | refine callDE (f12_t (k3' _)) ?_ | refine callXE (f12_t (k3' _)) ?_
  rintro v4 H4 hx4 ⟨w4, rfl, p4⟩
  have q1 : lastP S3.pu = 2 := by rw [e3]; unfold lastP; rw [t7]; simp [hd0]
  have q2 : onP S3.pu = true := by rw [e3]; unfold onP; rw [t7]; decide
  have q3 : rdP S3.pu = b := by rw [e3]; unfold rdP; rw [t7]; simp
  rw [q1, q2]
  rw [q3] at p4
  obtain ⟨p4, o4, c4, rfl, s4⟩ := p4
  have b0 : blkAt H4 H2.length = some ⟨S2.av, true⟩ := hx4.blk (by simp only [go_sem, Nat.reduceEqDiff, Nat.reduceLT, Nat.reduceAdd, Nat.reduceSub, Nat.reduceMul, Nat.reduceBEq, Int.reduceLT, Int.reduceAdd, Int.reduceMul, Int.reduceSub, Int.reduceToNat, Int.reduceLE, Int.reduceEq, ↓reduceIte, reduceCtorEq, Int.reduceNeg, Nat.reduceLeDiff])
  have bl0 := blkAt_lt b0
  have hy4 : Ext H2 H4 := (Ext.app _ _).trans hx4
  have hy : Ext H H4 := (hy1.trans hy2).trans hy4
  replace k2 := k2.ext hy4
  replace ha := hy4.sl ha
  replace hb := hy4.sl hb
  have gI := f15 (c1 := c4) (c2 := kb) s4 hb (by omega)
  simp only [decide_true] at gI
  clear hx1 hx2 hx4 hy1 hy2 hy4 k1 k3 k3' t1 t2 t3 t4 t5 t6 a1 a2 a3 d1 d2 d3 f1 f2 f3
  obtain ⟨p0, o0, k0, ws, c0, p1, o1, k1, vs, c1⟩ := S2
  have e4 : ws = 1 :: a := by
    have := congrArg (fun x : Pu => x.1.1) e2
    exact this
  subst e4
  have gJ := f15 (c1 := k0.map (· - 1)) (c2 := ka) (k2.h0.drop (n := 1) (by simp)) ha (by simp; omega)
  simp only [List.drop_succ_cons, List.drop_zero, decide_true] at gJ
  unfold Stt.av nvc at b0
  have la1 : (1 : Int) ≤ ((1 :: a).length : Int) := by simp; omega
  simp (maxSteps := 1000000) (disch := omega) only [go_sem, Nat.reduceEqDiff, Nat.reduceLT, Nat.reduceAdd, Nat.reduceSub, Nat.reduceMul, Nat.reduceBEq, Int.reduceLT, Int.reduceAdd, Int.reduceMul, Int.reduceSub, Int.reduceToNat, Int.reduceLE, Int.reduceEq, ↓reduceIte, reduceCtorEq, Int.reduceNeg, Nat.reduceLeDiff]
  first | refine callB_intro (gI) ?_ | refine callD_intro (gI) ?_ | refine callP_intro (fun _ => (gI)) ?_ | refine callX_pure (gI) ?_
  simp (maxSteps := 1000000) (disch := omega) only [go_sem, Nat.reduceEqDiff, Nat.reduceLT, Nat.reduceAdd, Nat.reduceSub, Nat.reduceMul, Nat.reduceBEq, Int.reduceLT, Int.reduceAdd, Int.reduceMul, Int.reduceSub, Int.reduceToNat, Int.reduceLE, Int.reduceEq, ↓reduceIte, reduceCtorEq, Int.reduceNeg, Nat.reduceLeDiff,  b0, bl0]
  refine ⟨by omega, ?_⟩
  rw [Nat.add_sub_cancel]
  first | refine callB_intro (gJ) ?_ | refine callD_intro (gJ) ?_ | refine callP_intro (fun _ => (gJ)) ?_ | refine callX_pure (gJ) ?_
  simp (maxSteps := 1000000) (disch := omega) only [go_sem, Nat.reduceEqDiff, Nat.reduceLT, Nat.reduceAdd, Nat.reduceSub, Nat.reduceMul, Nat.reduceBEq, Int.reduceLT, Int.reduceAdd, Int.reduceMul, Int.reduceSub, Int.reduceToNat, Int.reduceLE, Int.reduceEq, ↓reduceIte, reduceCtorEq, Int.reduceNeg, Nat.reduceLeDiff]
  exact fin_ext (by simp) hy (by simp (maxSteps := 1000000) (disch := omega) only [resVal, resAll, resOne, rs5, Env.get, go_sem, Nat.reduceEqDiff, Nat.reduceLT, Nat.reduceAdd, Nat.reduceSub, Nat.reduceMul, Nat.reduceBEq, Int.reduceLT, Int.reduceAdd, Int.reduceMul, Int.reduceSub, Int.reduceToNat, Int.reduceLE, Int.reduceEq, ↓reduceIte, reduceCtorEq, Int.reduceNeg, Nat.reduceLeDiff]) (by simp only [AV.und, AV.unds, and_self])
end Go.Proofs.Ytjibcbfdfambeaa.Ah
