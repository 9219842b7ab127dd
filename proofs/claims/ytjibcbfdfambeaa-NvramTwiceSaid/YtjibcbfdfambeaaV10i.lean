/- V10i: a part of the proof: contracts of functions, or plain laws. Conditions: none. -/
import Derived.Test.YtjibcbfdfambeaaV10h
namespace Go.Proofs.Ytjibcbfdfambeaa.Ah
open Go Go.WideShapes
attribute [local irreducible] acs aopsK drawK leave condK bindR bindD bindX guardK guardD callB callD callX callP callPv
attribute [local go_sem] acs_nil acs_blk acs_skip acs_reg acs_dreg acs_freg acs_nam0 acs_nam nones acs_seq acs_cond acs_block acs_exit acs_ret acs_kl acs_loop leave_nil leave_code leave_lp leave_blk aopsK_nil aopsK_cons aopsK_guard bindR_val bindR_need bindR_br bindR_call bindR_bad drawK_nil drawK_cons drawK_ext drawK_pur drawK_guard callPv_fn drawK_purv bindD_val bindD_need bindD_br bindD_call bindD_bad bindX_val bindX_need bindX_br bindX_call guardD_bool guardD_tup grows grows0 List.append_cancel_left_eq List.cons.injEq exists_eq' exists_eq condK_bool guardK_bool guardK_tup sor r0 r1 r2 r3 rC rB rI rP rA rT rS rF rSl rO rbin rcut run1 Env.evals Env.eval Env.get Env.put Env.ins Env.del Env.dels argEnv AV.full AV.cells AV.cell eqCells decide_true decide_false decide_eq_true_eq decide_eq_false_iff_not Bool.not_eq_true' Bool.not_eq_false' true_and and_true false_implies true_implies forall_const Bool.not_true Bool.not_false Bool.false_eq_true Bool.true_eq_false List.getElem?_cons_zero List.getElem?_cons_succ List.length_cons List.length_nil List.length_append List.all_cons List.all_nil Bool.and_true Bool.and_self implies_true List.append_assoc List.cons_append List.nil_append List.append_nil i64_in imin_eq imax_eq cast3 cast0 cast1 cast2 Option.map_none ite_self and_false false_and Option.isSome_some or_true true_or Int.sub_zero Int.mul_one Nat.sub_zero Nat.zero_le Int.cast_ofNat_Int Int.natCast_nonneg Int.toNat_natCast ne_eq not_false_eq_true not_true_eq_false strC blkAt_app blkAt_app0 blkAt_zero blkAt_succ List.set_cons_zero List.set_cons_succ set_app set_app0 Option.map_some Option.bind_some rd setCells lay rdS szOk rapp ownAt lenAt Option.any_some Option.getD_some List.drop_zero List.drop_succ_cons List.take_succ_cons List.take_zero List.drop_nil List.take_nil Nat.lt_irrefl Nat.zero_add Nat.add_zero Nat.mul_one Nat.one_mul Nat.add_assoc Option.some.injEq eq_self
set_option maxHeartbeats 4000000
set_option linter.unusedSimpArgs false
set_option linter.unusedVariables false
/-! Contracts: what a crash leaves. -/
theorem f16_big_n {ws vs us : List Int} {p0 o0 p1 o1 q oq : Nat} {k0 k1 kq : Option Nat} {c0 c1 done : Int} {H : Heap} (h0 : Sl i64 H p0 o0 ws) (h1 : Sl i64 H p1 o1 vs) (hu : Sl i64 H q oq us) (l0 : ws.length ≤ 1000) (l1 : vs.length ≤ 1000) (lu : us.length ≤ 1000) (hw : nw ws c0 vs c1 = -1) (hb : 600 < us.length) :
    ACall Try.prog 16 [.agg (nvc p0 o0 ws.length k0 c0 p1 o1 vs.length k1 c1), .sl q oq us.length 1 kq, .int .i64 done] H (.tup [.agg (nvc p0 o0 ws.length k0 c0 p1 o1 vs.length k1 c1), .int .i64 5]) H := by
  refine acall16 (by simp) (acs_start ?_)
  have g := fun G => f12_none (k0 := k0) (k1 := k1) (h0.app G) (h1.app G) (by omega) (by omega) hw
  have b1 : (600 : Int) < (us.length : Int) := by omega
  unfold nvc at *
  unfold c16
  simp (maxSteps := 1000000) (disch := omega) only [go_sem, Nat.reduceEqDiff, Nat.reduceLT, Nat.reduceAdd, Nat.reduceSub, Nat.reduceMul, Nat.reduceBEq, Int.reduceLT, Int.reduceAdd, Int.reduceMul, Int.reduceSub, Int.reduceToNat, Int.reduceLE, Int.reduceEq, ↓reduceIte, reduceCtorEq, Int.reduceNeg, Nat.reduceLeDiff]
  first | refine callB_intro (g _) ?_ | refine callD_intro (g _) ?_ | refine callP_intro (fun _ => (g _)) ?_ | refine callX_pure (g _) ?_
  simp (maxSteps := 1000000) (disch := omega) only [go_sem, Nat.reduceEqDiff, Nat.reduceLT, Nat.reduceAdd, Nat.reduceSub, Nat.reduceMul, Nat.reduceBEq, Int.reduceLT, Int.reduceAdd, Int.reduceMul, Int.reduceSub, Int.reduceToNat, Int.reduceLE, Int.reduceEq, ↓reduceIte, reduceCtorEq, Int.reduceNeg, Nat.reduceLeDiff,  b1]
  exact fin_same (by simp) _ (by first | exact (List.append_nil _).symm | rfl) (by simp (maxSteps := 1000000) (disch := omega) only [resVal, resAll, resOne, rs16, Env.get, go_sem, Nat.reduceEqDiff, Nat.reduceLT, Nat.reduceAdd, Nat.reduceSub, Nat.reduceMul, Nat.reduceBEq, Int.reduceLT, Int.reduceAdd, Int.reduceMul, Int.reduceSub, Int.reduceToNat, Int.reduceLE, Int.reduceEq, ↓reduceIte, reduceCtorEq, Int.reduceNeg, Nat.reduceLeDiff, Nat.le_refl]) (by simp only [AV.und, AV.unds]; exact ⟨⟨h0.lt, trivial, h1.lt, trivial, trivial⟩, trivial, trivial⟩)
theorem f16_full_n {ws vs us : List Int} {p0 o0 p1 o1 q oq : Nat} {k0 k1 kq : Option Nat} {c0 c1 done : Int} {H : Heap} (h0 : Sl i64 H p0 o0 ws) (h1 : Sl i64 H p1 o1 vs) (hu : Sl i64 H q oq us) (l0 : ws.length ≤ 1000) (l1 : vs.length ≤ 1000) (lu : us.length ≤ 1000) (hw : nw ws c0 vs c1 = -1) (hb : us.length ≤ 600) (hd : (us.length : Int) + 3 ≤ done) :
    ACall Try.prog 16 [.agg (nvc p0 o0 ws.length k0 c0 p1 o1 vs.length k1 c1), .sl q oq us.length 1 kq, .int .i64 done] H (.tup [.agg (nvc H.length 0 (us.length + 1) none (com (1 :: us)) p1 o1 vs.length k1 c1), .int .i64 0]) (H ++ [some ⟨(1 :: us).map i64, true⟩]) := by
  refine acall16 (by simp) (acs_start ?_)
  have g := fun G => f12_none (k0 := k0) (k1 := k1) (h0.app G) (h1.app G) (by omega) (by omega) hw
  have g2 := fun G => f25 (k0 := k0) (k1 := k1) (c0 := c0) (c1 := c1) (h0.app G) (h1.app G) (by omega) (by omega)
  have b1 : ¬ (600 : Int) < (us.length : Int) := by omega
  have gS := fun H => @f17 us.length q oq kq H (by omega)
  rw [hw] at g2
  have e0 : imax (-1) (-1) = -1 := by decide
  have gC := fun G r c3 pl (h : blkAt (H ++ G) pl = some ⟨([1] : List Int).map i64, true⟩) => f27 (xs := [1]) (ys := us) (p := pl) (off := 0) (c1 := some 1) (c2 := kq) (c3 := c3) (r := r) (o := true) (H := H ++ G) (Sl.whole h) (hu.app G)
  have gM := fun G pl c (h : blkAt (H ++ G) pl = some ⟨(1 :: us).map i64, true⟩) => f19 (cp := c) (ws := 1 :: us) (Sl.whole h) (by simp; omega)
  have m1 : ([1] : List Int).map i64 = [.int .i64 1] := rfl
  have ml : (1 :: us).length = us.length + 1 := rfl
  have m2 : [1] ++ us = 1 :: us := rfl
  simp only [m1, m2, List.length_cons, List.length_nil, Nat.zero_add, Nat.reduceAdd] at gC
  simp only [ml] at gM
  generalize hcc : com (1 :: us) = cc at *
  generalize hall : (1 :: us).map i64 = AL at *
  have hu0 : ∀ n, AV.unds n AL := fun n => by rw [← hall]; exact i64_und _
  have hALl : AL.length = us.length + 1 := by rw [← hall]; simp
  have nle : us.length + 1 ≤ 2000 := by omega
  have d1 : (us.length : Int) + 3 ≤ done := hd
  unfold nvc at *
  unfold c16
  simp (maxSteps := 1000000) (disch := omega) only [go_sem, Nat.reduceEqDiff, Nat.reduceLT, Nat.reduceAdd, Nat.reduceSub, Nat.reduceMul, Nat.reduceBEq, Int.reduceLT, Int.reduceAdd, Int.reduceMul, Int.reduceSub, Int.reduceToNat, Int.reduceLE, Int.reduceEq, ↓reduceIte, reduceCtorEq, Int.reduceNeg, Nat.reduceLeDiff]
  first | refine callB_intro (g _) ?_ | refine callD_intro (g _) ?_ | refine callP_intro (fun _ => (g _)) ?_ | refine callX_pure (g _) ?_
  simp (maxSteps := 1000000) (disch := omega) only [go_sem, Nat.reduceEqDiff, Nat.reduceLT, Nat.reduceAdd, Nat.reduceSub, Nat.reduceMul, Nat.reduceBEq, Int.reduceLT, Int.reduceAdd, Int.reduceMul, Int.reduceSub, Int.reduceToNat, Int.reduceLE, Int.reduceEq, ↓reduceIte, reduceCtorEq, Int.reduceNeg, Nat.reduceLeDiff,  e0, b1]
  first | refine callB_intro (g2 _) ?_ | refine callD_intro (g2 _) ?_ | refine callP_intro (fun _ => (g2 _)) ?_ | refine callX_pure (g2 _) ?_
  simp (maxSteps := 1000000) (disch := omega) only [go_sem, Nat.reduceEqDiff, Nat.reduceLT, Nat.reduceAdd, Nat.reduceSub, Nat.reduceMul, Nat.reduceBEq, Int.reduceLT, Int.reduceAdd, Int.reduceMul, Int.reduceSub, Int.reduceToNat, Int.reduceLE, Int.reduceEq, ↓reduceIte, reduceCtorEq, Int.reduceNeg, Nat.reduceLeDiff,  e0, b1]
  refine callB_intro (gC _ _ _ (H.length + 2) (by simp only [go_sem, Nat.reduceEqDiff, Nat.reduceLT, Nat.reduceAdd, Nat.reduceSub, Nat.reduceMul, Nat.reduceBEq, Int.reduceLT, Int.reduceAdd, Int.reduceMul, Int.reduceSub, Int.reduceToNat, Int.reduceLE, Int.reduceEq, ↓reduceIte, reduceCtorEq, Int.reduceNeg, Nat.reduceLeDiff]) (by simp only [go_sem, Nat.reduceEqDiff, Nat.reduceLT, Nat.reduceAdd, Nat.reduceSub, Nat.reduceMul, Nat.reduceBEq, Int.reduceLT, Int.reduceAdd, Int.reduceMul, Int.reduceSub, Int.reduceToNat, Int.reduceLE, Int.reduceEq, ↓reduceIte, reduceCtorEq, Int.reduceNeg, Nat.reduceLeDiff]) (by omega) (by omega) (by omega)) ?_
  simp (maxSteps := 1000000) (disch := omega) only [go_sem, Nat.reduceEqDiff, Nat.reduceLT, Nat.reduceAdd, Nat.reduceSub, Nat.reduceMul, Nat.reduceBEq, Int.reduceLT, Int.reduceAdd, Int.reduceMul, Int.reduceSub, Int.reduceToNat, Int.reduceLE, Int.reduceEq, ↓reduceIte, reduceCtorEq, Int.reduceNeg, Nat.reduceLeDiff,  Nat.add_comm 1 us.length]
  first | refine callB_intro (gS _) ?_ | refine callD_intro (gS _) ?_ | refine callP_intro (fun _ => (gS _)) ?_ | refine callX_pure (gS _) ?_
  simp (maxSteps := 1000000) (disch := omega) only [go_sem, Nat.reduceEqDiff, Nat.reduceLT, Nat.reduceAdd, Nat.reduceSub, Nat.reduceMul, Nat.reduceBEq, Int.reduceLT, Int.reduceAdd, Int.reduceMul, Int.reduceSub, Int.reduceToNat, Int.reduceLE, Int.reduceEq, ↓reduceIte, reduceCtorEq, Int.reduceNeg, Nat.reduceLeDiff,  d1]
  refine callB_intro (gM _ _ _ (by simp only [go_sem, Nat.reduceEqDiff, Nat.reduceLT, Nat.reduceAdd, Nat.reduceSub, Nat.reduceMul, Nat.reduceBEq, Int.reduceLT, Int.reduceAdd, Int.reduceMul, Int.reduceSub, Int.reduceToNat, Int.reduceLE, Int.reduceEq, ↓reduceIte, reduceCtorEq, Int.reduceNeg, Nat.reduceLeDiff])) ?_
  simp (maxSteps := 1000000) (disch := omega) only [go_sem, Nat.reduceEqDiff, Nat.reduceLT, Nat.reduceAdd, Nat.reduceSub, Nat.reduceMul, Nat.reduceBEq, Int.reduceLT, Int.reduceAdd, Int.reduceMul, Int.reduceSub, Int.reduceToNat, Int.reduceLE, Int.reduceEq, ↓reduceIte, reduceCtorEq, Int.reduceNeg, Nat.reduceLeDiff,  d1]
  exact fin_one _ 4 _ (by simp) rfl rfl (hu0 _) (by simp (disch := omega) only [resVal, resAll, resOne, rs16, Env.get, go_sem, Nat.reduceEqDiff, Nat.reduceLT, Nat.reduceAdd, Nat.reduceSub, Nat.reduceMul, Nat.reduceBEq, Int.reduceLT, Int.reduceAdd, Int.reduceMul, Int.reduceSub, Int.reduceToNat, Int.reduceLE, Int.reduceEq, ↓reduceIte, reduceCtorEq, Int.reduceNeg, Nat.reduceLeDiff]; rfl) (by simp [AV.ren, AV.rens, h0.lt, h1.lt]) (by have q0 := h0.lt; have q1 := h1.lt; simp [AV.und, AV.unds]; omega)
theorem f16_part_n {ws vs us : List Int} {p0 o0 p1 o1 q oq : Nat} {k0 k1 kq : Option Nat} {c0 c1 done : Int} {H : Heap} (h0 : Sl i64 H p0 o0 ws) (h1 : Sl i64 H p1 o1 vs) (hu : Sl i64 H q oq us) (l0 : ws.length ≤ 1000) (l1 : vs.length ≤ 1000) (lu : us.length ≤ 1000) (hw : nw ws c0 vs c1 = -1) (hb : us.length ≤ 600) {d : Nat} (hde : done = (d : Int) + 1) (hd1 : 1 ≤ d) (hd2 : d ≤ us.length + 1) :
    ACall Try.prog 16 [.agg (nvc p0 o0 ws.length k0 c0 p1 o1 vs.length k1 c1), .sl q oq us.length 1 kq, .int .i64 done] H (.tup [.agg (nvc H.length 0 d (some d) 0 p1 o1 vs.length k1 c1), .int .i64 0]) (H ++ [some ⟨(1 :: us).map i64, true⟩]) := by
  refine acall16 (by simp) (acs_start ?_)
  subst hde
  have g := fun G => f12_none (k0 := k0) (k1 := k1) (h0.app G) (h1.app G) (by omega) (by omega) hw
  have g2 := fun G => f25 (k0 := k0) (k1 := k1) (c0 := c0) (c1 := c1) (h0.app G) (h1.app G) (by omega) (by omega)
  have b1 : ¬ (600 : Int) < (us.length : Int) := by omega
  have gS := fun H => @f17 us.length q oq kq H (by omega)
  rw [hw] at g2
  have e0 : imax (-1) (-1) = -1 := by decide
  have gC := fun G r c3 pl (h : blkAt (H ++ G) pl = some ⟨([1] : List Int).map i64, true⟩) => f27 (xs := [1]) (ys := us) (p := pl) (off := 0) (c1 := some 1) (c2 := kq) (c3 := c3) (r := r) (o := true) (H := H ++ G) (Sl.whole h) (hu.app G)
  have gM := fun G pl c (h : blkAt (H ++ G) pl = some ⟨(1 :: us).map i64, true⟩) => f19 (cp := c) (ws := 1 :: us) (Sl.whole h) (by simp; omega)
  have m1 : ([1] : List Int).map i64 = [.int .i64 1] := rfl
  have ml : (1 :: us).length = us.length + 1 := rfl
  have m2 : [1] ++ us = 1 :: us := rfl
  simp only [m1, m2, List.length_cons, List.length_nil, Nat.zero_add, Nat.reduceAdd] at gC
  simp only [ml] at gM
  generalize hcc : com (1 :: us) = cc at *
  generalize hall : (1 :: us).map i64 = AL at *
  have hu0 : ∀ n, AV.unds n AL := fun n => by rw [← hall]; exact i64_und _
  have hALl : AL.length = us.length + 1 := by rw [← hall]; simp
  have nle : us.length + 1 ≤ 2000 := by omega
  have d1 : ¬ (us.length : Int) + 3 ≤ (d : Int) + 1 := by omega
  have d2 : (1 : Int) < (d : Int) + 1 := by omega
  have d3 : (d : Int) + 1 - 1 = (d : Int) := by omega
  have d4 : (d : Int) ≤ (us.length : Int) + 1 := by omega
  have d5 : ((us.length + 1 : Nat) : Int) = (us.length : Int) + 1 := by omega
  unfold nvc at *
  unfold c16
  simp (maxSteps := 1000000) (disch := omega) only [go_sem, Nat.reduceEqDiff, Nat.reduceLT, Nat.reduceAdd, Nat.reduceSub, Nat.reduceMul, Nat.reduceBEq, Int.reduceLT, Int.reduceAdd, Int.reduceMul, Int.reduceSub, Int.reduceToNat, Int.reduceLE, Int.reduceEq, ↓reduceIte, reduceCtorEq, Int.reduceNeg, Nat.reduceLeDiff]
  first | refine callB_intro (g _) ?_ | refine callD_intro (g _) ?_ | refine callP_intro (fun _ => (g _)) ?_ | refine callX_pure (g _) ?_
  simp (maxSteps := 1000000) (disch := omega) only [go_sem, Nat.reduceEqDiff, Nat.reduceLT, Nat.reduceAdd, Nat.reduceSub, Nat.reduceMul, Nat.reduceBEq, Int.reduceLT, Int.reduceAdd, Int.reduceMul, Int.reduceSub, Int.reduceToNat, Int.reduceLE, Int.reduceEq, ↓reduceIte, reduceCtorEq, Int.reduceNeg, Nat.reduceLeDiff,  e0, b1]
  first | refine callB_intro (g2 _) ?_ | refine callD_intro (g2 _) ?_ | refine callP_intro (fun _ => (g2 _)) ?_ | refine callX_pure (g2 _) ?_
  simp (maxSteps := 1000000) (disch := omega) only [go_sem, Nat.reduceEqDiff, Nat.reduceLT, Nat.reduceAdd, Nat.reduceSub, Nat.reduceMul, Nat.reduceBEq, Int.reduceLT, Int.reduceAdd, Int.reduceMul, Int.reduceSub, Int.reduceToNat, Int.reduceLE, Int.reduceEq, ↓reduceIte, reduceCtorEq, Int.reduceNeg, Nat.reduceLeDiff,  e0, b1]
  refine callB_intro (gC _ _ _ (H.length + 2) (by simp only [go_sem, Nat.reduceEqDiff, Nat.reduceLT, Nat.reduceAdd, Nat.reduceSub, Nat.reduceMul, Nat.reduceBEq, Int.reduceLT, Int.reduceAdd, Int.reduceMul, Int.reduceSub, Int.reduceToNat, Int.reduceLE, Int.reduceEq, ↓reduceIte, reduceCtorEq, Int.reduceNeg, Nat.reduceLeDiff]) (by simp only [go_sem, Nat.reduceEqDiff, Nat.reduceLT, Nat.reduceAdd, Nat.reduceSub, Nat.reduceMul, Nat.reduceBEq, Int.reduceLT, Int.reduceAdd, Int.reduceMul, Int.reduceSub, Int.reduceToNat, Int.reduceLE, Int.reduceEq, ↓reduceIte, reduceCtorEq, Int.reduceNeg, Nat.reduceLeDiff]) (by omega) (by omega) (by omega)) ?_
  simp (maxSteps := 1000000) (disch := omega) only [go_sem, Nat.reduceEqDiff, Nat.reduceLT, Nat.reduceAdd, Nat.reduceSub, Nat.reduceMul, Nat.reduceBEq, Int.reduceLT, Int.reduceAdd, Int.reduceMul, Int.reduceSub, Int.reduceToNat, Int.reduceLE, Int.reduceEq, ↓reduceIte, reduceCtorEq, Int.reduceNeg, Nat.reduceLeDiff,  Nat.add_comm 1 us.length]
  first | refine callB_intro (gS _) ?_ | refine callD_intro (gS _) ?_ | refine callP_intro (fun _ => (gS _)) ?_ | refine callX_pure (gS _) ?_
  simp (maxSteps := 1000000) (disch := omega) only [go_sem, Nat.reduceEqDiff, Nat.reduceLT, Nat.reduceAdd, Nat.reduceSub, Nat.reduceMul, Nat.reduceBEq, Int.reduceLT, Int.reduceAdd, Int.reduceMul, Int.reduceSub, Int.reduceToNat, Int.reduceLE, Int.reduceEq, ↓reduceIte, reduceCtorEq, Int.reduceNeg, Nat.reduceLeDiff,  d1, d2, d3, d4, d5, Nat.sub_zero, Int.le_refl]
  exact fin_one _ 4 _ (by simp) rfl rfl (hu0 _) (by simp (disch := omega) only [resVal, resAll, resOne, rs16, Env.get, go_sem, Nat.reduceEqDiff, Nat.reduceLT, Nat.reduceAdd, Nat.reduceSub, Nat.reduceMul, Nat.reduceBEq, Int.reduceLT, Int.reduceAdd, Int.reduceMul, Int.reduceSub, Int.reduceToNat, Int.reduceLE, Int.reduceEq, ↓reduceIte, reduceCtorEq, Int.reduceNeg, Nat.reduceLeDiff]; rfl) (by simp [AV.ren, AV.rens, h0.lt, h1.lt]) (by have q0 := h0.lt; have q1 := h1.lt; simp [AV.und, AV.unds]; omega)
theorem f16_one_n {ws vs us : List Int} {p0 o0 p1 o1 q oq : Nat} {k0 k1 kq : Option Nat} {c0 c1 done : Int} {H : Heap} (h0 : Sl i64 H p0 o0 ws) (h1 : Sl i64 H p1 o1 vs) (hu : Sl i64 H q oq us) (l0 : ws.length ≤ 1000) (l1 : vs.length ≤ 1000) (lu : us.length ≤ 1000) (hw : nw ws c0 vs c1 = -1) (hb : us.length ≤ 600) (hd : done = 1) :
    ACall Try.prog 16 [.agg (nvc p0 o0 ws.length k0 c0 p1 o1 vs.length k1 c1), .sl q oq us.length 1 kq, .int .i64 done] H (.tup [.agg (nvc p0 o0 ws.length k0 0 p1 o1 vs.length k1 c1), .int .i64 0]) (H ++ [some ⟨(1 :: us).map i64, true⟩]) := by
  refine acall16 (by simp) (acs_start ?_)
  subst hd
  have g := fun G => f12_none (k0 := k0) (k1 := k1) (h0.app G) (h1.app G) (by omega) (by omega) hw
  have g2 := fun G => f25 (k0 := k0) (k1 := k1) (c0 := c0) (c1 := c1) (h0.app G) (h1.app G) (by omega) (by omega)
  have b1 : ¬ (600 : Int) < (us.length : Int) := by omega
  have gS := fun H => @f17 us.length q oq kq H (by omega)
  rw [hw] at g2
  have e0 : imax (-1) (-1) = -1 := by decide
  have gC := fun G r c3 pl (h : blkAt (H ++ G) pl = some ⟨([1] : List Int).map i64, true⟩) => f27 (xs := [1]) (ys := us) (p := pl) (off := 0) (c1 := some 1) (c2 := kq) (c3 := c3) (r := r) (o := true) (H := H ++ G) (Sl.whole h) (hu.app G)
  have gM := fun G pl c (h : blkAt (H ++ G) pl = some ⟨(1 :: us).map i64, true⟩) => f19 (cp := c) (ws := 1 :: us) (Sl.whole h) (by simp; omega)
  have m1 : ([1] : List Int).map i64 = [.int .i64 1] := rfl
  have ml : (1 :: us).length = us.length + 1 := rfl
  have m2 : [1] ++ us = 1 :: us := rfl
  simp only [m1, m2, List.length_cons, List.length_nil, Nat.zero_add, Nat.reduceAdd] at gC
  simp only [ml] at gM
  generalize hcc : com (1 :: us) = cc at *
  generalize hall : (1 :: us).map i64 = AL at *
  have hu0 : ∀ n, AV.unds n AL := fun n => by rw [← hall]; exact i64_und _
  have hALl : AL.length = us.length + 1 := by rw [← hall]; simp
  have nle : us.length + 1 ≤ 2000 := by omega
  have d1 : ¬ (us.length : Int) + 3 ≤ 1 := by omega
  unfold nvc at *
  unfold c16
  simp (maxSteps := 1000000) (disch := omega) only [go_sem, Nat.reduceEqDiff, Nat.reduceLT, Nat.reduceAdd, Nat.reduceSub, Nat.reduceMul, Nat.reduceBEq, Int.reduceLT, Int.reduceAdd, Int.reduceMul, Int.reduceSub, Int.reduceToNat, Int.reduceLE, Int.reduceEq, ↓reduceIte, reduceCtorEq, Int.reduceNeg, Nat.reduceLeDiff]
  first | refine callB_intro (g _) ?_ | refine callD_intro (g _) ?_ | refine callP_intro (fun _ => (g _)) ?_ | refine callX_pure (g _) ?_
  simp (maxSteps := 1000000) (disch := omega) only [go_sem, Nat.reduceEqDiff, Nat.reduceLT, Nat.reduceAdd, Nat.reduceSub, Nat.reduceMul, Nat.reduceBEq, Int.reduceLT, Int.reduceAdd, Int.reduceMul, Int.reduceSub, Int.reduceToNat, Int.reduceLE, Int.reduceEq, ↓reduceIte, reduceCtorEq, Int.reduceNeg, Nat.reduceLeDiff,  e0, b1]
  first | refine callB_intro (g2 _) ?_ | refine callD_intro (g2 _) ?_ | refine callP_intro (fun _ => (g2 _)) ?_ | refine callX_pure (g2 _) ?_
  simp (maxSteps := 1000000) (disch := omega) only [go_sem, Nat.reduceEqDiff, Nat.reduceLT, Nat.reduceAdd, Nat.reduceSub, Nat.reduceMul, Nat.reduceBEq, Int.reduceLT, Int.reduceAdd, Int.reduceMul, Int.reduceSub, Int.reduceToNat, Int.reduceLE, Int.reduceEq, ↓reduceIte, reduceCtorEq, Int.reduceNeg, Nat.reduceLeDiff,  e0, b1]
  refine callB_intro (gC _ _ _ (H.length + 2) (by simp only [go_sem, Nat.reduceEqDiff, Nat.reduceLT, Nat.reduceAdd, Nat.reduceSub, Nat.reduceMul, Nat.reduceBEq, Int.reduceLT, Int.reduceAdd, Int.reduceMul, Int.reduceSub, Int.reduceToNat, Int.reduceLE, Int.reduceEq, ↓reduceIte, reduceCtorEq, Int.reduceNeg, Nat.reduceLeDiff]) (by simp only [go_sem, Nat.reduceEqDiff, Nat.reduceLT, Nat.reduceAdd, Nat.reduceSub, Nat.reduceMul, Nat.reduceBEq, Int.reduceLT, Int.reduceAdd, Int.reduceMul, Int.reduceSub, Int.reduceToNat, Int.reduceLE, Int.reduceEq, ↓reduceIte, reduceCtorEq, Int.reduceNeg, Nat.reduceLeDiff]) (by omega) (by omega) (by omega)) ?_
  simp (maxSteps := 1000000) (disch := omega) only [go_sem, Nat.reduceEqDiff, Nat.reduceLT, Nat.reduceAdd, Nat.reduceSub, Nat.reduceMul, Nat.reduceBEq, Int.reduceLT, Int.reduceAdd, Int.reduceMul, Int.reduceSub, Int.reduceToNat, Int.reduceLE, Int.reduceEq, ↓reduceIte, reduceCtorEq, Int.reduceNeg, Nat.reduceLeDiff,  Nat.add_comm 1 us.length]
  first | refine callB_intro (gS _) ?_ | refine callD_intro (gS _) ?_ | refine callP_intro (fun _ => (gS _)) ?_ | refine callX_pure (gS _) ?_
  simp (maxSteps := 1000000) (disch := omega) only [go_sem, Nat.reduceEqDiff, Nat.reduceLT, Nat.reduceAdd, Nat.reduceSub, Nat.reduceMul, Nat.reduceBEq, Int.reduceLT, Int.reduceAdd, Int.reduceMul, Int.reduceSub, Int.reduceToNat, Int.reduceLE, Int.reduceEq, ↓reduceIte, reduceCtorEq, Int.reduceNeg, Nat.reduceLeDiff,  d1]
  exact fin_one _ 4 _ (by simp) rfl rfl (hu0 _) (by simp (disch := omega) only [resVal, resAll, resOne, rs16, Env.get, go_sem, Nat.reduceEqDiff, Nat.reduceLT, Nat.reduceAdd, Nat.reduceSub, Nat.reduceMul, Nat.reduceBEq, Int.reduceLT, Int.reduceAdd, Int.reduceMul, Int.reduceSub, Int.reduceToNat, Int.reduceLE, Int.reduceEq, ↓reduceIte, reduceCtorEq, Int.reduceNeg, Nat.reduceLeDiff]; rfl) (by simp [AV.ren, AV.rens, h0.lt, h1.lt]) (by have q0 := h0.lt; have q1 := h1.lt; simp [AV.und, AV.unds]; omega)
theorem f16_zero_n {ws vs us : List Int} {p0 o0 p1 o1 q oq : Nat} {k0 k1 kq : Option Nat} {c0 c1 done : Int} {H : Heap} (h0 : Sl i64 H p0 o0 ws) (h1 : Sl i64 H p1 o1 vs) (hu : Sl i64 H q oq us) (l0 : ws.length ≤ 1000) (l1 : vs.length ≤ 1000) (lu : us.length ≤ 1000) (hw : nw ws c0 vs c1 = -1) (hb : us.length ≤ 600) (hd : done ≤ 0) :
    ACall Try.prog 16 [.agg (nvc p0 o0 ws.length k0 c0 p1 o1 vs.length k1 c1), .sl q oq us.length 1 kq, .int .i64 done] H (.tup [.agg (nvc p0 o0 ws.length k0 c0 p1 o1 vs.length k1 c1), .int .i64 0]) (H ++ [some ⟨(1 :: us).map i64, true⟩]) := by
  refine acall16 (by simp) (acs_start ?_)
  have g := fun G => f12_none (k0 := k0) (k1 := k1) (h0.app G) (h1.app G) (by omega) (by omega) hw
  have g2 := fun G => f25 (k0 := k0) (k1 := k1) (c0 := c0) (c1 := c1) (h0.app G) (h1.app G) (by omega) (by omega)
  have b1 : ¬ (600 : Int) < (us.length : Int) := by omega
  have gS := fun H => @f17 us.length q oq kq H (by omega)
  rw [hw] at g2
  have e0 : imax (-1) (-1) = -1 := by decide
  have gC := fun G r c3 pl (h : blkAt (H ++ G) pl = some ⟨([1] : List Int).map i64, true⟩) => f27 (xs := [1]) (ys := us) (p := pl) (off := 0) (c1 := some 1) (c2 := kq) (c3 := c3) (r := r) (o := true) (H := H ++ G) (Sl.whole h) (hu.app G)
  have gM := fun G pl c (h : blkAt (H ++ G) pl = some ⟨(1 :: us).map i64, true⟩) => f19 (cp := c) (ws := 1 :: us) (Sl.whole h) (by simp; omega)
  have m1 : ([1] : List Int).map i64 = [.int .i64 1] := rfl
  have ml : (1 :: us).length = us.length + 1 := rfl
  have m2 : [1] ++ us = 1 :: us := rfl
  simp only [m1, m2, List.length_cons, List.length_nil, Nat.zero_add, Nat.reduceAdd] at gC
  simp only [ml] at gM
  generalize hcc : com (1 :: us) = cc at *
  generalize hall : (1 :: us).map i64 = AL at *
  have hu0 : ∀ n, AV.unds n AL := fun n => by rw [← hall]; exact i64_und _
  have hALl : AL.length = us.length + 1 := by rw [← hall]; simp
  have nle : us.length + 1 ≤ 2000 := by omega
  have d1 : ¬ (us.length : Int) + 3 ≤ done := by omega
  have d2 : ¬ (1 : Int) < done := by omega
  have d3 : ¬ done = 1 := by omega
  unfold nvc at *
  unfold c16
  simp (maxSteps := 1000000) (disch := omega) only [go_sem, Nat.reduceEqDiff, Nat.reduceLT, Nat.reduceAdd, Nat.reduceSub, Nat.reduceMul, Nat.reduceBEq, Int.reduceLT, Int.reduceAdd, Int.reduceMul, Int.reduceSub, Int.reduceToNat, Int.reduceLE, Int.reduceEq, ↓reduceIte, reduceCtorEq, Int.reduceNeg, Nat.reduceLeDiff]
  first | refine callB_intro (g _) ?_ | refine callD_intro (g _) ?_ | refine callP_intro (fun _ => (g _)) ?_ | refine callX_pure (g _) ?_
  simp (maxSteps := 1000000) (disch := omega) only [go_sem, Nat.reduceEqDiff, Nat.reduceLT, Nat.reduceAdd, Nat.reduceSub, Nat.reduceMul, Nat.reduceBEq, Int.reduceLT, Int.reduceAdd, Int.reduceMul, Int.reduceSub, Int.reduceToNat, Int.reduceLE, Int.reduceEq, ↓reduceIte, reduceCtorEq, Int.reduceNeg, Nat.reduceLeDiff,  e0, b1]
  first | refine callB_intro (g2 _) ?_ | refine callD_intro (g2 _) ?_ | refine callP_intro (fun _ => (g2 _)) ?_ | refine callX_pure (g2 _) ?_
  simp (maxSteps := 1000000) (disch := omega) only [go_sem, Nat.reduceEqDiff, Nat.reduceLT, Nat.reduceAdd, Nat.reduceSub, Nat.reduceMul, Nat.reduceBEq, Int.reduceLT, Int.reduceAdd, Int.reduceMul, Int.reduceSub, Int.reduceToNat, Int.reduceLE, Int.reduceEq, ↓reduceIte, reduceCtorEq, Int.reduceNeg, Nat.reduceLeDiff,  e0, b1]
  refine callB_intro (gC _ _ _ (H.length + 2) (by simp only [go_sem, Nat.reduceEqDiff, Nat.reduceLT, Nat.reduceAdd, Nat.reduceSub, Nat.reduceMul, Nat.reduceBEq, Int.reduceLT, Int.reduceAdd, Int.reduceMul, Int.reduceSub, Int.reduceToNat, Int.reduceLE, Int.reduceEq, ↓reduceIte, reduceCtorEq, Int.reduceNeg, Nat.reduceLeDiff]) (by simp only [go_sem, Nat.reduceEqDiff, Nat.reduceLT, Nat.reduceAdd, Nat.reduceSub, Nat.reduceMul, Nat.reduceBEq, Int.reduceLT, Int.reduceAdd, Int.reduceMul, Int.reduceSub, Int.reduceToNat, Int.reduceLE, Int.reduceEq, ↓reduceIte, reduceCtorEq, Int.reduceNeg, Nat.reduceLeDiff]) (by omega) (by omega) (by omega)) ?_
  simp (maxSteps := 1000000) (disch := omega) only [go_sem, Nat.reduceEqDiff, Nat.reduceLT, Nat.reduceAdd, Nat.reduceSub, Nat.reduceMul, Nat.reduceBEq, Int.reduceLT, Int.reduceAdd, Int.reduceMul, Int.reduceSub, Int.reduceToNat, Int.reduceLE, Int.reduceEq, ↓reduceIte, reduceCtorEq, Int.reduceNeg, Nat.reduceLeDiff,  Nat.add_comm 1 us.length]
  first | refine callB_intro (gS _) ?_ | refine callD_intro (gS _) ?_ | refine callP_intro (fun _ => (gS _)) ?_ | refine callX_pure (gS _) ?_
  simp (maxSteps := 1000000) (disch := omega) only [go_sem, Nat.reduceEqDiff, Nat.reduceLT, Nat.reduceAdd, Nat.reduceSub, Nat.reduceMul, Nat.reduceBEq, Int.reduceLT, Int.reduceAdd, Int.reduceMul, Int.reduceSub, Int.reduceToNat, Int.reduceLE, Int.reduceEq, ↓reduceIte, reduceCtorEq, Int.reduceNeg, Nat.reduceLeDiff,  d1, d2, d3]
  exact fin_one _ 4 _ (by simp) rfl rfl (hu0 _) (by simp (disch := omega) only [resVal, resAll, resOne, rs16, Env.get, go_sem, Nat.reduceEqDiff, Nat.reduceLT, Nat.reduceAdd, Nat.reduceSub, Nat.reduceMul, Nat.reduceBEq, Int.reduceLT, Int.reduceAdd, Int.reduceMul, Int.reduceSub, Int.reduceToNat, Int.reduceLE, Int.reduceEq, ↓reduceIte, reduceCtorEq, Int.reduceNeg, Nat.reduceLeDiff]; rfl) (by simp [AV.ren, AV.rens, h0.lt, h1.lt]) (by have q0 := h0.lt; have q1 := h1.lt; simp [AV.und, AV.unds]; omega)
theorem f16_big_0 {ws vs us : List Int} {p0 o0 p1 o1 q oq : Nat} {k0 k1 kq : Option Nat} {c0 c1 done : Int} {H : Heap} (h0 : Sl i64 H p0 o0 ws) (h1 : Sl i64 H p1 o1 vs) (hu : Sl i64 H q oq us) (l0 : ws.length ≤ 1000) (l1 : vs.length ≤ 1000) (lu : us.length ≤ 1000) (hw : nw ws c0 vs c1 = 0) (hn : 0 < ws.length) (hb : 600 < us.length) :
    ACall Try.prog 16 [.agg (nvc p0 o0 ws.length k0 c0 p1 o1 vs.length k1 c1), .sl q oq us.length 1 kq, .int .i64 done] H (.tup [.agg (nvc p0 o0 ws.length k0 c0 p1 o1 vs.length k1 c1), .int .i64 5]) H := by
  refine acall16 (by simp) (acs_start ?_)
  have g := fun G => f12_0 (k0 := k0) (k1 := k1) (h0.app G) (h1.app G) (by omega) (by omega) hw hn
  have b1 : (600 : Int) < (us.length : Int) := by omega
  unfold nvc at *
  unfold c16
  simp (maxSteps := 1000000) (disch := omega) only [go_sem, Nat.reduceEqDiff, Nat.reduceLT, Nat.reduceAdd, Nat.reduceSub, Nat.reduceMul, Nat.reduceBEq, Int.reduceLT, Int.reduceAdd, Int.reduceMul, Int.reduceSub, Int.reduceToNat, Int.reduceLE, Int.reduceEq, ↓reduceIte, reduceCtorEq, Int.reduceNeg, Nat.reduceLeDiff]
  first | refine callB_intro (g _) ?_ | refine callD_intro (g _) ?_ | refine callP_intro (fun _ => (g _)) ?_ | refine callX_pure (g _) ?_
  simp (maxSteps := 1000000) (disch := omega) only [go_sem, Nat.reduceEqDiff, Nat.reduceLT, Nat.reduceAdd, Nat.reduceSub, Nat.reduceMul, Nat.reduceBEq, Int.reduceLT, Int.reduceAdd, Int.reduceMul, Int.reduceSub, Int.reduceToNat, Int.reduceLE, Int.reduceEq, ↓reduceIte, reduceCtorEq, Int.reduceNeg, Nat.reduceLeDiff,  b1]
  exact fin_same (by simp) _ (by first | exact (List.append_nil _).symm | rfl) (by simp (maxSteps := 1000000) (disch := omega) only [resVal, resAll, resOne, rs16, Env.get, go_sem, Nat.reduceEqDiff, Nat.reduceLT, Nat.reduceAdd, Nat.reduceSub, Nat.reduceMul, Nat.reduceBEq, Int.reduceLT, Int.reduceAdd, Int.reduceMul, Int.reduceSub, Int.reduceToNat, Int.reduceLE, Int.reduceEq, ↓reduceIte, reduceCtorEq, Int.reduceNeg, Nat.reduceLeDiff, Nat.le_refl]) (by simp only [AV.und, AV.unds]; exact ⟨⟨h0.lt, trivial, h1.lt, trivial, trivial⟩, trivial, trivial⟩)
theorem f16_far_0 {ws vs us : List Int} {p0 o0 p1 o1 q oq : Nat} {k0 k1 kq : Option Nat} {c0 c1 done : Int} {H : Heap} (h0 : Sl i64 H p0 o0 ws) (h1 : Sl i64 H p1 o1 vs) (hu : Sl i64 H q oq us) (l0 : ws.length ≤ 1000) (l1 : vs.length ≤ 1000) (lu : us.length ≤ 1000) (hw : nw ws c0 vs c1 = 0) (hn : 0 < ws.length) (hb : us.length ≤ 600) (hf : hd0 ws = 4611686018427387904) :
    ACall Try.prog 16 [.agg (nvc p0 o0 ws.length k0 c0 p1 o1 vs.length k1 c1), .sl q oq us.length 1 kq, .int .i64 done] H (.tup [.agg (nvc p0 o0 ws.length k0 c0 p1 o1 vs.length k1 c1), .int .i64 5]) H := by
  refine acall16 (by simp) (acs_start ?_)
  have g := fun G => f12_0 (k0 := k0) (k1 := k1) (h0.app G) (h1.app G) (by omega) (by omega) hw hn
  have b1 : ¬ (600 : Int) < (us.length : Int) := by omega
  unfold nvc at *
  unfold c16
  simp (maxSteps := 1000000) (disch := omega) only [go_sem, Nat.reduceEqDiff, Nat.reduceLT, Nat.reduceAdd, Nat.reduceSub, Nat.reduceMul, Nat.reduceBEq, Int.reduceLT, Int.reduceAdd, Int.reduceMul, Int.reduceSub, Int.reduceToNat, Int.reduceLE, Int.reduceEq, ↓reduceIte, reduceCtorEq, Int.reduceNeg, Nat.reduceLeDiff]
  first | refine callB_intro (g _) ?_ | refine callD_intro (g _) ?_ | refine callP_intro (fun _ => (g _)) ?_ | refine callX_pure (g _) ?_
  simp (maxSteps := 1000000) (disch := omega) only [go_sem, Nat.reduceEqDiff, Nat.reduceLT, Nat.reduceAdd, Nat.reduceSub, Nat.reduceMul, Nat.reduceBEq, Int.reduceLT, Int.reduceAdd, Int.reduceMul, Int.reduceSub, Int.reduceToNat, Int.reduceLE, Int.reduceEq, ↓reduceIte, reduceCtorEq, Int.reduceNeg, Nat.reduceLeDiff,  b1, hf]
  exact fin_same (by simp) _ (by first | exact (List.append_nil _).symm | rfl) (by simp (maxSteps := 1000000) (disch := omega) only [resVal, resAll, resOne, rs16, Env.get, go_sem, Nat.reduceEqDiff, Nat.reduceLT, Nat.reduceAdd, Nat.reduceSub, Nat.reduceMul, Nat.reduceBEq, Int.reduceLT, Int.reduceAdd, Int.reduceMul, Int.reduceSub, Int.reduceToNat, Int.reduceLE, Int.reduceEq, ↓reduceIte, reduceCtorEq, Int.reduceNeg, Nat.reduceLeDiff, Nat.le_refl]) (by simp only [AV.und, AV.unds]; exact ⟨⟨h0.lt, trivial, h1.lt, trivial, trivial⟩, trivial, trivial⟩)
theorem f16_full_0 {ws vs us : List Int} {p0 o0 p1 o1 q oq : Nat} {k0 k1 kq : Option Nat} {c0 c1 done : Int} {H : Heap} (h0 : Sl i64 H p0 o0 ws) (h1 : Sl i64 H p1 o1 vs) (hu : Sl i64 H q oq us) (l0 : ws.length ≤ 1000) (l1 : vs.length ≤ 1000) (lu : us.length ≤ 1000) (hw : nw ws c0 vs c1 = 0) (hn : 0 < ws.length) (hb : us.length ≤ 600) (hf : 0 ≤ hd0 ws ∧ hd0 ws < 4611686018427387904) (hd : (us.length : Int) + 3 ≤ done) :
    ACall Try.prog 16 [.agg (nvc p0 o0 ws.length k0 c0 p1 o1 vs.length k1 c1), .sl q oq us.length 1 kq, .int .i64 done] H (.tup [.agg (nvc p0 o0 ws.length k0 c0 H.length 0 (us.length + 1) none (com ((hd0 ws + 1) :: us))), .int .i64 0]) (H ++ [some ⟨((hd0 ws + 1) :: us).map i64, true⟩]) := by
  refine acall16 (by simp) (acs_start ?_)
  have g := fun G => f12_0 (k0 := k0) (k1 := k1) (h0.app G) (h1.app G) (by omega) (by omega) hw hn
  have g2 := fun G => f25 (k0 := k0) (k1 := k1) (c0 := c0) (c1 := c1) (h0.app G) (h1.app G) (by omega) (by omega)
  have b1 : ¬ (600 : Int) < (us.length : Int) := by omega
  have gS := fun H => @f17 us.length q oq kq H (by omega)
  rw [hw] at g2
  have hf2 : ¬ hd0 ws = 4611686018427387904 := by omega
  have e0 : imax 0 (-1) = 0 := by decide
  have gC := fun G r c3 pl (h : blkAt (H ++ G) pl = some ⟨([hd0 ws + 1] : List Int).map i64, true⟩) => f27 (xs := [hd0 ws + 1]) (ys := us) (p := pl) (off := 0) (c1 := some 1) (c2 := kq) (c3 := c3) (r := r) (o := true) (H := H ++ G) (Sl.whole h) (hu.app G)
  have gM := fun G pl c (h : blkAt (H ++ G) pl = some ⟨((hd0 ws + 1) :: us).map i64, true⟩) => f19 (cp := c) (ws := (hd0 ws + 1) :: us) (Sl.whole h) (by simp; omega)
  have m1 : ([hd0 ws + 1] : List Int).map i64 = [.int .i64 (hd0 ws + 1)] := rfl
  have ml : ((hd0 ws + 1) :: us).length = us.length + 1 := rfl
  have m2 : [hd0 ws + 1] ++ us = (hd0 ws + 1) :: us := rfl
  simp only [m1, m2, List.length_cons, List.length_nil, Nat.zero_add, Nat.reduceAdd] at gC
  simp only [ml] at gM
  generalize hcc : com ((hd0 ws + 1) :: us) = cc at *
  generalize hall : ((hd0 ws + 1) :: us).map i64 = AL at *
  have hu0 : ∀ n, AV.unds n AL := fun n => by rw [← hall]; exact i64_und _
  have hALl : AL.length = us.length + 1 := by rw [← hall]; simp
  generalize hd0 ws = w at *
  have nle : us.length + 1 ≤ 2000 := by omega
  have d1 : (us.length : Int) + 3 ≤ done := hd
  unfold nvc at *
  unfold c16
  simp (maxSteps := 1000000) (disch := omega) only [go_sem, Nat.reduceEqDiff, Nat.reduceLT, Nat.reduceAdd, Nat.reduceSub, Nat.reduceMul, Nat.reduceBEq, Int.reduceLT, Int.reduceAdd, Int.reduceMul, Int.reduceSub, Int.reduceToNat, Int.reduceLE, Int.reduceEq, ↓reduceIte, reduceCtorEq, Int.reduceNeg, Nat.reduceLeDiff]
  first | refine callB_intro (g _) ?_ | refine callD_intro (g _) ?_ | refine callP_intro (fun _ => (g _)) ?_ | refine callX_pure (g _) ?_
  simp (maxSteps := 1000000) (disch := omega) only [go_sem, Nat.reduceEqDiff, Nat.reduceLT, Nat.reduceAdd, Nat.reduceSub, Nat.reduceMul, Nat.reduceBEq, Int.reduceLT, Int.reduceAdd, Int.reduceMul, Int.reduceSub, Int.reduceToNat, Int.reduceLE, Int.reduceEq, ↓reduceIte, reduceCtorEq, Int.reduceNeg, Nat.reduceLeDiff,  e0, b1, hf2]
  first | refine callB_intro (g2 _) ?_ | refine callD_intro (g2 _) ?_ | refine callP_intro (fun _ => (g2 _)) ?_ | refine callX_pure (g2 _) ?_
  simp (maxSteps := 1000000) (disch := omega) only [go_sem, Nat.reduceEqDiff, Nat.reduceLT, Nat.reduceAdd, Nat.reduceSub, Nat.reduceMul, Nat.reduceBEq, Int.reduceLT, Int.reduceAdd, Int.reduceMul, Int.reduceSub, Int.reduceToNat, Int.reduceLE, Int.reduceEq, ↓reduceIte, reduceCtorEq, Int.reduceNeg, Nat.reduceLeDiff,  e0, b1, hf2]
  refine callB_intro (gC _ _ _ (H.length + 3) (by simp only [go_sem, Nat.reduceEqDiff, Nat.reduceLT, Nat.reduceAdd, Nat.reduceSub, Nat.reduceMul, Nat.reduceBEq, Int.reduceLT, Int.reduceAdd, Int.reduceMul, Int.reduceSub, Int.reduceToNat, Int.reduceLE, Int.reduceEq, ↓reduceIte, reduceCtorEq, Int.reduceNeg, Nat.reduceLeDiff]) (by simp only [go_sem, Nat.reduceEqDiff, Nat.reduceLT, Nat.reduceAdd, Nat.reduceSub, Nat.reduceMul, Nat.reduceBEq, Int.reduceLT, Int.reduceAdd, Int.reduceMul, Int.reduceSub, Int.reduceToNat, Int.reduceLE, Int.reduceEq, ↓reduceIte, reduceCtorEq, Int.reduceNeg, Nat.reduceLeDiff]) (by omega) (by omega) (by omega)) ?_
  simp (maxSteps := 1000000) (disch := omega) only [go_sem, Nat.reduceEqDiff, Nat.reduceLT, Nat.reduceAdd, Nat.reduceSub, Nat.reduceMul, Nat.reduceBEq, Int.reduceLT, Int.reduceAdd, Int.reduceMul, Int.reduceSub, Int.reduceToNat, Int.reduceLE, Int.reduceEq, ↓reduceIte, reduceCtorEq, Int.reduceNeg, Nat.reduceLeDiff,  Nat.add_comm 1 us.length]
  first | refine callB_intro (gS _) ?_ | refine callD_intro (gS _) ?_ | refine callP_intro (fun _ => (gS _)) ?_ | refine callX_pure (gS _) ?_
  simp (maxSteps := 1000000) (disch := omega) only [go_sem, Nat.reduceEqDiff, Nat.reduceLT, Nat.reduceAdd, Nat.reduceSub, Nat.reduceMul, Nat.reduceBEq, Int.reduceLT, Int.reduceAdd, Int.reduceMul, Int.reduceSub, Int.reduceToNat, Int.reduceLE, Int.reduceEq, ↓reduceIte, reduceCtorEq, Int.reduceNeg, Nat.reduceLeDiff,  d1]
  refine callB_intro (gM _ _ _ (by simp only [go_sem, Nat.reduceEqDiff, Nat.reduceLT, Nat.reduceAdd, Nat.reduceSub, Nat.reduceMul, Nat.reduceBEq, Int.reduceLT, Int.reduceAdd, Int.reduceMul, Int.reduceSub, Int.reduceToNat, Int.reduceLE, Int.reduceEq, ↓reduceIte, reduceCtorEq, Int.reduceNeg, Nat.reduceLeDiff])) ?_
  simp (maxSteps := 1000000) (disch := omega) only [go_sem, Nat.reduceEqDiff, Nat.reduceLT, Nat.reduceAdd, Nat.reduceSub, Nat.reduceMul, Nat.reduceBEq, Int.reduceLT, Int.reduceAdd, Int.reduceMul, Int.reduceSub, Int.reduceToNat, Int.reduceLE, Int.reduceEq, ↓reduceIte, reduceCtorEq, Int.reduceNeg, Nat.reduceLeDiff,  d1]
  exact fin_one _ 5 _ (by simp) rfl rfl (hu0 _) (by simp (disch := omega) only [resVal, resAll, resOne, rs16, Env.get, go_sem, Nat.reduceEqDiff, Nat.reduceLT, Nat.reduceAdd, Nat.reduceSub, Nat.reduceMul, Nat.reduceBEq, Int.reduceLT, Int.reduceAdd, Int.reduceMul, Int.reduceSub, Int.reduceToNat, Int.reduceLE, Int.reduceEq, ↓reduceIte, reduceCtorEq, Int.reduceNeg, Nat.reduceLeDiff]; rfl) (by simp [AV.ren, AV.rens, h0.lt, h1.lt]) (by have q0 := h0.lt; have q1 := h1.lt; simp [AV.und, AV.unds]; omega)
theorem f16_part_0 {ws vs us : List Int} {p0 o0 p1 o1 q oq : Nat} {k0 k1 kq : Option Nat} {c0 c1 done : Int} {H : Heap} (h0 : Sl i64 H p0 o0 ws) (h1 : Sl i64 H p1 o1 vs) (hu : Sl i64 H q oq us) (l0 : ws.length ≤ 1000) (l1 : vs.length ≤ 1000) (lu : us.length ≤ 1000) (hw : nw ws c0 vs c1 = 0) (hn : 0 < ws.length) (hb : us.length ≤ 600) (hf : 0 ≤ hd0 ws ∧ hd0 ws < 4611686018427387904) {d : Nat} (hde : done = (d : Int) + 1) (hd1 : 1 ≤ d) (hd2 : d ≤ us.length + 1) :
    ACall Try.prog 16 [.agg (nvc p0 o0 ws.length k0 c0 p1 o1 vs.length k1 c1), .sl q oq us.length 1 kq, .int .i64 done] H (.tup [.agg (nvc p0 o0 ws.length k0 c0 H.length 0 d (some d) 0), .int .i64 0]) (H ++ [some ⟨((hd0 ws + 1) :: us).map i64, true⟩]) := by
  refine acall16 (by simp) (acs_start ?_)
  subst hde
  have g := fun G => f12_0 (k0 := k0) (k1 := k1) (h0.app G) (h1.app G) (by omega) (by omega) hw hn
  have g2 := fun G => f25 (k0 := k0) (k1 := k1) (c0 := c0) (c1 := c1) (h0.app G) (h1.app G) (by omega) (by omega)
  have b1 : ¬ (600 : Int) < (us.length : Int) := by omega
  have gS := fun H => @f17 us.length q oq kq H (by omega)
  rw [hw] at g2
  have hf2 : ¬ hd0 ws = 4611686018427387904 := by omega
  have e0 : imax 0 (-1) = 0 := by decide
  have gC := fun G r c3 pl (h : blkAt (H ++ G) pl = some ⟨([hd0 ws + 1] : List Int).map i64, true⟩) => f27 (xs := [hd0 ws + 1]) (ys := us) (p := pl) (off := 0) (c1 := some 1) (c2 := kq) (c3 := c3) (r := r) (o := true) (H := H ++ G) (Sl.whole h) (hu.app G)
  have gM := fun G pl c (h : blkAt (H ++ G) pl = some ⟨((hd0 ws + 1) :: us).map i64, true⟩) => f19 (cp := c) (ws := (hd0 ws + 1) :: us) (Sl.whole h) (by simp; omega)
  have m1 : ([hd0 ws + 1] : List Int).map i64 = [.int .i64 (hd0 ws + 1)] := rfl
  have ml : ((hd0 ws + 1) :: us).length = us.length + 1 := rfl
  have m2 : [hd0 ws + 1] ++ us = (hd0 ws + 1) :: us := rfl
  simp only [m1, m2, List.length_cons, List.length_nil, Nat.zero_add, Nat.reduceAdd] at gC
  simp only [ml] at gM
  generalize hcc : com ((hd0 ws + 1) :: us) = cc at *
  generalize hall : ((hd0 ws + 1) :: us).map i64 = AL at *
  have hu0 : ∀ n, AV.unds n AL := fun n => by rw [← hall]; exact i64_und _
  have hALl : AL.length = us.length + 1 := by rw [← hall]; simp
  generalize hd0 ws = w at *
  have nle : us.length + 1 ≤ 2000 := by omega
  have d1 : ¬ (us.length : Int) + 3 ≤ (d : Int) + 1 := by omega
  have d2 : (1 : Int) < (d : Int) + 1 := by omega
  have d3 : (d : Int) + 1 - 1 = (d : Int) := by omega
  have d4 : (d : Int) ≤ (us.length : Int) + 1 := by omega
  have d5 : ((us.length + 1 : Nat) : Int) = (us.length : Int) + 1 := by omega
  unfold nvc at *
  unfold c16
  simp (maxSteps := 1000000) (disch := omega) only [go_sem, Nat.reduceEqDiff, Nat.reduceLT, Nat.reduceAdd, Nat.reduceSub, Nat.reduceMul, Nat.reduceBEq, Int.reduceLT, Int.reduceAdd, Int.reduceMul, Int.reduceSub, Int.reduceToNat, Int.reduceLE, Int.reduceEq, ↓reduceIte, reduceCtorEq, Int.reduceNeg, Nat.reduceLeDiff]
  first | refine callB_intro (g _) ?_ | refine callD_intro (g _) ?_ | refine callP_intro (fun _ => (g _)) ?_ | refine callX_pure (g _) ?_
  simp (maxSteps := 1000000) (disch := omega) only [go_sem, Nat.reduceEqDiff, Nat.reduceLT, Nat.reduceAdd, Nat.reduceSub, Nat.reduceMul, Nat.reduceBEq, Int.reduceLT, Int.reduceAdd, Int.reduceMul, Int.reduceSub, Int.reduceToNat, Int.reduceLE, Int.reduceEq, ↓reduceIte, reduceCtorEq, Int.reduceNeg, Nat.reduceLeDiff,  e0, b1, hf2]
  first | refine callB_intro (g2 _) ?_ | refine callD_intro (g2 _) ?_ | refine callP_intro (fun _ => (g2 _)) ?_ | refine callX_pure (g2 _) ?_
  simp (maxSteps := 1000000) (disch := omega) only [go_sem, Nat.reduceEqDiff, Nat.reduceLT, Nat.reduceAdd, Nat.reduceSub, Nat.reduceMul, Nat.reduceBEq, Int.reduceLT, Int.reduceAdd, Int.reduceMul, Int.reduceSub, Int.reduceToNat, Int.reduceLE, Int.reduceEq, ↓reduceIte, reduceCtorEq, Int.reduceNeg, Nat.reduceLeDiff,  e0, b1, hf2]
  refine callB_intro (gC _ _ _ (H.length + 3) (by simp only [go_sem, Nat.reduceEqDiff, Nat.reduceLT, Nat.reduceAdd, Nat.reduceSub, Nat.reduceMul, Nat.reduceBEq, Int.reduceLT, Int.reduceAdd, Int.reduceMul, Int.reduceSub, Int.reduceToNat, Int.reduceLE, Int.reduceEq, ↓reduceIte, reduceCtorEq, Int.reduceNeg, Nat.reduceLeDiff]) (by simp only [go_sem, Nat.reduceEqDiff, Nat.reduceLT, Nat.reduceAdd, Nat.reduceSub, Nat.reduceMul, Nat.reduceBEq, Int.reduceLT, Int.reduceAdd, Int.reduceMul, Int.reduceSub, Int.reduceToNat, Int.reduceLE, Int.reduceEq, ↓reduceIte, reduceCtorEq, Int.reduceNeg, Nat.reduceLeDiff]) (by omega) (by omega) (by omega)) ?_
  simp (maxSteps := 1000000) (disch := omega) only [go_sem, Nat.reduceEqDiff, Nat.reduceLT, Nat.reduceAdd, Nat.reduceSub, Nat.reduceMul, Nat.reduceBEq, Int.reduceLT, Int.reduceAdd, Int.reduceMul, Int.reduceSub, Int.reduceToNat, Int.reduceLE, Int.reduceEq, ↓reduceIte, reduceCtorEq, Int.reduceNeg, Nat.reduceLeDiff,  Nat.add_comm 1 us.length]
  first | refine callB_intro (gS _) ?_ | refine callD_intro (gS _) ?_ | refine callP_intro (fun _ => (gS _)) ?_ | refine callX_pure (gS _) ?_
  simp (maxSteps := 1000000) (disch := omega) only [go_sem, Nat.reduceEqDiff, Nat.reduceLT, Nat.reduceAdd, Nat.reduceSub, Nat.reduceMul, Nat.reduceBEq, Int.reduceLT, Int.reduceAdd, Int.reduceMul, Int.reduceSub, Int.reduceToNat, Int.reduceLE, Int.reduceEq, ↓reduceIte, reduceCtorEq, Int.reduceNeg, Nat.reduceLeDiff,  d1, d2, d3, d4, d5, Nat.sub_zero, Int.le_refl]
  exact fin_one _ 5 _ (by simp) rfl rfl (hu0 _) (by simp (disch := omega) only [resVal, resAll, resOne, rs16, Env.get, go_sem, Nat.reduceEqDiff, Nat.reduceLT, Nat.reduceAdd, Nat.reduceSub, Nat.reduceMul, Nat.reduceBEq, Int.reduceLT, Int.reduceAdd, Int.reduceMul, Int.reduceSub, Int.reduceToNat, Int.reduceLE, Int.reduceEq, ↓reduceIte, reduceCtorEq, Int.reduceNeg, Nat.reduceLeDiff]; rfl) (by simp [AV.ren, AV.rens, h0.lt, h1.lt]) (by have q0 := h0.lt; have q1 := h1.lt; simp [AV.und, AV.unds]; omega)
theorem f16_one_0 {ws vs us : List Int} {p0 o0 p1 o1 q oq : Nat} {k0 k1 kq : Option Nat} {c0 c1 done : Int} {H : Heap} (h0 : Sl i64 H p0 o0 ws) (h1 : Sl i64 H p1 o1 vs) (hu : Sl i64 H q oq us) (l0 : ws.length ≤ 1000) (l1 : vs.length ≤ 1000) (lu : us.length ≤ 1000) (hw : nw ws c0 vs c1 = 0) (hn : 0 < ws.length) (hb : us.length ≤ 600) (hf : 0 ≤ hd0 ws ∧ hd0 ws < 4611686018427387904) (hd : done = 1) :
    ACall Try.prog 16 [.agg (nvc p0 o0 ws.length k0 c0 p1 o1 vs.length k1 c1), .sl q oq us.length 1 kq, .int .i64 done] H (.tup [.agg (nvc p0 o0 ws.length k0 c0 p1 o1 vs.length k1 0), .int .i64 0]) (H ++ [some ⟨((hd0 ws + 1) :: us).map i64, true⟩]) := by
  refine acall16 (by simp) (acs_start ?_)
  subst hd
  have g := fun G => f12_0 (k0 := k0) (k1 := k1) (h0.app G) (h1.app G) (by omega) (by omega) hw hn
  have g2 := fun G => f25 (k0 := k0) (k1 := k1) (c0 := c0) (c1 := c1) (h0.app G) (h1.app G) (by omega) (by omega)
  have b1 : ¬ (600 : Int) < (us.length : Int) := by omega
  have gS := fun H => @f17 us.length q oq kq H (by omega)
  rw [hw] at g2
  have hf2 : ¬ hd0 ws = 4611686018427387904 := by omega
  have e0 : imax 0 (-1) = 0 := by decide
  have gC := fun G r c3 pl (h : blkAt (H ++ G) pl = some ⟨([hd0 ws + 1] : List Int).map i64, true⟩) => f27 (xs := [hd0 ws + 1]) (ys := us) (p := pl) (off := 0) (c1 := some 1) (c2 := kq) (c3 := c3) (r := r) (o := true) (H := H ++ G) (Sl.whole h) (hu.app G)
  have gM := fun G pl c (h : blkAt (H ++ G) pl = some ⟨((hd0 ws + 1) :: us).map i64, true⟩) => f19 (cp := c) (ws := (hd0 ws + 1) :: us) (Sl.whole h) (by simp; omega)
  have m1 : ([hd0 ws + 1] : List Int).map i64 = [.int .i64 (hd0 ws + 1)] := rfl
  have ml : ((hd0 ws + 1) :: us).length = us.length + 1 := rfl
  have m2 : [hd0 ws + 1] ++ us = (hd0 ws + 1) :: us := rfl
  simp only [m1, m2, List.length_cons, List.length_nil, Nat.zero_add, Nat.reduceAdd] at gC
  simp only [ml] at gM
  generalize hcc : com ((hd0 ws + 1) :: us) = cc at *
  generalize hall : ((hd0 ws + 1) :: us).map i64 = AL at *
  have hu0 : ∀ n, AV.unds n AL := fun n => by rw [← hall]; exact i64_und _
  have hALl : AL.length = us.length + 1 := by rw [← hall]; simp
  generalize hd0 ws = w at *
  have nle : us.length + 1 ≤ 2000 := by omega
  have d1 : ¬ (us.length : Int) + 3 ≤ 1 := by omega
  unfold nvc at *
  unfold c16
  simp (maxSteps := 1000000) (disch := omega) only [go_sem, Nat.reduceEqDiff, Nat.reduceLT, Nat.reduceAdd, Nat.reduceSub, Nat.reduceMul, Nat.reduceBEq, Int.reduceLT, Int.reduceAdd, Int.reduceMul, Int.reduceSub, Int.reduceToNat, Int.reduceLE, Int.reduceEq, ↓reduceIte, reduceCtorEq, Int.reduceNeg, Nat.reduceLeDiff]
  first | refine callB_intro (g _) ?_ | refine callD_intro (g _) ?_ | refine callP_intro (fun _ => (g _)) ?_ | refine callX_pure (g _) ?_
  simp (maxSteps := 1000000) (disch := omega) only [go_sem, Nat.reduceEqDiff, Nat.reduceLT, Nat.reduceAdd, Nat.reduceSub, Nat.reduceMul, Nat.reduceBEq, Int.reduceLT, Int.reduceAdd, Int.reduceMul, Int.reduceSub, Int.reduceToNat, Int.reduceLE, Int.reduceEq, ↓reduceIte, reduceCtorEq, Int.reduceNeg, Nat.reduceLeDiff,  e0, b1, hf2]
  first | refine callB_intro (g2 _) ?_ | refine callD_intro (g2 _) ?_ | refine callP_intro (fun _ => (g2 _)) ?_ | refine callX_pure (g2 _) ?_
  simp (maxSteps := 1000000) (disch := omega) only [go_sem, Nat.reduceEqDiff, Nat.reduceLT, Nat.reduceAdd, Nat.reduceSub, Nat.reduceMul, Nat.reduceBEq, Int.reduceLT, Int.reduceAdd, Int.reduceMul, Int.reduceSub, Int.reduceToNat, Int.reduceLE, Int.reduceEq, ↓reduceIte, reduceCtorEq, Int.reduceNeg, Nat.reduceLeDiff,  e0, b1, hf2]
  refine callB_intro (gC _ _ _ (H.length + 3) (by simp only [go_sem, Nat.reduceEqDiff, Nat.reduceLT, Nat.reduceAdd, Nat.reduceSub, Nat.reduceMul, Nat.reduceBEq, Int.reduceLT, Int.reduceAdd, Int.reduceMul, Int.reduceSub, Int.reduceToNat, Int.reduceLE, Int.reduceEq, ↓reduceIte, reduceCtorEq, Int.reduceNeg, Nat.reduceLeDiff]) (by simp only [go_sem, Nat.reduceEqDiff, Nat.reduceLT, Nat.reduceAdd, Nat.reduceSub, Nat.reduceMul, Nat.reduceBEq, Int.reduceLT, Int.reduceAdd, Int.reduceMul, Int.reduceSub, Int.reduceToNat, Int.reduceLE, Int.reduceEq, ↓reduceIte, reduceCtorEq, Int.reduceNeg, Nat.reduceLeDiff]) (by omega) (by omega) (by omega)) ?_
  simp (maxSteps := 1000000) (disch := omega) only [go_sem, Nat.reduceEqDiff, Nat.reduceLT, Nat.reduceAdd, Nat.reduceSub, Nat.reduceMul, Nat.reduceBEq, Int.reduceLT, Int.reduceAdd, Int.reduceMul, Int.reduceSub, Int.reduceToNat, Int.reduceLE, Int.reduceEq, ↓reduceIte, reduceCtorEq, Int.reduceNeg, Nat.reduceLeDiff,  Nat.add_comm 1 us.length]
  first | refine callB_intro (gS _) ?_ | refine callD_intro (gS _) ?_ | refine callP_intro (fun _ => (gS _)) ?_ | refine callX_pure (gS _) ?_
  simp (maxSteps := 1000000) (disch := omega) only [go_sem, Nat.reduceEqDiff, Nat.reduceLT, Nat.reduceAdd, Nat.reduceSub, Nat.reduceMul, Nat.reduceBEq, Int.reduceLT, Int.reduceAdd, Int.reduceMul, Int.reduceSub, Int.reduceToNat, Int.reduceLE, Int.reduceEq, ↓reduceIte, reduceCtorEq, Int.reduceNeg, Nat.reduceLeDiff,  d1]
  exact fin_one _ 5 _ (by simp) rfl rfl (hu0 _) (by simp (disch := omega) only [resVal, resAll, resOne, rs16, Env.get, go_sem, Nat.reduceEqDiff, Nat.reduceLT, Nat.reduceAdd, Nat.reduceSub, Nat.reduceMul, Nat.reduceBEq, Int.reduceLT, Int.reduceAdd, Int.reduceMul, Int.reduceSub, Int.reduceToNat, Int.reduceLE, Int.reduceEq, ↓reduceIte, reduceCtorEq, Int.reduceNeg, Nat.reduceLeDiff]; rfl) (by simp [AV.ren, AV.rens, h0.lt, h1.lt]) (by have q0 := h0.lt; have q1 := h1.lt; simp [AV.und, AV.unds]; omega)
theorem f16_zero_0 {ws vs us : List Int} {p0 o0 p1 o1 q oq : Nat} {k0 k1 kq : Option Nat} {c0 c1 done : Int} {H : Heap} (h0 : Sl i64 H p0 o0 ws) (h1 : Sl i64 H p1 o1 vs) (hu : Sl i64 H q oq us) (l0 : ws.length ≤ 1000) (l1 : vs.length ≤ 1000) (lu : us.length ≤ 1000) (hw : nw ws c0 vs c1 = 0) (hn : 0 < ws.length) (hb : us.length ≤ 600) (hf : 0 ≤ hd0 ws ∧ hd0 ws < 4611686018427387904) (hd : done ≤ 0) :
    ACall Try.prog 16 [.agg (nvc p0 o0 ws.length k0 c0 p1 o1 vs.length k1 c1), .sl q oq us.length 1 kq, .int .i64 done] H (.tup [.agg (nvc p0 o0 ws.length k0 c0 p1 o1 vs.length k1 c1), .int .i64 0]) (H ++ [some ⟨((hd0 ws + 1) :: us).map i64, true⟩]) := by
  refine acall16 (by simp) (acs_start ?_)
  have g := fun G => f12_0 (k0 := k0) (k1 := k1) (h0.app G) (h1.app G) (by omega) (by omega) hw hn
  have g2 := fun G => f25 (k0 := k0) (k1 := k1) (c0 := c0) (c1 := c1) (h0.app G) (h1.app G) (by omega) (by omega)
  have b1 : ¬ (600 : Int) < (us.length : Int) := by omega
  have gS := fun H => @f17 us.length q oq kq H (by omega)
  rw [hw] at g2
  have hf2 : ¬ hd0 ws = 4611686018427387904 := by omega
  have e0 : imax 0 (-1) = 0 := by decide
  have gC := fun G r c3 pl (h : blkAt (H ++ G) pl = some ⟨([hd0 ws + 1] : List Int).map i64, true⟩) => f27 (xs := [hd0 ws + 1]) (ys := us) (p := pl) (off := 0) (c1 := some 1) (c2 := kq) (c3 := c3) (r := r) (o := true) (H := H ++ G) (Sl.whole h) (hu.app G)
  have gM := fun G pl c (h : blkAt (H ++ G) pl = some ⟨((hd0 ws + 1) :: us).map i64, true⟩) => f19 (cp := c) (ws := (hd0 ws + 1) :: us) (Sl.whole h) (by simp; omega)
  have m1 : ([hd0 ws + 1] : List Int).map i64 = [.int .i64 (hd0 ws + 1)] := rfl
  have ml : ((hd0 ws + 1) :: us).length = us.length + 1 := rfl
  have m2 : [hd0 ws + 1] ++ us = (hd0 ws + 1) :: us := rfl
  simp only [m1, m2, List.length_cons, List.length_nil, Nat.zero_add, Nat.reduceAdd] at gC
  simp only [ml] at gM
  generalize hcc : com ((hd0 ws + 1) :: us) = cc at *
  generalize hall : ((hd0 ws + 1) :: us).map i64 = AL at *
  have hu0 : ∀ n, AV.unds n AL := fun n => by rw [← hall]; exact i64_und _
  have hALl : AL.length = us.length + 1 := by rw [← hall]; simp
  generalize hd0 ws = w at *
  have nle : us.length + 1 ≤ 2000 := by omega
  have d1 : ¬ (us.length : Int) + 3 ≤ done := by omega
  have d2 : ¬ (1 : Int) < done := by omega
  have d3 : ¬ done = 1 := by omega
  unfold nvc at *
  unfold c16
  simp (maxSteps := 1000000) (disch := omega) only [go_sem, Nat.reduceEqDiff, Nat.reduceLT, Nat.reduceAdd, Nat.reduceSub, Nat.reduceMul, Nat.reduceBEq, Int.reduceLT, Int.reduceAdd, Int.reduceMul, Int.reduceSub, Int.reduceToNat, Int.reduceLE, Int.reduceEq, ↓reduceIte, reduceCtorEq, Int.reduceNeg, Nat.reduceLeDiff]
  first | refine callB_intro (g _) ?_ | refine callD_intro (g _) ?_ | refine callP_intro (fun _ => (g _)) ?_ | refine callX_pure (g _) ?_
  simp (maxSteps := 1000000) (disch := omega) only [go_sem, Nat.reduceEqDiff, Nat.reduceLT, Nat.reduceAdd, Nat.reduceSub, Nat.reduceMul, Nat.reduceBEq, Int.reduceLT, Int.reduceAdd, Int.reduceMul, Int.reduceSub, Int.reduceToNat, Int.reduceLE, Int.reduceEq, ↓reduceIte, reduceCtorEq, Int.reduceNeg, Nat.reduceLeDiff,  e0, b1, hf2]
  first | refine callB_intro (g2 _) ?_ | refine callD_intro (g2 _) ?_ | refine callP_intro (fun _ => (g2 _)) ?_ | refine callX_pure (g2 _) ?_
  simp (maxSteps := 1000000) (disch := omega) only [go_sem, Nat.reduceEqDiff, Nat.reduceLT, Nat.reduceAdd, Nat.reduceSub, Nat.reduceMul, Nat.reduceBEq, Int.reduceLT, Int.reduceAdd, Int.reduceMul, Int.reduceSub, Int.reduceToNat, Int.reduceLE, Int.reduceEq, ↓reduceIte, reduceCtorEq, Int.reduceNeg, Nat.reduceLeDiff,  e0, b1, hf2]
  refine callB_intro (gC _ _ _ (H.length + 3) (by simp only [go_sem, Nat.reduceEqDiff, Nat.reduceLT, Nat.reduceAdd, Nat.reduceSub, Nat.reduceMul, Nat.reduceBEq, Int.reduceLT, Int.reduceAdd, Int.reduceMul, Int.reduceSub, Int.reduceToNat, Int.reduceLE, Int.reduceEq, ↓reduceIte, reduceCtorEq, Int.reduceNeg, Nat.reduceLeDiff]) (by simp only [go_sem, Nat.reduceEqDiff, Nat.reduceLT, Nat.reduceAdd, Nat.reduceSub, Nat.reduceMul, Nat.reduceBEq, Int.reduceLT, Int.reduceAdd, Int.reduceMul, Int.reduceSub, Int.reduceToNat, Int.reduceLE, Int.reduceEq, ↓reduceIte, reduceCtorEq, Int.reduceNeg, Nat.reduceLeDiff]) (by omega) (by omega) (by omega)) ?_
  simp (maxSteps := 1000000) (disch := omega) only [go_sem, Nat.reduceEqDiff, Nat.reduceLT, Nat.reduceAdd, Nat.reduceSub, Nat.reduceMul, Nat.reduceBEq, Int.reduceLT, Int.reduceAdd, Int.reduceMul, Int.reduceSub, Int.reduceToNat, Int.reduceLE, Int.reduceEq, ↓reduceIte, reduceCtorEq, Int.reduceNeg, Nat.reduceLeDiff,  Nat.add_comm 1 us.length]
  first | refine callB_intro (gS _) ?_ | refine callD_intro (gS _) ?_ | refine callP_intro (fun _ => (gS _)) ?_ | refine callX_pure (gS _) ?_
  simp (maxSteps := 1000000) (disch := omega) only [go_sem, Nat.reduceEqDiff, Nat.reduceLT, Nat.reduceAdd, Nat.reduceSub, Nat.reduceMul, Nat.reduceBEq, Int.reduceLT, Int.reduceAdd, Int.reduceMul, Int.reduceSub, Int.reduceToNat, Int.reduceLE, Int.reduceEq, ↓reduceIte, reduceCtorEq, Int.reduceNeg, Nat.reduceLeDiff,  d1, d2, d3]
  exact fin_one _ 5 _ (by simp) rfl rfl (hu0 _) (by simp (disch := omega) only [resVal, resAll, resOne, rs16, Env.get, go_sem, Nat.reduceEqDiff, Nat.reduceLT, Nat.reduceAdd, Nat.reduceSub, Nat.reduceMul, Nat.reduceBEq, Int.reduceLT, Int.reduceAdd, Int.reduceMul, Int.reduceSub, Int.reduceToNat, Int.reduceLE, Int.reduceEq, ↓reduceIte, reduceCtorEq, Int.reduceNeg, Nat.reduceLeDiff]; rfl) (by simp [AV.ren, AV.rens, h0.lt, h1.lt]) (by have q0 := h0.lt; have q1 := h1.lt; simp [AV.und, AV.unds]; omega)
theorem f16_big_1 {ws vs us : List Int} {p0 o0 p1 o1 q oq : Nat} {k0 k1 kq : Option Nat} {c0 c1 done : Int} {H : Heap} (h0 : Sl i64 H p0 o0 ws) (h1 : Sl i64 H p1 o1 vs) (hu : Sl i64 H q oq us) (l0 : ws.length ≤ 1000) (l1 : vs.length ≤ 1000) (lu : us.length ≤ 1000) (hw : nw ws c0 vs c1 = 1) (hn : 0 < vs.length) (hb : 600 < us.length) :
    ACall Try.prog 16 [.agg (nvc p0 o0 ws.length k0 c0 p1 o1 vs.length k1 c1), .sl q oq us.length 1 kq, .int .i64 done] H (.tup [.agg (nvc p0 o0 ws.length k0 c0 p1 o1 vs.length k1 c1), .int .i64 5]) H := by
  refine acall16 (by simp) (acs_start ?_)
  have g := fun G => f12_1 (k0 := k0) (k1 := k1) (h0.app G) (h1.app G) (by omega) (by omega) hw hn
  have b1 : (600 : Int) < (us.length : Int) := by omega
  unfold nvc at *
  unfold c16
  simp (maxSteps := 1000000) (disch := omega) only [go_sem, Nat.reduceEqDiff, Nat.reduceLT, Nat.reduceAdd, Nat.reduceSub, Nat.reduceMul, Nat.reduceBEq, Int.reduceLT, Int.reduceAdd, Int.reduceMul, Int.reduceSub, Int.reduceToNat, Int.reduceLE, Int.reduceEq, ↓reduceIte, reduceCtorEq, Int.reduceNeg, Nat.reduceLeDiff]
  first | refine callB_intro (g _) ?_ | refine callD_intro (g _) ?_ | refine callP_intro (fun _ => (g _)) ?_ | refine callX_pure (g _) ?_
  simp (maxSteps := 1000000) (disch := omega) only [go_sem, Nat.reduceEqDiff, Nat.reduceLT, Nat.reduceAdd, Nat.reduceSub, Nat.reduceMul, Nat.reduceBEq, Int.reduceLT, Int.reduceAdd, Int.reduceMul, Int.reduceSub, Int.reduceToNat, Int.reduceLE, Int.reduceEq, ↓reduceIte, reduceCtorEq, Int.reduceNeg, Nat.reduceLeDiff,  b1]
  exact fin_same (by simp) _ (by first | exact (List.append_nil _).symm | rfl) (by simp (maxSteps := 1000000) (disch := omega) only [resVal, resAll, resOne, rs16, Env.get, go_sem, Nat.reduceEqDiff, Nat.reduceLT, Nat.reduceAdd, Nat.reduceSub, Nat.reduceMul, Nat.reduceBEq, Int.reduceLT, Int.reduceAdd, Int.reduceMul, Int.reduceSub, Int.reduceToNat, Int.reduceLE, Int.reduceEq, ↓reduceIte, reduceCtorEq, Int.reduceNeg, Nat.reduceLeDiff, Nat.le_refl]) (by simp only [AV.und, AV.unds]; exact ⟨⟨h0.lt, trivial, h1.lt, trivial, trivial⟩, trivial, trivial⟩)
theorem f16_far_1 {ws vs us : List Int} {p0 o0 p1 o1 q oq : Nat} {k0 k1 kq : Option Nat} {c0 c1 done : Int} {H : Heap} (h0 : Sl i64 H p0 o0 ws) (h1 : Sl i64 H p1 o1 vs) (hu : Sl i64 H q oq us) (l0 : ws.length ≤ 1000) (l1 : vs.length ≤ 1000) (lu : us.length ≤ 1000) (hw : nw ws c0 vs c1 = 1) (hn : 0 < vs.length) (hb : us.length ≤ 600) (hf : hd0 vs = 4611686018427387904) :
    ACall Try.prog 16 [.agg (nvc p0 o0 ws.length k0 c0 p1 o1 vs.length k1 c1), .sl q oq us.length 1 kq, .int .i64 done] H (.tup [.agg (nvc p0 o0 ws.length k0 c0 p1 o1 vs.length k1 c1), .int .i64 5]) H := by
  refine acall16 (by simp) (acs_start ?_)
  have g := fun G => f12_1 (k0 := k0) (k1 := k1) (h0.app G) (h1.app G) (by omega) (by omega) hw hn
  have b1 : ¬ (600 : Int) < (us.length : Int) := by omega
  unfold nvc at *
  unfold c16
  simp (maxSteps := 1000000) (disch := omega) only [go_sem, Nat.reduceEqDiff, Nat.reduceLT, Nat.reduceAdd, Nat.reduceSub, Nat.reduceMul, Nat.reduceBEq, Int.reduceLT, Int.reduceAdd, Int.reduceMul, Int.reduceSub, Int.reduceToNat, Int.reduceLE, Int.reduceEq, ↓reduceIte, reduceCtorEq, Int.reduceNeg, Nat.reduceLeDiff]
  first | refine callB_intro (g _) ?_ | refine callD_intro (g _) ?_ | refine callP_intro (fun _ => (g _)) ?_ | refine callX_pure (g _) ?_
  simp (maxSteps := 1000000) (disch := omega) only [go_sem, Nat.reduceEqDiff, Nat.reduceLT, Nat.reduceAdd, Nat.reduceSub, Nat.reduceMul, Nat.reduceBEq, Int.reduceLT, Int.reduceAdd, Int.reduceMul, Int.reduceSub, Int.reduceToNat, Int.reduceLE, Int.reduceEq, ↓reduceIte, reduceCtorEq, Int.reduceNeg, Nat.reduceLeDiff,  b1, hf]
  exact fin_same (by simp) _ (by first | exact (List.append_nil _).symm | rfl) (by simp (maxSteps := 1000000) (disch := omega) only [resVal, resAll, resOne, rs16, Env.get, go_sem, Nat.reduceEqDiff, Nat.reduceLT, Nat.reduceAdd, Nat.reduceSub, Nat.reduceMul, Nat.reduceBEq, Int.reduceLT, Int.reduceAdd, Int.reduceMul, Int.reduceSub, Int.reduceToNat, Int.reduceLE, Int.reduceEq, ↓reduceIte, reduceCtorEq, Int.reduceNeg, Nat.reduceLeDiff, Nat.le_refl]) (by simp only [AV.und, AV.unds]; exact ⟨⟨h0.lt, trivial, h1.lt, trivial, trivial⟩, trivial, trivial⟩)
theorem f16_full_1 {ws vs us : List Int} {p0 o0 p1 o1 q oq : Nat} {k0 k1 kq : Option Nat} {c0 c1 done : Int} {H : Heap} (h0 : Sl i64 H p0 o0 ws) (h1 : Sl i64 H p1 o1 vs) (hu : Sl i64 H q oq us) (l0 : ws.length ≤ 1000) (l1 : vs.length ≤ 1000) (lu : us.length ≤ 1000) (hw : nw ws c0 vs c1 = 1) (hn : 0 < vs.length) (hb : us.length ≤ 600) (hf : 0 ≤ hd0 vs ∧ hd0 vs < 4611686018427387904) (hd : (us.length : Int) + 3 ≤ done) :
    ACall Try.prog 16 [.agg (nvc p0 o0 ws.length k0 c0 p1 o1 vs.length k1 c1), .sl q oq us.length 1 kq, .int .i64 done] H (.tup [.agg (nvc H.length 0 (us.length + 1) none (com ((hd0 vs + 1) :: us)) p1 o1 vs.length k1 c1), .int .i64 0]) (H ++ [some ⟨((hd0 vs + 1) :: us).map i64, true⟩]) := by
  refine acall16 (by simp) (acs_start ?_)
  have g := fun G => f12_1 (k0 := k0) (k1 := k1) (h0.app G) (h1.app G) (by omega) (by omega) hw hn
  have g2 := fun G => f25 (k0 := k0) (k1 := k1) (c0 := c0) (c1 := c1) (h0.app G) (h1.app G) (by omega) (by omega)
  have b1 : ¬ (600 : Int) < (us.length : Int) := by omega
  have gS := fun H => @f17 us.length q oq kq H (by omega)
  rw [hw] at g2
  have hf2 : ¬ hd0 vs = 4611686018427387904 := by omega
  have e0 : imax 1 (-1) = 1 := by decide
  have gC := fun G r c3 pl (h : blkAt (H ++ G) pl = some ⟨([hd0 vs + 1] : List Int).map i64, true⟩) => f27 (xs := [hd0 vs + 1]) (ys := us) (p := pl) (off := 0) (c1 := some 1) (c2 := kq) (c3 := c3) (r := r) (o := true) (H := H ++ G) (Sl.whole h) (hu.app G)
  have gM := fun G pl c (h : blkAt (H ++ G) pl = some ⟨((hd0 vs + 1) :: us).map i64, true⟩) => f19 (cp := c) (ws := (hd0 vs + 1) :: us) (Sl.whole h) (by simp; omega)
  have m1 : ([hd0 vs + 1] : List Int).map i64 = [.int .i64 (hd0 vs + 1)] := rfl
  have ml : ((hd0 vs + 1) :: us).length = us.length + 1 := rfl
  have m2 : [hd0 vs + 1] ++ us = (hd0 vs + 1) :: us := rfl
  simp only [m1, m2, List.length_cons, List.length_nil, Nat.zero_add, Nat.reduceAdd] at gC
  simp only [ml] at gM
  generalize hcc : com ((hd0 vs + 1) :: us) = cc at *
  generalize hall : ((hd0 vs + 1) :: us).map i64 = AL at *
  have hu0 : ∀ n, AV.unds n AL := fun n => by rw [← hall]; exact i64_und _
  have hALl : AL.length = us.length + 1 := by rw [← hall]; simp
  generalize hd0 vs = w at *
  have nle : us.length + 1 ≤ 2000 := by omega
  have d1 : (us.length : Int) + 3 ≤ done := hd
  unfold nvc at *
  unfold c16
  simp (maxSteps := 1000000) (disch := omega) only [go_sem, Nat.reduceEqDiff, Nat.reduceLT, Nat.reduceAdd, Nat.reduceSub, Nat.reduceMul, Nat.reduceBEq, Int.reduceLT, Int.reduceAdd, Int.reduceMul, Int.reduceSub, Int.reduceToNat, Int.reduceLE, Int.reduceEq, ↓reduceIte, reduceCtorEq, Int.reduceNeg, Nat.reduceLeDiff]
  first | refine callB_intro (g _) ?_ | refine callD_intro (g _) ?_ | refine callP_intro (fun _ => (g _)) ?_ | refine callX_pure (g _) ?_
  simp (maxSteps := 1000000) (disch := omega) only [go_sem, Nat.reduceEqDiff, Nat.reduceLT, Nat.reduceAdd, Nat.reduceSub, Nat.reduceMul, Nat.reduceBEq, Int.reduceLT, Int.reduceAdd, Int.reduceMul, Int.reduceSub, Int.reduceToNat, Int.reduceLE, Int.reduceEq, ↓reduceIte, reduceCtorEq, Int.reduceNeg, Nat.reduceLeDiff,  e0, b1, hf2]
  first | refine callB_intro (g2 _) ?_ | refine callD_intro (g2 _) ?_ | refine callP_intro (fun _ => (g2 _)) ?_ | refine callX_pure (g2 _) ?_
  simp (maxSteps := 1000000) (disch := omega) only [go_sem, Nat.reduceEqDiff, Nat.reduceLT, Nat.reduceAdd, Nat.reduceSub, Nat.reduceMul, Nat.reduceBEq, Int.reduceLT, Int.reduceAdd, Int.reduceMul, Int.reduceSub, Int.reduceToNat, Int.reduceLE, Int.reduceEq, ↓reduceIte, reduceCtorEq, Int.reduceNeg, Nat.reduceLeDiff,  e0, b1, hf2]
  refine callB_intro (gC _ _ _ (H.length + 3) (by simp only [go_sem, Nat.reduceEqDiff, Nat.reduceLT, Nat.reduceAdd, Nat.reduceSub, Nat.reduceMul, Nat.reduceBEq, Int.reduceLT, Int.reduceAdd, Int.reduceMul, Int.reduceSub, Int.reduceToNat, Int.reduceLE, Int.reduceEq, ↓reduceIte, reduceCtorEq, Int.reduceNeg, Nat.reduceLeDiff]) (by simp only [go_sem, Nat.reduceEqDiff, Nat.reduceLT, Nat.reduceAdd, Nat.reduceSub, Nat.reduceMul, Nat.reduceBEq, Int.reduceLT, Int.reduceAdd, Int.reduceMul, Int.reduceSub, Int.reduceToNat, Int.reduceLE, Int.reduceEq, ↓reduceIte, reduceCtorEq, Int.reduceNeg, Nat.reduceLeDiff]) (by omega) (by omega) (by omega)) ?_
  simp (maxSteps := 1000000) (disch := omega) only [go_sem, Nat.reduceEqDiff, Nat.reduceLT, Nat.reduceAdd, Nat.reduceSub, Nat.reduceMul, Nat.reduceBEq, Int.reduceLT, Int.reduceAdd, Int.reduceMul, Int.reduceSub, Int.reduceToNat, Int.reduceLE, Int.reduceEq, ↓reduceIte, reduceCtorEq, Int.reduceNeg, Nat.reduceLeDiff,  Nat.add_comm 1 us.length]
  first | refine callB_intro (gS _) ?_ | refine callD_intro (gS _) ?_ | refine callP_intro (fun _ => (gS _)) ?_ | refine callX_pure (gS _) ?_
  simp (maxSteps := 1000000) (disch := omega) only [go_sem, Nat.reduceEqDiff, Nat.reduceLT, Nat.reduceAdd, Nat.reduceSub, Nat.reduceMul, Nat.reduceBEq, Int.reduceLT, Int.reduceAdd, Int.reduceMul, Int.reduceSub, Int.reduceToNat, Int.reduceLE, Int.reduceEq, ↓reduceIte, reduceCtorEq, Int.reduceNeg, Nat.reduceLeDiff,  d1]
  refine callB_intro (gM _ _ _ (by simp only [go_sem, Nat.reduceEqDiff, Nat.reduceLT, Nat.reduceAdd, Nat.reduceSub, Nat.reduceMul, Nat.reduceBEq, Int.reduceLT, Int.reduceAdd, Int.reduceMul, Int.reduceSub, Int.reduceToNat, Int.reduceLE, Int.reduceEq, ↓reduceIte, reduceCtorEq, Int.reduceNeg, Nat.reduceLeDiff])) ?_
  simp (maxSteps := 1000000) (disch := omega) only [go_sem, Nat.reduceEqDiff, Nat.reduceLT, Nat.reduceAdd, Nat.reduceSub, Nat.reduceMul, Nat.reduceBEq, Int.reduceLT, Int.reduceAdd, Int.reduceMul, Int.reduceSub, Int.reduceToNat, Int.reduceLE, Int.reduceEq, ↓reduceIte, reduceCtorEq, Int.reduceNeg, Nat.reduceLeDiff,  d1]
  exact fin_one _ 5 _ (by simp) rfl rfl (hu0 _) (by simp (disch := omega) only [resVal, resAll, resOne, rs16, Env.get, go_sem, Nat.reduceEqDiff, Nat.reduceLT, Nat.reduceAdd, Nat.reduceSub, Nat.reduceMul, Nat.reduceBEq, Int.reduceLT, Int.reduceAdd, Int.reduceMul, Int.reduceSub, Int.reduceToNat, Int.reduceLE, Int.reduceEq, ↓reduceIte, reduceCtorEq, Int.reduceNeg, Nat.reduceLeDiff]; rfl) (by simp [AV.ren, AV.rens, h0.lt, h1.lt]) (by have q0 := h0.lt; have q1 := h1.lt; simp [AV.und, AV.unds]; omega)
theorem f16_part_1 {ws vs us : List Int} {p0 o0 p1 o1 q oq : Nat} {k0 k1 kq : Option Nat} {c0 c1 done : Int} {H : Heap} (h0 : Sl i64 H p0 o0 ws) (h1 : Sl i64 H p1 o1 vs) (hu : Sl i64 H q oq us) (l0 : ws.length ≤ 1000) (l1 : vs.length ≤ 1000) (lu : us.length ≤ 1000) (hw : nw ws c0 vs c1 = 1) (hn : 0 < vs.length) (hb : us.length ≤ 600) (hf : 0 ≤ hd0 vs ∧ hd0 vs < 4611686018427387904) {d : Nat} (hde : done = (d : Int) + 1) (hd1 : 1 ≤ d) (hd2 : d ≤ us.length + 1) :
    ACall Try.prog 16 [.agg (nvc p0 o0 ws.length k0 c0 p1 o1 vs.length k1 c1), .sl q oq us.length 1 kq, .int .i64 done] H (.tup [.agg (nvc H.length 0 d (some d) 0 p1 o1 vs.length k1 c1), .int .i64 0]) (H ++ [some ⟨((hd0 vs + 1) :: us).map i64, true⟩]) := by
  refine acall16 (by simp) (acs_start ?_)
  subst hde
  have g := fun G => f12_1 (k0 := k0) (k1 := k1) (h0.app G) (h1.app G) (by omega) (by omega) hw hn
  have g2 := fun G => f25 (k0 := k0) (k1 := k1) (c0 := c0) (c1 := c1) (h0.app G) (h1.app G) (by omega) (by omega)
  have b1 : ¬ (600 : Int) < (us.length : Int) := by omega
  have gS := fun H => @f17 us.length q oq kq H (by omega)
  rw [hw] at g2
  have hf2 : ¬ hd0 vs = 4611686018427387904 := by omega
  have e0 : imax 1 (-1) = 1 := by decide
  have gC := fun G r c3 pl (h : blkAt (H ++ G) pl = some ⟨([hd0 vs + 1] : List Int).map i64, true⟩) => f27 (xs := [hd0 vs + 1]) (ys := us) (p := pl) (off := 0) (c1 := some 1) (c2 := kq) (c3 := c3) (r := r) (o := true) (H := H ++ G) (Sl.whole h) (hu.app G)
  have gM := fun G pl c (h : blkAt (H ++ G) pl = some ⟨((hd0 vs + 1) :: us).map i64, true⟩) => f19 (cp := c) (ws := (hd0 vs + 1) :: us) (Sl.whole h) (by simp; omega)
  have m1 : ([hd0 vs + 1] : List Int).map i64 = [.int .i64 (hd0 vs + 1)] := rfl
  have ml : ((hd0 vs + 1) :: us).length = us.length + 1 := rfl
  have m2 : [hd0 vs + 1] ++ us = (hd0 vs + 1) :: us := rfl
  simp only [m1, m2, List.length_cons, List.length_nil, Nat.zero_add, Nat.reduceAdd] at gC
  simp only [ml] at gM
  generalize hcc : com ((hd0 vs + 1) :: us) = cc at *
  generalize hall : ((hd0 vs + 1) :: us).map i64 = AL at *
  have hu0 : ∀ n, AV.unds n AL := fun n => by rw [← hall]; exact i64_und _
  have hALl : AL.length = us.length + 1 := by rw [← hall]; simp
  generalize hd0 vs = w at *
  have nle : us.length + 1 ≤ 2000 := by omega
  have d1 : ¬ (us.length : Int) + 3 ≤ (d : Int) + 1 := by omega
  have d2 : (1 : Int) < (d : Int) + 1 := by omega
  have d3 : (d : Int) + 1 - 1 = (d : Int) := by omega
  have d4 : (d : Int) ≤ (us.length : Int) + 1 := by omega
  have d5 : ((us.length + 1 : Nat) : Int) = (us.length : Int) + 1 := by omega
  unfold nvc at *
  unfold c16
  simp (maxSteps := 1000000) (disch := omega) only [go_sem, Nat.reduceEqDiff, Nat.reduceLT, Nat.reduceAdd, Nat.reduceSub, Nat.reduceMul, Nat.reduceBEq, Int.reduceLT, Int.reduceAdd, Int.reduceMul, Int.reduceSub, Int.reduceToNat, Int.reduceLE, Int.reduceEq, ↓reduceIte, reduceCtorEq, Int.reduceNeg, Nat.reduceLeDiff]
  first | refine callB_intro (g _) ?_ | refine callD_intro (g _) ?_ | refine callP_intro (fun _ => (g _)) ?_ | refine callX_pure (g _) ?_
  simp (maxSteps := 1000000) (disch := omega) only [go_sem, Nat.reduceEqDiff, Nat.reduceLT, Nat.reduceAdd, Nat.reduceSub, Nat.reduceMul, Nat.reduceBEq, Int.reduceLT, Int.reduceAdd, Int.reduceMul, Int.reduceSub, Int.reduceToNat, Int.reduceLE, Int.reduceEq, ↓reduceIte, reduceCtorEq, Int.reduceNeg, Nat.reduceLeDiff,  e0, b1, hf2]
  first | refine callB_intro (g2 _) ?_ | refine callD_intro (g2 _) ?_ | refine callP_intro (fun _ => (g2 _)) ?_ | refine callX_pure (g2 _) ?_
  simp (maxSteps := 1000000) (disch := omega) only [go_sem, Nat.reduceEqDiff, Nat.reduceLT, Nat.reduceAdd, Nat.reduceSub, Nat.reduceMul, Nat.reduceBEq, Int.reduceLT, Int.reduceAdd, Int.reduceMul, Int.reduceSub, Int.reduceToNat, Int.reduceLE, Int.reduceEq, ↓reduceIte, reduceCtorEq, Int.reduceNeg, Nat.reduceLeDiff,  e0, b1, hf2]
  refine callB_intro (gC _ _ _ (H.length + 3) (by simp only [go_sem, Nat.reduceEqDiff, Nat.reduceLT, Nat.reduceAdd, Nat.reduceSub, Nat.reduceMul, Nat.reduceBEq, Int.reduceLT, Int.reduceAdd, Int.reduceMul, Int.reduceSub, Int.reduceToNat, Int.reduceLE, Int.reduceEq, ↓reduceIte, reduceCtorEq, Int.reduceNeg, Nat.reduceLeDiff]) (by simp only [go_sem, Nat.reduceEqDiff, Nat.reduceLT, Nat.reduceAdd, Nat.reduceSub, Nat.reduceMul, Nat.reduceBEq, Int.reduceLT, Int.reduceAdd, Int.reduceMul, Int.reduceSub, Int.reduceToNat, Int.reduceLE, Int.reduceEq, ↓reduceIte, reduceCtorEq, Int.reduceNeg, Nat.reduceLeDiff]) (by omega) (by omega) (by omega)) ?_
  simp (maxSteps := 1000000) (disch := omega) only [go_sem, Nat.reduceEqDiff, Nat.reduceLT, Nat.reduceAdd, Nat.reduceSub, Nat.reduceMul, Nat.reduceBEq, Int.reduceLT, Int.reduceAdd, Int.reduceMul, Int.reduceSub, Int.reduceToNat, Int.reduceLE, Int.reduceEq, ↓reduceIte, reduceCtorEq, Int.reduceNeg, Nat.reduceLeDiff,  Nat.add_comm 1 us.length]
  first | refine callB_intro (gS _) ?_ | refine callD_intro (gS _) ?_ | refine callP_intro (fun _ => (gS _)) ?_ | refine callX_pure (gS _) ?_
  simp (maxSteps := 1000000) (disch := omega) only [go_sem, Nat.reduceEqDiff, Nat.reduceLT, Nat.reduceAdd, Nat.reduceSub, Nat.reduceMul, Nat.reduceBEq, Int.reduceLT, Int.reduceAdd, Int.reduceMul, Int.reduceSub, Int.reduceToNat, Int.reduceLE, Int.reduceEq, ↓reduceIte, reduceCtorEq, Int.reduceNeg, Nat.reduceLeDiff,  d1, d2, d3, d4, d5, Nat.sub_zero, Int.le_refl]
  exact fin_one _ 5 _ (by simp) rfl rfl (hu0 _) (by simp (disch := omega) only [resVal, resAll, resOne, rs16, Env.get, go_sem, Nat.reduceEqDiff, Nat.reduceLT, Nat.reduceAdd, Nat.reduceSub, Nat.reduceMul, Nat.reduceBEq, Int.reduceLT, Int.reduceAdd, Int.reduceMul, Int.reduceSub, Int.reduceToNat, Int.reduceLE, Int.reduceEq, ↓reduceIte, reduceCtorEq, Int.reduceNeg, Nat.reduceLeDiff]; rfl) (by simp [AV.ren, AV.rens, h0.lt, h1.lt]) (by have q0 := h0.lt; have q1 := h1.lt; simp [AV.und, AV.unds]; omega)
theorem f16_one_1 {ws vs us : List Int} {p0 o0 p1 o1 q oq : Nat} {k0 k1 kq : Option Nat} {c0 c1 done : Int} {H : Heap} (h0 : Sl i64 H p0 o0 ws) (h1 : Sl i64 H p1 o1 vs) (hu : Sl i64 H q oq us) (l0 : ws.length ≤ 1000) (l1 : vs.length ≤ 1000) (lu : us.length ≤ 1000) (hw : nw ws c0 vs c1 = 1) (hn : 0 < vs.length) (hb : us.length ≤ 600) (hf : 0 ≤ hd0 vs ∧ hd0 vs < 4611686018427387904) (hd : done = 1) :
    ACall Try.prog 16 [.agg (nvc p0 o0 ws.length k0 c0 p1 o1 vs.length k1 c1), .sl q oq us.length 1 kq, .int .i64 done] H (.tup [.agg (nvc p0 o0 ws.length k0 0 p1 o1 vs.length k1 c1), .int .i64 0]) (H ++ [some ⟨((hd0 vs + 1) :: us).map i64, true⟩]) := by
  refine acall16 (by simp) (acs_start ?_)
  subst hd
  have g := fun G => f12_1 (k0 := k0) (k1 := k1) (h0.app G) (h1.app G) (by omega) (by omega) hw hn
  have g2 := fun G => f25 (k0 := k0) (k1 := k1) (c0 := c0) (c1 := c1) (h0.app G) (h1.app G) (by omega) (by omega)
  have b1 : ¬ (600 : Int) < (us.length : Int) := by omega
  have gS := fun H => @f17 us.length q oq kq H (by omega)
  rw [hw] at g2
  have hf2 : ¬ hd0 vs = 4611686018427387904 := by omega
  have e0 : imax 1 (-1) = 1 := by decide
  have gC := fun G r c3 pl (h : blkAt (H ++ G) pl = some ⟨([hd0 vs + 1] : List Int).map i64, true⟩) => f27 (xs := [hd0 vs + 1]) (ys := us) (p := pl) (off := 0) (c1 := some 1) (c2 := kq) (c3 := c3) (r := r) (o := true) (H := H ++ G) (Sl.whole h) (hu.app G)
  have gM := fun G pl c (h : blkAt (H ++ G) pl = some ⟨((hd0 vs + 1) :: us).map i64, true⟩) => f19 (cp := c) (ws := (hd0 vs + 1) :: us) (Sl.whole h) (by simp; omega)
  have m1 : ([hd0 vs + 1] : List Int).map i64 = [.int .i64 (hd0 vs + 1)] := rfl
  have ml : ((hd0 vs + 1) :: us).length = us.length + 1 := rfl
  have m2 : [hd0 vs + 1] ++ us = (hd0 vs + 1) :: us := rfl
  simp only [m1, m2, List.length_cons, List.length_nil, Nat.zero_add, Nat.reduceAdd] at gC
  simp only [ml] at gM
  generalize hcc : com ((hd0 vs + 1) :: us) = cc at *
  generalize hall : ((hd0 vs + 1) :: us).map i64 = AL at *
  have hu0 : ∀ n, AV.unds n AL := fun n => by rw [← hall]; exact i64_und _
  have hALl : AL.length = us.length + 1 := by rw [← hall]; simp
  generalize hd0 vs = w at *
  have nle : us.length + 1 ≤ 2000 := by omega
  have d1 : ¬ (us.length : Int) + 3 ≤ 1 := by omega
  unfold nvc at *
  unfold c16
  simp (maxSteps := 1000000) (disch := omega) only [go_sem, Nat.reduceEqDiff, Nat.reduceLT, Nat.reduceAdd, Nat.reduceSub, Nat.reduceMul, Nat.reduceBEq, Int.reduceLT, Int.reduceAdd, Int.reduceMul, Int.reduceSub, Int.reduceToNat, Int.reduceLE, Int.reduceEq, ↓reduceIte, reduceCtorEq, Int.reduceNeg, Nat.reduceLeDiff]
  first | refine callB_intro (g _) ?_ | refine callD_intro (g _) ?_ | refine callP_intro (fun _ => (g _)) ?_ | refine callX_pure (g _) ?_
  simp (maxSteps := 1000000) (disch := omega) only [go_sem, Nat.reduceEqDiff, Nat.reduceLT, Nat.reduceAdd, Nat.reduceSub, Nat.reduceMul, Nat.reduceBEq, Int.reduceLT, Int.reduceAdd, Int.reduceMul, Int.reduceSub, Int.reduceToNat, Int.reduceLE, Int.reduceEq, ↓reduceIte, reduceCtorEq, Int.reduceNeg, Nat.reduceLeDiff,  e0, b1, hf2]
  first | refine callB_intro (g2 _) ?_ | refine callD_intro (g2 _) ?_ | refine callP_intro (fun _ => (g2 _)) ?_ | refine callX_pure (g2 _) ?_
  simp (maxSteps := 1000000) (disch := omega) only [go_sem, Nat.reduceEqDiff, Nat.reduceLT, Nat.reduceAdd, Nat.reduceSub, Nat.reduceMul, Nat.reduceBEq, Int.reduceLT, Int.reduceAdd, Int.reduceMul, Int.reduceSub, Int.reduceToNat, Int.reduceLE, Int.reduceEq, ↓reduceIte, reduceCtorEq, Int.reduceNeg, Nat.reduceLeDiff,  e0, b1, hf2]
  refine callB_intro (gC _ _ _ (H.length + 3) (by simp only [go_sem, Nat.reduceEqDiff, Nat.reduceLT, Nat.reduceAdd, Nat.reduceSub, Nat.reduceMul, Nat.reduceBEq, Int.reduceLT, Int.reduceAdd, Int.reduceMul, Int.reduceSub, Int.reduceToNat, Int.reduceLE, Int.reduceEq, ↓reduceIte, reduceCtorEq, Int.reduceNeg, Nat.reduceLeDiff]) (by simp only [go_sem, Nat.reduceEqDiff, Nat.reduceLT, Nat.reduceAdd, Nat.reduceSub, Nat.reduceMul, Nat.reduceBEq, Int.reduceLT, Int.reduceAdd, Int.reduceMul, Int.reduceSub, Int.reduceToNat, Int.reduceLE, Int.reduceEq, ↓reduceIte, reduceCtorEq, Int.reduceNeg, Nat.reduceLeDiff]) (by omega) (by omega) (by omega)) ?_
  simp (maxSteps := 1000000) (disch := omega) only [go_sem, Nat.reduceEqDiff, Nat.reduceLT, Nat.reduceAdd, Nat.reduceSub, Nat.reduceMul, Nat.reduceBEq, Int.reduceLT, Int.reduceAdd, Int.reduceMul, Int.reduceSub, Int.reduceToNat, Int.reduceLE, Int.reduceEq, ↓reduceIte, reduceCtorEq, Int.reduceNeg, Nat.reduceLeDiff,  Nat.add_comm 1 us.length]
  first | refine callB_intro (gS _) ?_ | refine callD_intro (gS _) ?_ | refine callP_intro (fun _ => (gS _)) ?_ | refine callX_pure (gS _) ?_
  simp (maxSteps := 1000000) (disch := omega) only [go_sem, Nat.reduceEqDiff, Nat.reduceLT, Nat.reduceAdd, Nat.reduceSub, Nat.reduceMul, Nat.reduceBEq, Int.reduceLT, Int.reduceAdd, Int.reduceMul, Int.reduceSub, Int.reduceToNat, Int.reduceLE, Int.reduceEq, ↓reduceIte, reduceCtorEq, Int.reduceNeg, Nat.reduceLeDiff,  d1]
  exact fin_one _ 5 _ (by simp) rfl rfl (hu0 _) (by simp (disch := omega) only [resVal, resAll, resOne, rs16, Env.get, go_sem, Nat.reduceEqDiff, Nat.reduceLT, Nat.reduceAdd, Nat.reduceSub, Nat.reduceMul, Nat.reduceBEq, Int.reduceLT, Int.reduceAdd, Int.reduceMul, Int.reduceSub, Int.reduceToNat, Int.reduceLE, Int.reduceEq, ↓reduceIte, reduceCtorEq, Int.reduceNeg, Nat.reduceLeDiff]; rfl) (by simp [AV.ren, AV.rens, h0.lt, h1.lt]) (by have q0 := h0.lt; have q1 := h1.lt; simp [AV.und, AV.unds]; omega)
theorem f16_zero_1 {ws vs us : List Int} {p0 o0 p1 o1 q oq : Nat} {k0 k1 kq : Option Nat} {c0 c1 done : Int} {H : Heap} (h0 : Sl i64 H p0 o0 ws) (h1 : Sl i64 H p1 o1 vs) (hu : Sl i64 H q oq us) (l0 : ws.length ≤ 1000) (l1 : vs.length ≤ 1000) (lu : us.length ≤ 1000) (hw : nw ws c0 vs c1 = 1) (hn : 0 < vs.length) (hb : us.length ≤ 600) (hf : 0 ≤ hd0 vs ∧ hd0 vs < 4611686018427387904) (hd : done ≤ 0) :
    ACall Try.prog 16 [.agg (nvc p0 o0 ws.length k0 c0 p1 o1 vs.length k1 c1), .sl q oq us.length 1 kq, .int .i64 done] H (.tup [.agg (nvc p0 o0 ws.length k0 c0 p1 o1 vs.length k1 c1), .int .i64 0]) (H ++ [some ⟨((hd0 vs + 1) :: us).map i64, true⟩]) := by
  refine acall16 (by simp) (acs_start ?_)
  have g := fun G => f12_1 (k0 := k0) (k1 := k1) (h0.app G) (h1.app G) (by omega) (by omega) hw hn
  have g2 := fun G => f25 (k0 := k0) (k1 := k1) (c0 := c0) (c1 := c1) (h0.app G) (h1.app G) (by omega) (by omega)
  have b1 : ¬ (600 : Int) < (us.length : Int) := by omega
  have gS := fun H => @f17 us.length q oq kq H (by omega)
  rw [hw] at g2
  have hf2 : ¬ hd0 vs = 4611686018427387904 := by omega
  have e0 : imax 1 (-1) = 1 := by decide
  have gC := fun G r c3 pl (h : blkAt (H ++ G) pl = some ⟨([hd0 vs + 1] : List Int).map i64, true⟩) => f27 (xs := [hd0 vs + 1]) (ys := us) (p := pl) (off := 0) (c1 := some 1) (c2 := kq) (c3 := c3) (r := r) (o := true) (H := H ++ G) (Sl.whole h) (hu.app G)
  have gM := fun G pl c (h : blkAt (H ++ G) pl = some ⟨((hd0 vs + 1) :: us).map i64, true⟩) => f19 (cp := c) (ws := (hd0 vs + 1) :: us) (Sl.whole h) (by simp; omega)
  have m1 : ([hd0 vs + 1] : List Int).map i64 = [.int .i64 (hd0 vs + 1)] := rfl
  have ml : ((hd0 vs + 1) :: us).length = us.length + 1 := rfl
  have m2 : [hd0 vs + 1] ++ us = (hd0 vs + 1) :: us := rfl
  simp only [m1, m2, List.length_cons, List.length_nil, Nat.zero_add, Nat.reduceAdd] at gC
  simp only [ml] at gM
  generalize hcc : com ((hd0 vs + 1) :: us) = cc at *
  generalize hall : ((hd0 vs + 1) :: us).map i64 = AL at *
  have hu0 : ∀ n, AV.unds n AL := fun n => by rw [← hall]; exact i64_und _
  have hALl : AL.length = us.length + 1 := by rw [← hall]; simp
  generalize hd0 vs = w at *
  have nle : us.length + 1 ≤ 2000 := by omega
  have d1 : ¬ (us.length : Int) + 3 ≤ done := by omega
  have d2 : ¬ (1 : Int) < done := by omega
  have d3 : ¬ done = 1 := by omega
  unfold nvc at *
  unfold c16
  simp (maxSteps := 1000000) (disch := omega) only [go_sem, Nat.reduceEqDiff, Nat.reduceLT, Nat.reduceAdd, Nat.reduceSub, Nat.reduceMul, Nat.reduceBEq, Int.reduceLT, Int.reduceAdd, Int.reduceMul, Int.reduceSub, Int.reduceToNat, Int.reduceLE, Int.reduceEq, ↓reduceIte, reduceCtorEq, Int.reduceNeg, Nat.reduceLeDiff]
  first | refine callB_intro (g _) ?_ | refine callD_intro (g _) ?_ | refine callP_intro (fun _ => (g _)) ?_ | refine callX_pure (g _) ?_
  simp (maxSteps := 1000000) (disch := omega) only [go_sem, Nat.reduceEqDiff, Nat.reduceLT, Nat.reduceAdd, Nat.reduceSub, Nat.reduceMul, Nat.reduceBEq, Int.reduceLT, Int.reduceAdd, Int.reduceMul, Int.reduceSub, Int.reduceToNat, Int.reduceLE, Int.reduceEq, ↓reduceIte, reduceCtorEq, Int.reduceNeg, Nat.reduceLeDiff,  e0, b1, hf2]
  first | refine callB_intro (g2 _) ?_ | refine callD_intro (g2 _) ?_ | refine callP_intro (fun _ => (g2 _)) ?_ | refine callX_pure (g2 _) ?_
  simp (maxSteps := 1000000) (disch := omega) only [go_sem, Nat.reduceEqDiff, Nat.reduceLT, Nat.reduceAdd, Nat.reduceSub, Nat.reduceMul, Nat.reduceBEq, Int.reduceLT, Int.reduceAdd, Int.reduceMul, Int.reduceSub, Int.reduceToNat, Int.reduceLE, Int.reduceEq, ↓reduceIte, reduceCtorEq, Int.reduceNeg, Nat.reduceLeDiff,  e0, b1, hf2]
  refine callB_intro (gC _ _ _ (H.length + 3) (by simp only [go_sem, Nat.reduceEqDiff, Nat.reduceLT, Nat.reduceAdd, Nat.reduceSub, Nat.reduceMul, Nat.reduceBEq, Int.reduceLT, Int.reduceAdd, Int.reduceMul, Int.reduceSub, Int.reduceToNat, Int.reduceLE, Int.reduceEq, ↓reduceIte, reduceCtorEq, Int.reduceNeg, Nat.reduceLeDiff]) (by simp only [go_sem, Nat.reduceEqDiff, Nat.reduceLT, Nat.reduceAdd, Nat.reduceSub, Nat.reduceMul, Nat.reduceBEq, Int.reduceLT, Int.reduceAdd, Int.reduceMul, Int.reduceSub, Int.reduceToNat, Int.reduceLE, Int.reduceEq, ↓reduceIte, reduceCtorEq, Int.reduceNeg, Nat.reduceLeDiff]) (by omega) (by omega) (by omega)) ?_
  simp (maxSteps := 1000000) (disch := omega) only [go_sem, Nat.reduceEqDiff, Nat.reduceLT, Nat.reduceAdd, Nat.reduceSub, Nat.reduceMul, Nat.reduceBEq, Int.reduceLT, Int.reduceAdd, Int.reduceMul, Int.reduceSub, Int.reduceToNat, Int.reduceLE, Int.reduceEq, ↓reduceIte, reduceCtorEq, Int.reduceNeg, Nat.reduceLeDiff,  Nat.add_comm 1 us.length]
  first | refine callB_intro (gS _) ?_ | refine callD_intro (gS _) ?_ | refine callP_intro (fun _ => (gS _)) ?_ | refine callX_pure (gS _) ?_
  simp (maxSteps := 1000000) (disch := omega) only [go_sem, Nat.reduceEqDiff, Nat.reduceLT, Nat.reduceAdd, Nat.reduceSub, Nat.reduceMul, Nat.reduceBEq, Int.reduceLT, Int.reduceAdd, Int.reduceMul, Int.reduceSub, Int.reduceToNat, Int.reduceLE, Int.reduceEq, ↓reduceIte, reduceCtorEq, Int.reduceNeg, Nat.reduceLeDiff,  d1, d2, d3]
  exact fin_one _ 5 _ (by simp) rfl rfl (hu0 _) (by simp (disch := omega) only [resVal, resAll, resOne, rs16, Env.get, go_sem, Nat.reduceEqDiff, Nat.reduceLT, Nat.reduceAdd, Nat.reduceSub, Nat.reduceMul, Nat.reduceBEq, Int.reduceLT, Int.reduceAdd, Int.reduceMul, Int.reduceSub, Int.reduceToNat, Int.reduceLE, Int.reduceEq, ↓reduceIte, reduceCtorEq, Int.reduceNeg, Nat.reduceLeDiff]; rfl) (by simp [AV.ren, AV.rens, h0.lt, h1.lt]) (by have q0 := h0.lt; have q1 := h1.lt; simp [AV.und, AV.unds]; omega)
end Go.Proofs.Ytjibcbfdfambeaa.Ah
