/- V08y: a part of the proof: contracts of functions, or plain laws. Conditions: none. -/
import Derived.Test.YtjibphejlmiocaaV08x
namespace Go.Proofs.Ytjibphejlmiocaa.Ah
open Go Go.WideShapes
attribute [local irreducible] acs aopsK drawK leave condK bindR bindD bindX guardK guardD callB callD callX callP callPv rfunG rfunK yldB yldD
attribute [local go_sem] acs_nil acs_blk acs_skip acs_reg acs_dreg acs_freg acs_nam0 acs_nam nones acs_seq acs_cond acs_block acs_exit acs_ret acs_kl acs_loop leave_nil leave_code leave_lp leave_blk aopsK_nil aopsK_cons aopsK_guard bindR_val bindR_need bindR_br bindR_call bindR_ycall acs_rfun rfunG_fn bindR_bad drawK_nil drawK_cons drawK_ext drawK_pur drawK_guard callPv_fn drawK_purv bindD_val bindD_need bindD_br bindD_call bindD_ycall bindD_bad bindX_val bindX_need bindX_br bindX_call guardD_bool guardD_tup grows grows0 List.append_cancel_left_eq List.cons.injEq exists_eq' exists_eq condK_bool guardK_bool guardK_tup sor r0 r1 r2 r3 rC rB rI rP rA rT rS rF rSl rO rbin rcut run1 Env.evals Env.eval Env.get Env.put Env.ins Env.del Env.dels argEnv AV.full AV.cells AV.cell eqCells decide_true decide_false decide_eq_true_eq decide_eq_false_iff_not Bool.not_eq_true' Bool.not_eq_false' true_and and_true false_implies true_implies forall_const Bool.not_true Bool.not_false Bool.false_eq_true Bool.true_eq_false List.getElem?_cons_zero List.getElem?_cons_succ List.length_cons List.length_nil List.length_append List.all_cons List.all_nil Bool.and_true Bool.and_self implies_true List.append_assoc List.cons_append List.nil_append List.append_nil i64_in imin_eq imax_eq cast3 cast0 cast1 cast2 Option.map_none ite_self and_false false_and Option.isSome_some or_true true_or Int.sub_zero Int.mul_one Nat.sub_zero Nat.zero_le Int.cast_ofNat_Int Int.natCast_nonneg Int.toNat_natCast ne_eq not_false_eq_true not_true_eq_false strC blkAt_app blkAt_app0 blkAt_zero blkAt_succ List.set_cons_zero List.set_cons_succ set_app set_app0 Option.map_some Option.bind_some rd setCells lay rdS szOk rapp ownAt lenAt Option.any_some Option.getD_some List.drop_zero List.drop_succ_cons List.take_succ_cons List.take_zero List.drop_nil List.take_nil Nat.lt_irrefl Nat.zero_add Nat.add_zero Nat.mul_one Nat.one_mul Nat.add_assoc Option.some.injEq eq_self
set_option maxHeartbeats 4000000
set_option linter.unusedSimpArgs false
set_option linter.unusedVariables false
/-! The law FrameKinds. -/
theorem lng_pos {k : Int} (h1 : ¬ k < 1) (h8 : ¬ 8 < k) : 0 < lng k := by
  rcases lng_cases k with h | h | h | h | h | h | h | h | h | h
  · omega
  · omega
  all_goals (subst h; decide)
theorem flat1 (m : Nat) : (List.replicate m [AV.int .i64 0]).flatten = (List.replicate m (0 : Int)).map i64 := by
  induction m with
  | zero => rfl
  | succ m ih => rw [List.replicate_succ, List.flatten_cons, ih, List.replicate_succ]; rfl
theorem f7 (k : Int) (H : Heap) : ACall Try.prog 7 [.int .i64 k] H (.bool true) H := by
  refine acall7 (by simp) (acs_start ?_)
  have g21 := fun G => f21 k G
  unfold c7
  by_cases h1 : k < 1
  · rw [lng_lo h1] at g21
    simp (maxSteps := 1000000) (disch := omega) only [go_sem, Nat.reduceEqDiff, Nat.reduceLT, Nat.reduceAdd, Nat.reduceSub, Nat.reduceMul, Nat.reduceBEq, Int.reduceLT, Int.reduceAdd, Int.reduceMul, Int.reduceSub, Int.reduceToNat, Int.reduceLE, Int.reduceEq, ↓reduceIte, reduceCtorEq, Int.reduceNeg, Nat.reduceLeDiff]
    first | refine callB_intro (f10 _) ?_ | refine callD_intro (f10 _) ?_ | refine callP_intro (fun _ => (f10 _)) ?_ | refine callX_pure (f10 _) ?_
    simp (maxSteps := 1000000) (disch := omega) only [go_sem, Nat.reduceEqDiff, Nat.reduceLT, Nat.reduceAdd, Nat.reduceSub, Nat.reduceMul, Nat.reduceBEq, Int.reduceLT, Int.reduceAdd, Int.reduceMul, Int.reduceSub, Int.reduceToNat, Int.reduceLE, Int.reduceEq, ↓reduceIte, reduceCtorEq, Int.reduceNeg, Nat.reduceLeDiff]
    first | refine callB_intro (g21 _) ?_ | refine callD_intro (g21 _) ?_ | refine callP_intro (fun _ => (g21 _)) ?_ | refine callX_pure (g21 _) ?_
    simp (maxSteps := 1000000) (disch := omega) only [go_sem, Nat.reduceEqDiff, Nat.reduceLT, Nat.reduceAdd, Nat.reduceSub, Nat.reduceMul, Nat.reduceBEq, Int.reduceLT, Int.reduceAdd, Int.reduceMul, Int.reduceSub, Int.reduceToNat, Int.reduceLE, Int.reduceEq, ↓reduceIte, reduceCtorEq, Int.reduceNeg, Nat.reduceLeDiff,  h1]
    exact fin_same (by simp) _ (by first | exact (List.append_nil _).symm | rfl) (by simp (maxSteps := 1000000) (disch := omega) only [resVal, resAll, resOne, rs7, Env.get, go_sem, Nat.reduceEqDiff, Nat.reduceLT, Nat.reduceAdd, Nat.reduceSub, Nat.reduceMul, Nat.reduceBEq, Int.reduceLT, Int.reduceAdd, Int.reduceMul, Int.reduceSub, Int.reduceToNat, Int.reduceLE, Int.reduceEq, ↓reduceIte, reduceCtorEq, Int.reduceNeg, Nat.reduceLeDiff]) (by simp only [AV.und, AV.unds, and_self])
  by_cases h8 : 8 < k
  · rw [lng_hi h8] at g21
    simp (maxSteps := 1000000) (disch := omega) only [go_sem, Nat.reduceEqDiff, Nat.reduceLT, Nat.reduceAdd, Nat.reduceSub, Nat.reduceMul, Nat.reduceBEq, Int.reduceLT, Int.reduceAdd, Int.reduceMul, Int.reduceSub, Int.reduceToNat, Int.reduceLE, Int.reduceEq, ↓reduceIte, reduceCtorEq, Int.reduceNeg, Nat.reduceLeDiff]
    first | refine callB_intro (f10 _) ?_ | refine callD_intro (f10 _) ?_ | refine callP_intro (fun _ => (f10 _)) ?_ | refine callX_pure (f10 _) ?_
    simp (maxSteps := 1000000) (disch := omega) only [go_sem, Nat.reduceEqDiff, Nat.reduceLT, Nat.reduceAdd, Nat.reduceSub, Nat.reduceMul, Nat.reduceBEq, Int.reduceLT, Int.reduceAdd, Int.reduceMul, Int.reduceSub, Int.reduceToNat, Int.reduceLE, Int.reduceEq, ↓reduceIte, reduceCtorEq, Int.reduceNeg, Nat.reduceLeDiff]
    first | refine callB_intro (g21 _) ?_ | refine callD_intro (g21 _) ?_ | refine callP_intro (fun _ => (g21 _)) ?_ | refine callX_pure (g21 _) ?_
    simp (maxSteps := 1000000) (disch := omega) only [go_sem, Nat.reduceEqDiff, Nat.reduceLT, Nat.reduceAdd, Nat.reduceSub, Nat.reduceMul, Nat.reduceBEq, Int.reduceLT, Int.reduceAdd, Int.reduceMul, Int.reduceSub, Int.reduceToNat, Int.reduceLE, Int.reduceEq, ↓reduceIte, reduceCtorEq, Int.reduceNeg, Nat.reduceLeDiff,  h1, h8]
    exact fin_same (by simp) _ (by first | exact (List.append_nil _).symm | rfl) (by simp (maxSteps := 1000000) (disch := omega) only [resVal, resAll, resOne, rs7, Env.get, go_sem, Nat.reduceEqDiff, Nat.reduceLT, Nat.reduceAdd, Nat.reduceSub, Nat.reduceMul, Nat.reduceBEq, Int.reduceLT, Int.reduceAdd, Int.reduceMul, Int.reduceSub, Int.reduceToNat, Int.reduceLE, Int.reduceEq, ↓reduceIte, reduceCtorEq, Int.reduceNeg, Nat.reduceLeDiff]) (by simp only [AV.und, AV.unds, and_self])
  have hp := lng_pos h1 h8
  have h18 := (lng_in k).2
  obtain ⟨m, hm⟩ : ∃ m : Nat, lng k = m := ⟨(lng k).toNat, by omega⟩
  rw [hm] at g21
  have e1 : imax (m : Int) 0 = (m : Int) := by unfold imax; split <;> omega
  have e2 : 8 * (m : Int) ≤ 281474976710656 := by omega
  have hr : right k m = true := decide_eq_true ⟨by omega, by omega⟩
  have hr2 : right k (m + 1) = false := decide_eq_false (by omega)
  have hrl : (List.replicate m (0 : Int)).length = m := List.length_replicate
  have hwz : W64 (List.replicate m (0 : Int)) := by intro z hz; rw [(List.mem_replicate.1 hz).2]; decide
  have g12 := fun G H0 hb => f12T (k := k) (ns := List.replicate m 0) (p := H0) (off := 0) (cp := some m) (H := G) (Sl.whole (o := true) hb)
  have hd := dec_enc (k := k.toNat) hwz (by rw [hrl, show ((k.toNat : Nat) : Int) = k by omega]; exact hr)
  have hT : encT k (List.replicate m 0) = encB k.toNat (List.replicate m 0) := by unfold encT; rw [hrl, if_pos hr]
  have hE : encE k (List.replicate m (0 : Int)).length = 0 := by unfold encE; rw [hrl, if_pos hr]
  have hB := encT_By k (List.replicate m 0)
  have hl := encB_len k.toNat (List.replicate m 0)
  rw [hrl] at hl
  rw [show ((k.toNat : Nat) : Int) = k by omega] at hd
  rw [hT, hE, hrl] at g12
  rw [hT] at hB
  have g12b := fun G H0 hb => f12T (k := k) (ns := List.replicate (m + 1) 0) (p := H0) (off := 0) (cp := none) (H := G) (Sl.whole (o := true) hb)
  have hT2 : encT k (List.replicate (m + 1) 0) = [] := by unfold encT; rw [List.length_replicate, hr2]; rfl
  have hE2 : encE k (List.replicate (m + 1) (0 : Int)).length = 1 := by unfold encE; rw [List.length_replicate, hr2]; rfl
  rw [hT2, hE2, List.length_replicate] at g12b
  have hz1 : (List.replicate m (0 : Int)).map i64 ++ [.int .i64 0] = (List.replicate (m + 1) (0 : Int)).map i64 := by
    rw [List.replicate_succ', List.map_append]
    rfl
  have hzl : ((List.replicate m (0 : Int)).map i64).length = m := by simp
  generalize encB k.toNat (List.replicate m 0) = xs at *
  simp (maxSteps := 1000000) (disch := omega) only [go_sem, Nat.reduceEqDiff, Nat.reduceLT, Nat.reduceAdd, Nat.reduceSub, Nat.reduceMul, Nat.reduceBEq, Int.reduceLT, Int.reduceAdd, Int.reduceMul, Int.reduceSub, Int.reduceToNat, Int.reduceLE, Int.reduceEq, ↓reduceIte, reduceCtorEq, Int.reduceNeg, Nat.reduceLeDiff]
  first | refine callB_intro (f10 _) ?_ | refine callD_intro (f10 _) ?_ | refine callP_intro (fun _ => (f10 _)) ?_ | refine callX_pure (f10 _) ?_
  simp (maxSteps := 1000000) (disch := omega) only [go_sem, Nat.reduceEqDiff, Nat.reduceLT, Nat.reduceAdd, Nat.reduceSub, Nat.reduceMul, Nat.reduceBEq, Int.reduceLT, Int.reduceAdd, Int.reduceMul, Int.reduceSub, Int.reduceToNat, Int.reduceLE, Int.reduceEq, ↓reduceIte, reduceCtorEq, Int.reduceNeg, Nat.reduceLeDiff]
  first | refine callB_intro (g21 _) ?_ | refine callD_intro (g21 _) ?_ | refine callP_intro (fun _ => (g21 _)) ?_ | refine callX_pure (g21 _) ?_
  simp (maxSteps := 1000000) (disch := omega) only [go_sem, Nat.reduceEqDiff, Nat.reduceLT, Nat.reduceAdd, Nat.reduceSub, Nat.reduceMul, Nat.reduceBEq, Int.reduceLT, Int.reduceAdd, Int.reduceMul, Int.reduceSub, Int.reduceToNat, Int.reduceLE, Int.reduceEq, ↓reduceIte, reduceCtorEq, Int.reduceNeg, Nat.reduceLeDiff,  h1, h8, e1, e2, flat1, Int.le_refl]
  refine callBE (g12 _ H.length (by simp only [go_sem, Nat.reduceEqDiff, Nat.reduceLT, Nat.reduceAdd, Nat.reduceSub, Nat.reduceMul, Nat.reduceBEq, Int.reduceLT, Int.reduceAdd, Int.reduceMul, Int.reduceSub, Int.reduceToNat, Int.reduceLE, Int.reduceEq, ↓reduceIte, reduceCtorEq, Int.reduceNeg, Nat.reduceLeDiff])) ?_
  rintro v H1 hx1 ⟨w, rfl, p1, o1, k1, rfl, s1⟩
  have c0 : blkAt H1 H.length = some ⟨(List.replicate m (0 : Int)).map i64, true⟩ := hx1.blk (by simp only [go_sem, Nat.reduceEqDiff, Nat.reduceLT, Nat.reduceAdd, Nat.reduceSub, Nat.reduceMul, Nat.reduceBEq, Int.reduceLT, Int.reduceAdd, Int.reduceMul, Int.reduceSub, Int.reduceToNat, Int.reduceLE, Int.reduceEq, ↓reduceIte, reduceCtorEq, Int.reduceNeg, Nat.reduceLeDiff])
  have c1 : blkAt H1 (H.length + 1) = some ⟨[.int .i64 k, .sl H.length 0 m 1 (some m)], true⟩ := hx1.blk (by simp only [go_sem, Nat.reduceEqDiff, Nat.reduceLT, Nat.reduceAdd, Nat.reduceSub, Nat.reduceMul, Nat.reduceBEq, Int.reduceLT, Int.reduceAdd, Int.reduceMul, Int.reduceSub, Int.reduceToNat, Int.reduceLE, Int.reduceEq, ↓reduceIte, reduceCtorEq, Int.reduceNeg, Nat.reduceLeDiff])
  have hy1 : Ext H H1 := (Ext.app _ _).trans hx1
  clear hx1 g12
  simp (maxSteps := 1000000) (disch := omega) only [go_sem, Nat.reduceEqDiff, Nat.reduceLT, Nat.reduceAdd, Nat.reduceSub, Nat.reduceMul, Nat.reduceBEq, Int.reduceLT, Int.reduceAdd, Int.reduceMul, Int.reduceSub, Int.reduceToNat, Int.reduceLE, Int.reduceEq, ↓reduceIte, reduceCtorEq, Int.reduceNeg, Nat.reduceLeDiff]
  first | refine callBE (f20 (cp := k1) s1 hB (by omega)) ?_ | refine callDE (f20 (cp := k1) s1 hB (by omega)) ?_ | refine callXE (f20 (cp := k1) s1 hB (by omega)) ?_
  rintro v H2 hx2 ⟨w, rfl, p2, o2, k2, rfl, s2⟩
  rw [hd.1, hd.2.1, hd.2.2]
  rw [hd.2.2] at s2
  replace c0 := hx2.blk c0
  replace c1 := hx2.blk c1
  have hy2 := hy1.trans hx2
  clear hx2 hy1 s1
  have l0 := blkAt_lt c0
  have l1 := blkAt_lt c1
  have htk : List.take m ((List.replicate m (0 : Int)).map i64) = (List.replicate m (0 : Int)).map i64 := List.take_of_length_le (by rw [hzl]; exact Nat.le_refl _)
  have hmm : m < m + 1 := by omega
  have big : (m + 1) * 8 ≤ 140737488355328 := by omega
  have c0' : ∀ G, blkAt (H2 ++ G) H.length = some ⟨(List.replicate m (0 : Int)).map i64, true⟩ := fun G => by rw [blkAt_lo _ l0]; exact c0
  generalize hZ1 : (List.replicate (m + 1) (0 : Int)).map i64 = Z1 at *
  generalize hZ0 : (List.replicate m (0 : Int)).map i64 = Z0 at *
  have cs : ∀ x G, blkAt (H2.set (H.length + 1) x ++ G) (H.length + 1) = x := fun x G => by rw [blkAt_lo _ (by rw [List.length_set]; exact l1), blkAt_set_self l1]
  have ce : ∀ x G i, blkAt (H2.set (H.length + 1) x ++ G) (H2.length + i) = blkAt G i := fun x G i => by
    have := blkAt_app (H2.set (H.length + 1) x) G i
    rwa [List.length_set] at this
  have hx3 : ∀ x, Ext H (H2.set (H.length + 1) x) := fun x => hy2.set (by omega) x
  simp (maxSteps := 1000000) (disch := omega) only [go_sem, Nat.reduceEqDiff, Nat.reduceLT, Nat.reduceAdd, Nat.reduceSub, Nat.reduceMul, Nat.reduceBEq, Int.reduceLT, Int.reduceAdd, Int.reduceMul, Int.reduceSub, Int.reduceToNat, Int.reduceLE, Int.reduceEq, ↓reduceIte, reduceCtorEq, Int.reduceNeg, Nat.reduceLeDiff,  c0, c1, l0, l1, blkAt_lo, set_lo, htk, hmm, big, hzl, hz1, Nat.le_refl, hrl, cs]
  refine callBE (g12b _ (H2.length + 2) (by rw [ce]; simp only [go_sem, Nat.reduceEqDiff, Nat.reduceLT, Nat.reduceAdd, Nat.reduceSub, Nat.reduceMul, Nat.reduceBEq, Int.reduceLT, Int.reduceAdd, Int.reduceMul, Int.reduceSub, Int.reduceToNat, Int.reduceLE, Int.reduceEq, ↓reduceIte, reduceCtorEq, Int.reduceNeg, Nat.reduceLeDiff])) ?_
  rintro v H3 hx4 ⟨w, rfl, p3, o3, k3, rfl, s3⟩
  have c3 : blkAt H3 H2.length = some ⟨[.int .i64 k, .sl p2 o2 m 1 k2], true⟩ := hx4.blk (by have := ce (some ⟨[.int .i64 k, .sl (H2.length + 2) 0 (m + 1) 1 none], true⟩) [some ⟨[.int .i64 k, .sl p2 o2 m 1 k2], true⟩, some ⟨[.int .i64 0], true⟩, some ⟨Z1, true⟩] 0; exact this)
  have hy4 := ((hx3 _).to _).trans hx4
  have e3 : (0 : Int) < (m : Int) := by omega
  have e4 : ((xs.length : Nat) : Int) = 5 + 8 * (m : Int) := by omega
  simp (maxSteps := 1000000) (disch := omega) only [go_sem, Nat.reduceEqDiff, Nat.reduceLT, Nat.reduceAdd, Nat.reduceSub, Nat.reduceMul, Nat.reduceBEq, Int.reduceLT, Int.reduceAdd, Int.reduceMul, Int.reduceSub, Int.reduceToNat, Int.reduceLE, Int.reduceEq, ↓reduceIte, reduceCtorEq, Int.reduceNeg, Nat.reduceLeDiff,  c3, e3, e4]
  exact fin_ext (by simp) hy4 (by simp (maxSteps := 1000000) (disch := omega) only [resVal, resAll, resOne, rs7, Env.get, go_sem, Nat.reduceEqDiff, Nat.reduceLT, Nat.reduceAdd, Nat.reduceSub, Nat.reduceMul, Nat.reduceBEq, Int.reduceLT, Int.reduceAdd, Int.reduceMul, Int.reduceSub, Int.reduceToNat, Int.reduceLE, Int.reduceEq, ↓reduceIte, reduceCtorEq, Int.reduceNeg, Nat.reduceLeDiff]) (by simp only [AV.und, AV.unds, and_self])
end Go.Proofs.Ytjibphejlmiocaa.Ah
