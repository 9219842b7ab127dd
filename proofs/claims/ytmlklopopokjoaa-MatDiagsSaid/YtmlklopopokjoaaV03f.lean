/- V03f: a part of the proof: contracts of functions, or plain laws. Conditions: none. -/
import Derived.Test.YtmlklopopokjoaaV03e
namespace Go.Proofs.Ytmlklopopokjoaa.Ah
open Go Go.WideShapes
attribute [local irreducible] acs aopsK drawK leave condK bindR bindD bindX guardK guardD callB callD callX callP callPv
attribute [local go_sem] acs_nil acs_blk acs_skip acs_reg acs_dreg acs_freg acs_nam0 acs_nam nones acs_seq acs_cond acs_block acs_exit acs_ret acs_kl acs_loop leave_nil leave_code leave_lp leave_blk aopsK_nil aopsK_cons aopsK_guard bindR_val bindR_need bindR_br bindR_call bindR_bad drawK_nil drawK_cons drawK_ext drawK_pur drawK_guard callPv_fn drawK_purv bindD_val bindD_need bindD_br bindD_call bindD_bad bindX_val bindX_need bindX_br bindX_call guardD_bool guardD_tup grows grows0 List.append_cancel_left_eq List.cons.injEq exists_eq' exists_eq condK_bool guardK_bool guardK_tup sor r0 r1 r2 r3 rC rB rI rP rA rT rS rF rSl rO rbin rcut run1 Env.evals Env.eval Env.get Env.put Env.ins Env.del Env.dels argEnv AV.full AV.cells AV.cell eqCells decide_true decide_false decide_eq_true_eq decide_eq_false_iff_not Bool.not_eq_true' Bool.not_eq_false' true_and and_true false_implies true_implies forall_const Bool.not_true Bool.not_false Bool.false_eq_true Bool.true_eq_false List.getElem?_cons_zero List.getElem?_cons_succ List.length_cons List.length_nil List.length_append List.all_cons List.all_nil Bool.and_true Bool.and_self implies_true List.append_assoc List.cons_append List.nil_append List.append_nil i64_in imin_eq imax_eq cast3 cast0 cast1 cast2 Option.map_none ite_self and_false false_and Option.isSome_some or_true true_or Int.sub_zero Int.mul_one Nat.sub_zero Nat.zero_le Int.cast_ofNat_Int Int.natCast_nonneg Int.toNat_natCast ne_eq not_false_eq_true not_true_eq_false strC blkAt_app blkAt_app0 blkAt_zero blkAt_succ List.set_cons_zero List.set_cons_succ set_app set_app0 Option.map_some Option.bind_some rd setCells lay rdS szOk rapp ownAt lenAt Option.any_some Option.getD_some List.drop_zero List.drop_succ_cons List.take_succ_cons List.take_zero List.drop_nil List.take_nil Nat.lt_irrefl Nat.zero_add Nat.add_zero Nat.mul_one Nat.one_mul Nat.add_assoc Option.some.injEq eq_self
set_option maxHeartbeats 4000000
set_option linter.unusedSimpArgs false
set_option linter.unusedVariables false
/-! Two matrices, number by number. -/
theorem f54 {m n : Mx} {g i k bf ba bb : Nat} {of oa ob : Bool} {u : Int → Int → Int} {v : Int → Int → Bool} {H : Heap} (hf : hasBody Try.prog g = true) (hg : ∀ H x y, InB x → InB y → ACall Try.prog g [.int .i64 x, .int .i64 y] H (.tup [.int .i64 (u x y), .bool (v x y)]) H)
    (hm : m.ok H) (hn : n.ok H) (hi : i < m.r) (hk : k < m.c) (hi2 : i < n.r) (hk2 : k < n.c) (b1 : blkAt H bf = some ⟨[.fn (.func g) [] []], of⟩) (b2 : blkAt H ba = some ⟨m.av, oa⟩) (b3 : blkAt H bb = some ⟨n.av, ob⟩) :
    ACall Try.prog 54 [.int .i64 (i : Nat), .int .i64 (k : Nat), .ptr bf 0, .ptr ba 0, .ptr bb 0] H (.tup [.int .i64 (u (m.at i k) (n.at i k)), .bool (v (m.at i k) (n.at i k))]) H := by
  refine acall54 (by simp) (acs_start ?_)
  have g1 := fun G => f31 (hm.app G) hi hk
  have g2 := fun G => f31 (hn.app G) hi2 hk2
  have g3 := fun H => hg H _ _ (Mx.at_in hm hi hk) (Mx.at_in hn hi2 hk2)
  have a1 := mav_len m
  have a2 := mav_all m
  have a3 := mav_take m
  have c1 := mav_len n
  have c2 := mav_all n
  have c3 := mav_take n
  have l1 := blkAt_lt b1
  have l2 := blkAt_lt b2
  have l3 := blkAt_lt b3
  generalize m.at i k = x at *
  generalize n.at i k = y at *
  unfold c54
  simp (maxSteps := 1000000) (disch := omega) only [go_sem, Nat.reduceEqDiff, Nat.reduceLT, Nat.reduceAdd, Nat.reduceSub, Nat.reduceMul, Nat.reduceBEq, Int.reduceLT, Int.reduceAdd, Int.reduceMul, Int.reduceSub, Int.reduceToNat, Int.reduceLE, Int.reduceEq, ↓reduceIte, reduceCtorEq, Int.reduceNeg, Nat.reduceLeDiff,  a1, a2, a3, c1, c2, c3, l1, l2, l3, b1, b2, b3]
  first | refine callB_intro (g1 _) ?_ | refine callD_intro (g1 _) ?_ | refine callP_intro (fun _ => (g1 _)) ?_ | refine callX_pure (g1 _) ?_
  simp (maxSteps := 1000000) (disch := omega) only [go_sem, Nat.reduceEqDiff, Nat.reduceLT, Nat.reduceAdd, Nat.reduceSub, Nat.reduceMul, Nat.reduceBEq, Int.reduceLT, Int.reduceAdd, Int.reduceMul, Int.reduceSub, Int.reduceToNat, Int.reduceLE, Int.reduceEq, ↓reduceIte, reduceCtorEq, Int.reduceNeg, Nat.reduceLeDiff,  a1, a2, a3, c1, c2, c3, l1, l2, l3, b1, b2, b3]
  first | refine callB_intro (g2 _) ?_ | refine callD_intro (g2 _) ?_ | refine callP_intro (fun _ => (g2 _)) ?_ | refine callX_pure (g2 _) ?_
  simp (maxSteps := 1000000) (disch := omega) only [go_sem, Nat.reduceEqDiff, Nat.reduceLT, Nat.reduceAdd, Nat.reduceSub, Nat.reduceMul, Nat.reduceBEq, Int.reduceLT, Int.reduceAdd, Int.reduceMul, Int.reduceSub, Int.reduceToNat, Int.reduceLE, Int.reduceEq, ↓reduceIte, reduceCtorEq, Int.reduceNeg, Nat.reduceLeDiff,  hf]
  first | refine callB_intro (g3 _) ?_ | refine callD_intro (g3 _) ?_ | refine callP_intro (fun _ => (g3 _)) ?_ | refine callX_pure (g3 _) ?_
  simp (maxSteps := 1000000) (disch := omega) only [go_sem, Nat.reduceEqDiff, Nat.reduceLT, Nat.reduceAdd, Nat.reduceSub, Nat.reduceMul, Nat.reduceBEq, Int.reduceLT, Int.reduceAdd, Int.reduceMul, Int.reduceSub, Int.reduceToNat, Int.reduceLE, Int.reduceEq, ↓reduceIte, reduceCtorEq, Int.reduceNeg, Nat.reduceLeDiff]
  exact fin_same (by simp) _ (by first | exact (List.append_nil _).symm | rfl) (by simp (maxSteps := 1000000) (disch := omega) only [resVal, resAll, resOne, rs54, Env.get, go_sem, Nat.reduceEqDiff, Nat.reduceLT, Nat.reduceAdd, Nat.reduceSub, Nat.reduceMul, Nat.reduceBEq, Int.reduceLT, Int.reduceAdd, Int.reduceMul, Int.reduceSub, Int.reduceToNat, Int.reduceLE, Int.reduceEq, ↓reduceIte, reduceCtorEq, Int.reduceNeg, Nat.reduceLeDiff]) (by simp only [AV.und, AV.unds, and_self])
theorem hb54 : hasBody Try.prog 54 = true := by kernel_rfl
theorem f35_no {m n : Mx} {g : Nat} {H : Heap} (hs : ¬ (m.r = n.r ∧ m.c = n.c)) :
    ACall Try.prog 35 [.agg m.av, .agg n.av, .fn (.func g) [] []] H (.tup [.agg [.int .i64 0, .int .i64 0, .nils], .bool false, .int .i64 9]) H := by
  refine acall35 (by simp) (acs_start ?_)
  have g1 := fun G => f28 (m := m) (H := G)
  have g2 := fun G => f28 (m := n) (H := G)
  have a1 := mav_len m
  have a2 := mav_all m
  have a3 := mav_take m
  have c1 := mav_len n
  have c2 := mav_all n
  have c3 := mav_take n
  have e1 : (decide ((m.r : Int) = (n.r : Int)) && decide ((m.c : Int) = (n.c : Int))) = false := by
    rw [Bool.eq_false_iff]
    intro h
    rw [Bool.and_eq_true, decide_eq_true_eq, decide_eq_true_eq] at h
    omega
  unfold c35
  simp (maxSteps := 1000000) (disch := omega) only [go_sem, Nat.reduceEqDiff, Nat.reduceLT, Nat.reduceAdd, Nat.reduceSub, Nat.reduceMul, Nat.reduceBEq, Int.reduceLT, Int.reduceAdd, Int.reduceMul, Int.reduceSub, Int.reduceToNat, Int.reduceLE, Int.reduceEq, ↓reduceIte, reduceCtorEq, Int.reduceNeg, Nat.reduceLeDiff,  a1, a2, a3, c1, c2, c3]
  first | refine callB_intro (g1 _) ?_ | refine callD_intro (g1 _) ?_ | refine callP_intro (fun _ => (g1 _)) ?_ | refine callX_pure (g1 _) ?_
  simp (maxSteps := 1000000) (disch := omega) only [go_sem, Nat.reduceEqDiff, Nat.reduceLT, Nat.reduceAdd, Nat.reduceSub, Nat.reduceMul, Nat.reduceBEq, Int.reduceLT, Int.reduceAdd, Int.reduceMul, Int.reduceSub, Int.reduceToNat, Int.reduceLE, Int.reduceEq, ↓reduceIte, reduceCtorEq, Int.reduceNeg, Nat.reduceLeDiff,  a1, a2, a3, c1, c2, c3]
  first | refine callB_intro (g2 _) ?_ | refine callD_intro (g2 _) ?_ | refine callP_intro (fun _ => (g2 _)) ?_ | refine callX_pure (g2 _) ?_
  simp (maxSteps := 1000000) (disch := omega) only [go_sem, Nat.reduceEqDiff, Nat.reduceLT, Nat.reduceAdd, Nat.reduceSub, Nat.reduceMul, Nat.reduceBEq, Int.reduceLT, Int.reduceAdd, Int.reduceMul, Int.reduceSub, Int.reduceToNat, Int.reduceLE, Int.reduceEq, ↓reduceIte, reduceCtorEq, Int.reduceNeg, Nat.reduceLeDiff,  e1]
  exact fin_same (by simp) _ (by first | exact (List.append_nil _).symm | rfl) (by simp (maxSteps := 1000000) (disch := omega) only [resVal, resAll, resOne, rs35, Env.get, go_sem, Nat.reduceEqDiff, Nat.reduceLT, Nat.reduceAdd, Nat.reduceSub, Nat.reduceMul, Nat.reduceBEq, Int.reduceLT, Int.reduceAdd, Int.reduceMul, Int.reduceSub, Int.reduceToNat, Int.reduceLE, Int.reduceEq, ↓reduceIte, reduceCtorEq, Int.reduceNeg, Nat.reduceLeDiff]) (by simp only [AV.und, AV.unds, and_self])
theorem f35 {m n : Mx} {g : Nat} {u : Int → Int → Int} {v : Int → Int → Bool} {H : Heap} (hf : hasBody Try.prog g = true) (hg : ∀ H x y, InB x → InB y → ACall Try.prog g [.int .i64 x, .int .i64 y] H (.tup [.int .i64 (u x y), .bool (v x y)]) H)
    (hm : m.ok H) (hn : n.ok H) (hr : m.r = n.r) (hc : m.c = n.c) :
    ACallE Try.prog 35 [.agg m.av, .agg n.av, .fn (.func g) [] []] H fun z H' => ∃ w, z = .tup [.agg [.int .i64 (m.r : Nat), .int .i64 (m.c : Nat), w], .bool (matO (fun i k => v (m.at i k) (n.at i k)) m.r m.c), .int .i64 0] ∧ Rw i64 H' w (matL (fun i k => u (m.at i k) (n.at i k)) m.r m.c) := by
  refine acallE (fun v Hf h => acallK35 (by simp) h) (acs_start ?_)
  have g1 := fun G => f28 (m := m) (H := G)
  have g2 := fun G => f28 (m := n) (H := G)
  have a1 := mav_len m
  have a2 := mav_all m
  have a3 := mav_take m
  have c1 := mav_len n
  have c2 := mav_all n
  have c3 := mav_take n
  have e1 : (decide ((m.r : Int) = (n.r : Int)) && decide ((m.c : Int) = (n.c : Int))) = true := by rw [hr, hc]; simp
  have g27 := fun (G : Heap) => f27 (f := 54) (H := (H ++ (some ⟨m.av, true⟩ :: some ⟨n.av, true⟩ :: some ⟨[.fn (.func g) [] []], true⟩ :: G)).set (H.length + 3) none) (ys := [.ptr (H.length + 2) 0, .ptr H.length 0, .ptr (H.length + 1) 0]) (q := fun i k => u (m.at i k) (n.at i k)) (b := fun i k => v (m.at i k) (n.at i k)) hm.hr hm.hc hb54
    (fun H' i k hx hi hk => f54 (of := true) (oa := true) (ob := true) hf hg ((hm.app_set (by omega) _).ext hx) ((hn.app_set (by omega) _).ext hx) hi hk (by omega) (by omega) (hx.blk (by rw [blkAt_set_ne (by omega)]; simp only [go_sem, Nat.reduceEqDiff, Nat.reduceLT, Nat.reduceAdd, Nat.reduceSub, Nat.reduceMul, Nat.reduceBEq, Int.reduceLT, Int.reduceAdd, Int.reduceMul, Int.reduceSub, Int.reduceToNat, Int.reduceLE, Int.reduceEq, ↓reduceIte, reduceCtorEq, Int.reduceNeg, Nat.reduceLeDiff])) (hx.blk (by rw [blkAt_set_ne (by omega)]; simp only [go_sem, Nat.reduceEqDiff, Nat.reduceLT, Nat.reduceAdd, Nat.reduceSub, Nat.reduceMul, Nat.reduceBEq, Int.reduceLT, Int.reduceAdd, Int.reduceMul, Int.reduceSub, Int.reduceToNat, Int.reduceLE, Int.reduceEq, ↓reduceIte, reduceCtorEq, Int.reduceNeg, Nat.reduceLeDiff])) (hx.blk (by rw [blkAt_set_ne (by omega)]; simp only [go_sem, Nat.reduceEqDiff, Nat.reduceLT, Nat.reduceAdd, Nat.reduceSub, Nat.reduceMul, Nat.reduceBEq, Int.reduceLT, Int.reduceAdd, Int.reduceMul, Int.reduceSub, Int.reduceToNat, Int.reduceLE, Int.reduceEq, ↓reduceIte, reduceCtorEq, Int.reduceNeg, Nat.reduceLeDiff])))
  unfold c35
  simp (maxSteps := 1000000) (disch := omega) only [go_sem, Nat.reduceEqDiff, Nat.reduceLT, Nat.reduceAdd, Nat.reduceSub, Nat.reduceMul, Nat.reduceBEq, Int.reduceLT, Int.reduceAdd, Int.reduceMul, Int.reduceSub, Int.reduceToNat, Int.reduceLE, Int.reduceEq, ↓reduceIte, reduceCtorEq, Int.reduceNeg, Nat.reduceLeDiff,  a1, a2, a3, c1, c2, c3]
  first | refine callB_intro (g1 _) ?_ | refine callD_intro (g1 _) ?_ | refine callP_intro (fun _ => (g1 _)) ?_ | refine callX_pure (g1 _) ?_
  simp (maxSteps := 1000000) (disch := omega) only [go_sem, Nat.reduceEqDiff, Nat.reduceLT, Nat.reduceAdd, Nat.reduceSub, Nat.reduceMul, Nat.reduceBEq, Int.reduceLT, Int.reduceAdd, Int.reduceMul, Int.reduceSub, Int.reduceToNat, Int.reduceLE, Int.reduceEq, ↓reduceIte, reduceCtorEq, Int.reduceNeg, Nat.reduceLeDiff,  a1, a2, a3, c1, c2, c3]
  first | refine callB_intro (g2 _) ?_ | refine callD_intro (g2 _) ?_ | refine callP_intro (fun _ => (g2 _)) ?_ | refine callX_pure (g2 _) ?_
  simp (maxSteps := 1000000) (disch := omega) only [go_sem, Nat.reduceEqDiff, Nat.reduceLT, Nat.reduceAdd, Nat.reduceSub, Nat.reduceMul, Nat.reduceBEq, Int.reduceLT, Int.reduceAdd, Int.reduceMul, Int.reduceSub, Int.reduceToNat, Int.reduceLE, Int.reduceEq, ↓reduceIte, reduceCtorEq, Int.reduceNeg, Nat.reduceLeDiff,  e1, a1, a2, a3]
  first | refine callB_intro (g1 _) ?_ | refine callD_intro (g1 _) ?_ | refine callP_intro (fun _ => (g1 _)) ?_ | refine callX_pure (g1 _) ?_
  simp (maxSteps := 1000000) (disch := omega) only [go_sem, Nat.reduceEqDiff, Nat.reduceLT, Nat.reduceAdd, Nat.reduceSub, Nat.reduceMul, Nat.reduceBEq, Int.reduceLT, Int.reduceAdd, Int.reduceMul, Int.reduceSub, Int.reduceToNat, Int.reduceLE, Int.reduceEq, ↓reduceIte, reduceCtorEq, Int.reduceNeg, Nat.reduceLeDiff]
  first | refine callBE (ACallE.frame (b := H.length + 3) (x := ⟨[.int .i64 0, .int .i64 0, .nils], true⟩) (by simp only [go_sem, Nat.reduceEqDiff, Nat.reduceLT, Nat.reduceAdd, Nat.reduceSub, Nat.reduceMul, Nat.reduceBEq, Int.reduceLT, Int.reduceAdd, Int.reduceMul, Int.reduceSub, Int.reduceToNat, Int.reduceLE, Int.reduceEq, ↓reduceIte, reduceCtorEq, Int.reduceNeg, Nat.reduceLeDiff]) rfl (g27 _)) ?_ | refine callDE (ACallE.frame (b := H.length + 3) (x := ⟨[.int .i64 0, .int .i64 0, .nils], true⟩) (by simp only [go_sem, Nat.reduceEqDiff, Nat.reduceLT, Nat.reduceAdd, Nat.reduceSub, Nat.reduceMul, Nat.reduceBEq, Int.reduceLT, Int.reduceAdd, Int.reduceMul, Int.reduceSub, Int.reduceToNat, Int.reduceLE, Int.reduceEq, ↓reduceIte, reduceCtorEq, Int.reduceNeg, Nat.reduceLeDiff]) rfl (g27 _)) ?_ | refine callXE (ACallE.frame (b := H.length + 3) (x := ⟨[.int .i64 0, .int .i64 0, .nils], true⟩) (by simp only [go_sem, Nat.reduceEqDiff, Nat.reduceLT, Nat.reduceAdd, Nat.reduceSub, Nat.reduceMul, Nat.reduceBEq, Int.reduceLT, Int.reduceAdd, Int.reduceMul, Int.reduceSub, Int.reduceToNat, Int.reduceLE, Int.reduceEq, ↓reduceIte, reduceCtorEq, Int.reduceNeg, Nat.reduceLeDiff]) rfl (g27 _)) ?_
  rintro z H1 hx ⟨b1, w, rfl, hw⟩
  obtain ⟨p, off, kk, rfl, hs⟩ := hw
  have bl1 := blkAt_lt b1
  have ok2 := fun y => hs.unset (some ⟨y, true⟩)
  simp (maxSteps := 1000000) (disch := omega) only [go_sem, Nat.reduceEqDiff, Nat.reduceLT, Nat.reduceAdd, Nat.reduceSub, Nat.reduceMul, Nat.reduceBEq, Int.reduceLT, Int.reduceAdd, Int.reduceMul, Int.reduceSub, Int.reduceToNat, Int.reduceLE, Int.reduceEq, ↓reduceIte, reduceCtorEq, Int.reduceNeg, Nat.reduceLeDiff,  b1, bl1, blkAt_lo, set_lo, List.length_set]
  refine fin_e (by simp) (by simp (maxSteps := 1000000) (disch := omega) only [resVal, resAll, resOne, rs35, Env.get, go_sem, Nat.reduceEqDiff, Nat.reduceLT, Nat.reduceAdd, Nat.reduceSub, Nat.reduceMul, Nat.reduceBEq, Int.reduceLT, Int.reduceAdd, Int.reduceMul, Int.reduceSub, Int.reduceToNat, Int.reduceLE, Int.reduceEq, ↓reduceIte, reduceCtorEq, Int.reduceNeg, Nat.reduceLeDiff, b1, bl1, blkAt_los, blkAt_lo, set_lo, List.length_set, blkAt_set_self] <;> rfl) ((((Ext.app _ _).trans hx).set (by omega) _).to _) ⟨_, rfl, (Rw.mk _ (ok2 _)).app _⟩
theorem hb36 : hasBody Try.prog 36 = true := by kernel_rfl
theorem hb37 : hasBody Try.prog 37 = true := by kernel_rfl
def sumL (m n : Mx) : List Int := matL (fun i k => cl (m.at i k + n.at i k)) m.r m.c
def sumO (m n : Mx) : Bool := matO (fun i k => ov (m.at i k + n.at i k)) m.r m.c
def subL (m n : Mx) : List Int := matL (fun i k => cl (m.at i k - n.at i k)) m.r m.c
def subO (m n : Mx) : Bool := matO (fun i k => ov (m.at i k - n.at i k)) m.r m.c
theorem f14 {m n : Mx} {H : Heap} (hm : m.ok H) (hn : n.ok H) (hr : m.r = n.r) (hc : m.c = n.c) :
    ACallE Try.prog 14 [.agg m.av, .agg n.av] H fun z H' => ∃ w, z = .tup [.agg [.int .i64 (m.r : Nat), .int .i64 (m.c : Nat), w], .bool (sumO m n), .int .i64 0] ∧ Rw i64 H' w (sumL m n) := by
  refine acallE (fun v Hf h => acallK14 (by simp) h) (acs_start ?_)
  have a1 := mav_len m
  have a2 := mav_all m
  have a3 := mav_take m
  have c1 := mav_len n
  have c2 := mav_all n
  have c3 := mav_take n
  have g := fun (G : Heap) => f35 (g := 36) (H := (H ++ (some ⟨m.av, true⟩ :: some ⟨n.av, true⟩ :: G)).set (H.length + 2) none) (u := fun x y => cl (x + y)) (v := fun x y => ov (x + y)) hb36 (fun H x y hx hy => f36 hx hy) (hm.app_set (by omega) _) (hn.app_set (by omega) _) hr hc
  unfold c14
  simp (maxSteps := 1000000) (disch := omega) only [go_sem, Nat.reduceEqDiff, Nat.reduceLT, Nat.reduceAdd, Nat.reduceSub, Nat.reduceMul, Nat.reduceBEq, Int.reduceLT, Int.reduceAdd, Int.reduceMul, Int.reduceSub, Int.reduceToNat, Int.reduceLE, Int.reduceEq, ↓reduceIte, reduceCtorEq, Int.reduceNeg, Nat.reduceLeDiff,  a1, a2, a3, c1, c2, c3]
  first | refine callBE (ACallE.frame (b := H.length + 2) (x := ⟨[.int .i64 0, .int .i64 0, .nils], true⟩) (by simp only [go_sem, Nat.reduceEqDiff, Nat.reduceLT, Nat.reduceAdd, Nat.reduceSub, Nat.reduceMul, Nat.reduceBEq, Int.reduceLT, Int.reduceAdd, Int.reduceMul, Int.reduceSub, Int.reduceToNat, Int.reduceLE, Int.reduceEq, ↓reduceIte, reduceCtorEq, Int.reduceNeg, Nat.reduceLeDiff]) rfl (g _)) ?_ | refine callDE (ACallE.frame (b := H.length + 2) (x := ⟨[.int .i64 0, .int .i64 0, .nils], true⟩) (by simp only [go_sem, Nat.reduceEqDiff, Nat.reduceLT, Nat.reduceAdd, Nat.reduceSub, Nat.reduceMul, Nat.reduceBEq, Int.reduceLT, Int.reduceAdd, Int.reduceMul, Int.reduceSub, Int.reduceToNat, Int.reduceLE, Int.reduceEq, ↓reduceIte, reduceCtorEq, Int.reduceNeg, Nat.reduceLeDiff]) rfl (g _)) ?_ | refine callXE (ACallE.frame (b := H.length + 2) (x := ⟨[.int .i64 0, .int .i64 0, .nils], true⟩) (by simp only [go_sem, Nat.reduceEqDiff, Nat.reduceLT, Nat.reduceAdd, Nat.reduceSub, Nat.reduceMul, Nat.reduceBEq, Int.reduceLT, Int.reduceAdd, Int.reduceMul, Int.reduceSub, Int.reduceToNat, Int.reduceLE, Int.reduceEq, ↓reduceIte, reduceCtorEq, Int.reduceNeg, Nat.reduceLeDiff]) rfl (g _)) ?_
  rintro z H1 hx ⟨b1, w, rfl, hw⟩
  obtain ⟨p, off, kk, rfl, hs⟩ := hw
  have bl1 := blkAt_lt b1
  have ok2 := fun y => hs.unset (some ⟨y, true⟩)
  simp (maxSteps := 1000000) (disch := omega) only [go_sem, Nat.reduceEqDiff, Nat.reduceLT, Nat.reduceAdd, Nat.reduceSub, Nat.reduceMul, Nat.reduceBEq, Int.reduceLT, Int.reduceAdd, Int.reduceMul, Int.reduceSub, Int.reduceToNat, Int.reduceLE, Int.reduceEq, ↓reduceIte, reduceCtorEq, Int.reduceNeg, Nat.reduceLeDiff,  b1, bl1, blkAt_lo, set_lo, List.length_set]
  refine fin_e (by simp) (by simp (maxSteps := 1000000) (disch := omega) only [resVal, resAll, resOne, rs14, Env.get, go_sem, Nat.reduceEqDiff, Nat.reduceLT, Nat.reduceAdd, Nat.reduceSub, Nat.reduceMul, Nat.reduceBEq, Int.reduceLT, Int.reduceAdd, Int.reduceMul, Int.reduceSub, Int.reduceToNat, Int.reduceLE, Int.reduceEq, ↓reduceIte, reduceCtorEq, Int.reduceNeg, Nat.reduceLeDiff, b1, bl1, blkAt_los, blkAt_lo, set_lo, List.length_set, blkAt_set_self] <;> rfl) (((Ext.app _ _).trans hx).set (by omega) _) ⟨_, rfl, Rw.mk _ (ok2 _)⟩
theorem f15 {m n : Mx} {H : Heap} (hm : m.ok H) (hn : n.ok H) (hr : m.r = n.r) (hc : m.c = n.c) :
    ACallE Try.prog 15 [.agg m.av, .agg n.av] H fun z H' => ∃ w, z = .tup [.agg [.int .i64 (m.r : Nat), .int .i64 (m.c : Nat), w], .bool (subO m n), .int .i64 0] ∧ Rw i64 H' w (subL m n) := by
  refine acallE (fun v Hf h => acallK15 (by simp) h) (acs_start ?_)
  have a1 := mav_len m
  have a2 := mav_all m
  have a3 := mav_take m
  have c1 := mav_len n
  have c2 := mav_all n
  have c3 := mav_take n
  have g := fun (G : Heap) => f35 (g := 37) (H := (H ++ (some ⟨m.av, true⟩ :: some ⟨n.av, true⟩ :: G)).set (H.length + 2) none) (u := fun x y => cl (x - y)) (v := fun x y => ov (x - y)) hb37 (fun H x y hx hy => f37 hx hy) (hm.app_set (by omega) _) (hn.app_set (by omega) _) hr hc
  unfold c15
  simp (maxSteps := 1000000) (disch := omega) only [go_sem, Nat.reduceEqDiff, Nat.reduceLT, Nat.reduceAdd, Nat.reduceSub, Nat.reduceMul, Nat.reduceBEq, Int.reduceLT, Int.reduceAdd, Int.reduceMul, Int.reduceSub, Int.reduceToNat, Int.reduceLE, Int.reduceEq, ↓reduceIte, reduceCtorEq, Int.reduceNeg, Nat.reduceLeDiff,  a1, a2, a3, c1, c2, c3]
  first | refine callBE (ACallE.frame (b := H.length + 2) (x := ⟨[.int .i64 0, .int .i64 0, .nils], true⟩) (by simp only [go_sem, Nat.reduceEqDiff, Nat.reduceLT, Nat.reduceAdd, Nat.reduceSub, Nat.reduceMul, Nat.reduceBEq, Int.reduceLT, Int.reduceAdd, Int.reduceMul, Int.reduceSub, Int.reduceToNat, Int.reduceLE, Int.reduceEq, ↓reduceIte, reduceCtorEq, Int.reduceNeg, Nat.reduceLeDiff]) rfl (g _)) ?_ | refine callDE (ACallE.frame (b := H.length + 2) (x := ⟨[.int .i64 0, .int .i64 0, .nils], true⟩) (by simp only [go_sem, Nat.reduceEqDiff, Nat.reduceLT, Nat.reduceAdd, Nat.reduceSub, Nat.reduceMul, Nat.reduceBEq, Int.reduceLT, Int.reduceAdd, Int.reduceMul, Int.reduceSub, Int.reduceToNat, Int.reduceLE, Int.reduceEq, ↓reduceIte, reduceCtorEq, Int.reduceNeg, Nat.reduceLeDiff]) rfl (g _)) ?_ | refine callXE (ACallE.frame (b := H.length + 2) (x := ⟨[.int .i64 0, .int .i64 0, .nils], true⟩) (by simp only [go_sem, Nat.reduceEqDiff, Nat.reduceLT, Nat.reduceAdd, Nat.reduceSub, Nat.reduceMul, Nat.reduceBEq, Int.reduceLT, Int.reduceAdd, Int.reduceMul, Int.reduceSub, Int.reduceToNat, Int.reduceLE, Int.reduceEq, ↓reduceIte, reduceCtorEq, Int.reduceNeg, Nat.reduceLeDiff]) rfl (g _)) ?_
  rintro z H1 hx ⟨b1, w, rfl, hw⟩
  obtain ⟨p, off, kk, rfl, hs⟩ := hw
  have bl1 := blkAt_lt b1
  have ok2 := fun y => hs.unset (some ⟨y, true⟩)
  simp (maxSteps := 1000000) (disch := omega) only [go_sem, Nat.reduceEqDiff, Nat.reduceLT, Nat.reduceAdd, Nat.reduceSub, Nat.reduceMul, Nat.reduceBEq, Int.reduceLT, Int.reduceAdd, Int.reduceMul, Int.reduceSub, Int.reduceToNat, Int.reduceLE, Int.reduceEq, ↓reduceIte, reduceCtorEq, Int.reduceNeg, Nat.reduceLeDiff,  b1, bl1, blkAt_lo, set_lo, List.length_set]
  refine fin_e (by simp) (by simp (maxSteps := 1000000) (disch := omega) only [resVal, resAll, resOne, rs15, Env.get, go_sem, Nat.reduceEqDiff, Nat.reduceLT, Nat.reduceAdd, Nat.reduceSub, Nat.reduceMul, Nat.reduceBEq, Int.reduceLT, Int.reduceAdd, Int.reduceMul, Int.reduceSub, Int.reduceToNat, Int.reduceLE, Int.reduceEq, ↓reduceIte, reduceCtorEq, Int.reduceNeg, Nat.reduceLeDiff, b1, bl1, blkAt_los, blkAt_lo, set_lo, List.length_set, blkAt_set_self] <;> rfl) (((Ext.app _ _).trans hx).set (by omega) _) ⟨_, rfl, Rw.mk _ (ok2 _)⟩
end Go.Proofs.Ytmlklopopokjoaa.Ah
