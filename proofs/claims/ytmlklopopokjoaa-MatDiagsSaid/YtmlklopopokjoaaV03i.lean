/- V03i: a part of the proof: contracts of functions, or plain laws. Conditions: none. -/
import Derived.Test.YtmlklopopokjoaaV03h
namespace Go.Proofs.Ytmlklopopokjoaa.Ah
open Go Go.WideShapes
attribute [local irreducible] acs aopsK drawK leave condK bindR bindD bindX guardK guardD callB callD callX callP callPv
attribute [local go_sem] acs_nil acs_blk acs_skip acs_reg acs_dreg acs_freg acs_nam0 acs_nam nones acs_seq acs_cond acs_block acs_exit acs_ret acs_kl acs_loop leave_nil leave_code leave_lp leave_blk aopsK_nil aopsK_cons aopsK_guard bindR_val bindR_need bindR_br bindR_call bindR_bad drawK_nil drawK_cons drawK_ext drawK_pur drawK_guard callPv_fn drawK_purv bindD_val bindD_need bindD_br bindD_call bindD_bad bindX_val bindX_need bindX_br bindX_call guardD_bool guardD_tup grows grows0 List.append_cancel_left_eq List.cons.injEq exists_eq' exists_eq condK_bool guardK_bool guardK_tup sor r0 r1 r2 r3 rC rB rI rP rA rT rS rF rSl rO rbin rcut run1 Env.evals Env.eval Env.get Env.put Env.ins Env.del Env.dels argEnv AV.full AV.cells AV.cell eqCells decide_true decide_false decide_eq_true_eq decide_eq_false_iff_not Bool.not_eq_true' Bool.not_eq_false' true_and and_true false_implies true_implies forall_const Bool.not_true Bool.not_false Bool.false_eq_true Bool.true_eq_false List.getElem?_cons_zero List.getElem?_cons_succ List.length_cons List.length_nil List.length_append List.all_cons List.all_nil Bool.and_true Bool.and_self implies_true List.append_assoc List.cons_append List.nil_append List.append_nil i64_in imin_eq imax_eq cast3 cast0 cast1 cast2 Option.map_none ite_self and_false false_and Option.isSome_some or_true true_or Int.sub_zero Int.mul_one Nat.sub_zero Nat.zero_le Int.cast_ofNat_Int Int.natCast_nonneg Int.toNat_natCast ne_eq not_false_eq_true not_true_eq_false strC blkAt_app blkAt_app0 blkAt_zero blkAt_succ List.set_cons_zero List.set_cons_succ set_app set_app0 Option.map_some Option.bind_some rd setCells lay rdS szOk rapp ownAt lenAt Option.any_some Option.getD_some List.drop_zero List.drop_succ_cons List.take_succ_cons List.take_zero List.drop_nil List.take_nil Nat.lt_irrefl Nat.zero_add Nat.add_zero Nat.mul_one Nat.one_mul Nat.add_assoc Option.some.injEq eq_self
set_option maxHeartbeats 4000000
set_option linter.unusedSimpArgs false
set_option linter.unusedVariables false
/-! Products of matrices. -/
def dot (f g : Nat → Int) : Nat → Int × Bool
  | 0 => (0, false)
  | j + 1 => (cl ((dot f g j).1 + (mu (f j) (g j)).1), ((dot f g j).2 || (mu (f j) (g j)).2) || ov ((dot f g j).1 + (mu (f j) (g j)).1))
theorem dot_in (f g : Nat → Int) : ∀ j, InB (dot f g j).1
  | 0 => show InB 0 from ⟨by decide, by decide⟩
  | j + 1 => cl_in _
theorem mu_in (a b : Int) : InB (mu a b).1 := by
  unfold mu sg
  split <;> exact cl_in _
theorem f44 {m n : Mx} {i k ba bb : Nat} {oa ob : Bool} {H : Heap} (hm : m.ok H) (hn : n.ok H) (hc : m.c = n.r) (hi : i < m.r) (hk : k < n.c) (b2 : blkAt H ba = some ⟨m.av, oa⟩) (b3 : blkAt H bb = some ⟨n.av, ob⟩) :
    ACall Try.prog 44 [.int .i64 (i : Nat), .int .i64 (k : Nat), .ptr ba 0, .ptr bb 0] H (.tup [.int .i64 (dot (fun j => m.at i j) (fun j => n.at j k) m.c).1, .bool (dot (fun j => m.at i j) (fun j => n.at j k) m.c).2]) H := by
  refine acall44 (by simp) (acs_start ?_)
  have a1 := mav_len m
  have a2 := mav_all m
  have a3 := mav_take m
  have a4 : m.av[1]? = some (.int .i64 (m.c : Nat)) := rfl
  have c1 := mav_len n
  have c2 := mav_all n
  have c3 := mav_take n
  have l2 := blkAt_lt b2
  have l3 := blkAt_lt b3
  unfold c44
  simp (maxSteps := 1000000) (disch := omega) only [go_sem, Nat.reduceEqDiff, Nat.reduceLT, Nat.reduceAdd, Nat.reduceSub, Nat.reduceMul, Nat.reduceBEq, Int.reduceLT, Int.reduceAdd, Int.reduceMul, Int.reduceSub, Int.reduceToNat, Int.reduceLE, Int.reduceEq, ↓reduceIte, reduceCtorEq, Int.reduceNeg, Nat.reduceLeDiff,  a1, a2, a3, a4, c1, c2, c3, l2, l3, b2, b3]
  refine loop_nat (fun z T H' => ∃ j : Nat, T = [(0, .int .i64 (i : Nat)), (1, .int .i64 (k : Nat)), (2, .ptr ba 0), (3, .ptr bb 0), (8, .int .i64 (dot (fun j => m.at i j) (fun j => n.at j k) j).1), (9, .bool (dot (fun j => m.at i j) (fun j => n.at j k) j).2), (16, .int .i64 (m.c : Nat)), (17, .int .i64 (j : Nat))] ∧ H' = H ∧ j + z = m.c) ?_ ?_ m.c _ _ ⟨0, rfl, rfl, by omega⟩
  · rintro z T H' ⟨j, rfl, rfl, hj⟩ nx
    have hjb : j < 8 := by have := hm.hc.2; omega
    have hjc : (j : Int) < (m.c : Int) := by omega
    have g1 := fun G => f31 (hm.app G) hi (k := j) (by omega)
    have g2 := fun G => f31 (hn.app G) (i := j) (by omega) hk
    have g3 := fun H => f30 (H := H) (Mx.at_in hm hi (k := j) (by omega)) (Mx.at_in hn (i := j) (by omega) hk)
    have g4 := fun H => f36 (H := H) (dot_in (fun j => m.at i j) (fun j => n.at j k) j) (mu_in (m.at i j) (n.at j k))
    have e1 : (dot (fun j => m.at i j) (fun j => n.at j k) (j + 1)).1 = cl ((dot (fun j => m.at i j) (fun j => n.at j k) j).1 + (mu (m.at i j) (n.at j k)).1) := rfl
    have e2 : (dot (fun j => m.at i j) (fun j => n.at j k) (j + 1)).2 = (((dot (fun j => m.at i j) (fun j => n.at j k) j).2 || (mu (m.at i j) (n.at j k)).2) || ov ((dot (fun j => m.at i j) (fun j => n.at j k) j).1 + (mu (m.at i j) (n.at j k)).1)) := rfl
    have go : ∀ o' s', o' = (dot (fun j => m.at i j) (fun j => n.at j k) (j + 1)).2 → s' = (dot (fun j => m.at i j) (fun j => n.at j k) (j + 1)).1 → acs Try.prog _ [(0, .int .i64 (i : Nat)), (1, .int .i64 (k : Nat)), (2, .ptr ba 0), (3, .ptr bb 0), (8, .int .i64 s'), (9, .bool o'), (16, .int .i64 (m.c : Nat)), (17, .int .i64 ((j : Int) + 1))] _ _ := fun o' s' h1 h2 => nx _ _ ⟨j + 1, by rw [h1, h2]; simp, rfl, by omega⟩
    rw [e1, e2] at go
    clear nx
    generalize (dot (fun j => m.at i j) (fun j => n.at j k) j).1 = s at *
    generalize (dot (fun j => m.at i j) (fun j => n.at j k) j).2 = o at *
    generalize m.at i j = x at *
    generalize n.at j k = y at *
    generalize (mu x y).1 = p at *
    generalize (mu x y).2 = q at *
    rw [acs_lp]; conv in Fr.code c44l0 => unfold c44l0
    simp (maxSteps := 1000000) (disch := omega) only [go_sem, Nat.reduceEqDiff, Nat.reduceLT, Nat.reduceAdd, Nat.reduceSub, Nat.reduceMul, Nat.reduceBEq, Int.reduceLT, Int.reduceAdd, Int.reduceMul, Int.reduceSub, Int.reduceToNat, Int.reduceLE, Int.reduceEq, ↓reduceIte, reduceCtorEq, Int.reduceNeg, Nat.reduceLeDiff,  hjc, a1, a2, a3, c1, c2, c3, l2, l3, b2, b3]
    first | refine callB_intro (g1 _) ?_ | refine callD_intro (g1 _) ?_ | refine callP_intro (fun _ => (g1 _)) ?_ | refine callX_pure (g1 _) ?_
    simp (maxSteps := 1000000) (disch := omega) only [go_sem, Nat.reduceEqDiff, Nat.reduceLT, Nat.reduceAdd, Nat.reduceSub, Nat.reduceMul, Nat.reduceBEq, Int.reduceLT, Int.reduceAdd, Int.reduceMul, Int.reduceSub, Int.reduceToNat, Int.reduceLE, Int.reduceEq, ↓reduceIte, reduceCtorEq, Int.reduceNeg, Nat.reduceLeDiff,  a1, a2, a3, c1, c2, c3, l2, l3, b2, b3]
    have g2' := g2 []
    rw [List.append_nil] at g2'
    first | refine callB_intro (g2') ?_ | refine callD_intro (g2') ?_ | refine callP_intro (fun _ => (g2')) ?_ | refine callX_pure (g2') ?_
    simp (maxSteps := 1000000) (disch := omega) only [go_sem, Nat.reduceEqDiff, Nat.reduceLT, Nat.reduceAdd, Nat.reduceSub, Nat.reduceMul, Nat.reduceBEq, Int.reduceLT, Int.reduceAdd, Int.reduceMul, Int.reduceSub, Int.reduceToNat, Int.reduceLE, Int.reduceEq, ↓reduceIte, reduceCtorEq, Int.reduceNeg, Nat.reduceLeDiff]
    first | refine callB_intro (g3 _) ?_ | refine callD_intro (g3 _) ?_ | refine callP_intro (fun _ => (g3 _)) ?_ | refine callX_pure (g3 _) ?_
    simp (maxSteps := 1000000) (disch := omega) only [go_sem, Nat.reduceEqDiff, Nat.reduceLT, Nat.reduceAdd, Nat.reduceSub, Nat.reduceMul, Nat.reduceBEq, Int.reduceLT, Int.reduceAdd, Int.reduceMul, Int.reduceSub, Int.reduceToNat, Int.reduceLE, Int.reduceEq, ↓reduceIte, reduceCtorEq, Int.reduceNeg, Nat.reduceLeDiff]
    first | refine callB_intro (g4 _) ?_ | refine callD_intro (g4 _) ?_ | refine callP_intro (fun _ => (g4 _)) ?_ | refine callX_pure (g4 _) ?_
    cases o <;> cases q
    all_goals
      simp (maxSteps := 1000000) (disch := omega) only [go_sem, Nat.reduceEqDiff, Nat.reduceLT, Nat.reduceAdd, Nat.reduceSub, Nat.reduceMul, Nat.reduceBEq, Int.reduceLT, Int.reduceAdd, Int.reduceMul, Int.reduceSub, Int.reduceToNat, Int.reduceLE, Int.reduceEq, ↓reduceIte, reduceCtorEq, Int.reduceNeg, Nat.reduceLeDiff]
      refine go _ _ ?_ rfl
      simp
  · rintro T H' ⟨j, rfl, rfl, hj⟩
    obtain rfl : j = m.c := hj
    rw [acs_lp]; conv in Fr.code c44l0 => unfold c44l0
    simp (maxSteps := 1000000) (disch := omega) only [go_sem, Nat.reduceEqDiff, Nat.reduceLT, Nat.reduceAdd, Nat.reduceSub, Nat.reduceMul, Nat.reduceBEq, Int.reduceLT, Int.reduceAdd, Int.reduceMul, Int.reduceSub, Int.reduceToNat, Int.reduceLE, Int.reduceEq, ↓reduceIte, reduceCtorEq, Int.reduceNeg, Nat.reduceLeDiff,  Int.lt_irrefl]
    exact fin_same (by simp) _ (by first | exact (List.append_nil _).symm | rfl) (by simp (maxSteps := 1000000) (disch := omega) only [resVal, resAll, resOne, rs44, Env.get, go_sem, Nat.reduceEqDiff, Nat.reduceLT, Nat.reduceAdd, Nat.reduceSub, Nat.reduceMul, Nat.reduceBEq, Int.reduceLT, Int.reduceAdd, Int.reduceMul, Int.reduceSub, Int.reduceToNat, Int.reduceLE, Int.reduceEq, ↓reduceIte, reduceCtorEq, Int.reduceNeg, Nat.reduceLeDiff]) (by simp only [AV.und, AV.unds, and_self])
theorem hb44 : hasBody Try.prog 44 = true := by kernel_rfl
def mulL (m n : Mx) : List Int := matL (fun i k => (dot (fun j => m.at i j) (fun j => n.at j k) m.c).1) m.r n.c
def mulO (m n : Mx) : Bool := matO (fun i k => (dot (fun j => m.at i j) (fun j => n.at j k) m.c).2) m.r n.c
theorem f20 {m n : Mx} {H : Heap} (hm : m.ok H) (hn : n.ok H) (hc : m.c = n.r) :
    ACallE Try.prog 20 [.agg m.av, .agg n.av] H fun z H' => ∃ w, z = .tup [.agg [.int .i64 (m.r : Nat), .int .i64 (n.c : Nat), w], .bool (mulO m n), .int .i64 0] ∧ Rw i64 H' w (mulL m n) := by
  refine acallE (fun v Hf h => acallK20 (by simp) h) (acs_start ?_)
  have a1 := mav_len m
  have a2 := mav_all m
  have a3 : m.av[0]? = some (.int .i64 (m.r : Nat)) := rfl
  have a4 : m.av[1]? = some (.int .i64 (m.c : Nat)) := rfl
  have c1 := mav_len n
  have c2 := mav_all n
  have c3 : n.av[0]? = some (.int .i64 (n.r : Nat)) := rfl
  have c4 : n.av[1]? = some (.int .i64 (n.c : Nat)) := rfl
  have e1 : (m.c : Int) = (n.r : Int) := by omega
  have g27 := fun (G : Heap) => f27 (f := 44) (H := (H ++ (some ⟨m.av, true⟩ :: some ⟨n.av, true⟩ :: G)).set (H.length + 2) none) (ys := [.ptr H.length 0, .ptr (H.length + 1) 0]) (q := fun i k => (dot (fun j => m.at i j) (fun j => n.at j k) m.c).1) (b := fun i k => (dot (fun j => m.at i j) (fun j => n.at j k) m.c).2) hm.hr hn.hc hb44
    (fun H' i k hx hi hk => f44 (oa := true) (ob := true) ((hm.app_set (by omega) _).ext hx) ((hn.app_set (by omega) _).ext hx) hc hi hk (hx.blk (by rw [blkAt_set_ne (by omega)]; simp only [go_sem, Nat.reduceEqDiff, Nat.reduceLT, Nat.reduceAdd, Nat.reduceSub, Nat.reduceMul, Nat.reduceBEq, Int.reduceLT, Int.reduceAdd, Int.reduceMul, Int.reduceSub, Int.reduceToNat, Int.reduceLE, Int.reduceEq, ↓reduceIte, reduceCtorEq, Int.reduceNeg, Nat.reduceLeDiff])) (hx.blk (by rw [blkAt_set_ne (by omega)]; simp only [go_sem, Nat.reduceEqDiff, Nat.reduceLT, Nat.reduceAdd, Nat.reduceSub, Nat.reduceMul, Nat.reduceBEq, Int.reduceLT, Int.reduceAdd, Int.reduceMul, Int.reduceSub, Int.reduceToNat, Int.reduceLE, Int.reduceEq, ↓reduceIte, reduceCtorEq, Int.reduceNeg, Nat.reduceLeDiff])))
  unfold c20
  simp (maxSteps := 1000000) (disch := omega) only [go_sem, Nat.reduceEqDiff, Nat.reduceLT, Nat.reduceAdd, Nat.reduceSub, Nat.reduceMul, Nat.reduceBEq, Int.reduceLT, Int.reduceAdd, Int.reduceMul, Int.reduceSub, Int.reduceToNat, Int.reduceLE, Int.reduceEq, ↓reduceIte, reduceCtorEq, Int.reduceNeg, Nat.reduceLeDiff,  a1, a2, a3, a4, c1, c2, c3, c4, e1]
  first | refine callBE (ACallE.frame (b := H.length + 2) (x := ⟨[.int .i64 0, .int .i64 0, .nils], true⟩) (by simp only [go_sem, Nat.reduceEqDiff, Nat.reduceLT, Nat.reduceAdd, Nat.reduceSub, Nat.reduceMul, Nat.reduceBEq, Int.reduceLT, Int.reduceAdd, Int.reduceMul, Int.reduceSub, Int.reduceToNat, Int.reduceLE, Int.reduceEq, ↓reduceIte, reduceCtorEq, Int.reduceNeg, Nat.reduceLeDiff]) rfl (g27 _)) ?_ | refine callDE (ACallE.frame (b := H.length + 2) (x := ⟨[.int .i64 0, .int .i64 0, .nils], true⟩) (by simp only [go_sem, Nat.reduceEqDiff, Nat.reduceLT, Nat.reduceAdd, Nat.reduceSub, Nat.reduceMul, Nat.reduceBEq, Int.reduceLT, Int.reduceAdd, Int.reduceMul, Int.reduceSub, Int.reduceToNat, Int.reduceLE, Int.reduceEq, ↓reduceIte, reduceCtorEq, Int.reduceNeg, Nat.reduceLeDiff]) rfl (g27 _)) ?_ | refine callXE (ACallE.frame (b := H.length + 2) (x := ⟨[.int .i64 0, .int .i64 0, .nils], true⟩) (by simp only [go_sem, Nat.reduceEqDiff, Nat.reduceLT, Nat.reduceAdd, Nat.reduceSub, Nat.reduceMul, Nat.reduceBEq, Int.reduceLT, Int.reduceAdd, Int.reduceMul, Int.reduceSub, Int.reduceToNat, Int.reduceLE, Int.reduceEq, ↓reduceIte, reduceCtorEq, Int.reduceNeg, Nat.reduceLeDiff]) rfl (g27 _)) ?_
  rintro z H1 hx ⟨b1, w, rfl, hw⟩
  obtain ⟨p, off, kk, rfl, hs⟩ := hw
  have bl1 := blkAt_lt b1
  have ok2 := fun y => hs.unset (some ⟨y, true⟩)
  simp (maxSteps := 1000000) (disch := omega) only [go_sem, Nat.reduceEqDiff, Nat.reduceLT, Nat.reduceAdd, Nat.reduceSub, Nat.reduceMul, Nat.reduceBEq, Int.reduceLT, Int.reduceAdd, Int.reduceMul, Int.reduceSub, Int.reduceToNat, Int.reduceLE, Int.reduceEq, ↓reduceIte, reduceCtorEq, Int.reduceNeg, Nat.reduceLeDiff,  b1, bl1, blkAt_lo, set_lo, List.length_set]
  refine fin_e (by simp) (by simp (maxSteps := 1000000) (disch := omega) only [resVal, resAll, resOne, rs20, Env.get, go_sem, Nat.reduceEqDiff, Nat.reduceLT, Nat.reduceAdd, Nat.reduceSub, Nat.reduceMul, Nat.reduceBEq, Int.reduceLT, Int.reduceAdd, Int.reduceMul, Int.reduceSub, Int.reduceToNat, Int.reduceLE, Int.reduceEq, ↓reduceIte, reduceCtorEq, Int.reduceNeg, Nat.reduceLeDiff, b1, bl1, blkAt_los, blkAt_lo, set_lo, List.length_set, blkAt_set_self] <;> rfl) ((((Ext.app _ _).trans hx).set (by omega) _).to _) ⟨_, rfl, (Rw.mk _ (ok2 _)).app _⟩
end Go.Proofs.Ytmlklopopokjoaa.Ah
