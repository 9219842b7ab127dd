/- Ve: a part of the proof: contracts of functions, or plain laws. Conditions: none. -/
import Derived.Test.YtbjlbcihhleclaaVd
namespace Go.Proofs.Ytbjlbcihhleclaa.Ah
open Go Go.WideShapes
attribute [local irreducible] acs aopsK drawK leave condK bindR bindD bindX guardK guardD callB callD callX callP callPv rfunG rfunK yldB yldD
attribute [local go_sem] mop mget mfind mput mres keyed AV.isAgg beq_self_eq_true Bool.true_and Option.isSome_some List.set_cons_zero acs_nil acs_blk acs_skip acs_reg acs_dreg acs_freg acs_nam0 acs_nam nones acs_seq acs_cond acs_block acs_exit acs_ret acs_kl acs_loop leave_nil leave_code leave_lp leave_blk aopsK_nil aopsK_cons aopsK_guard bindR_val bindR_need bindR_br bindR_call bindR_ycall acs_rfun rfunG_fn bindR_bad drawK_nil drawK_cons drawK_wat bindW_val bindW_need bindW_br WatL_nil WatL_cons isP_ptr drawK_ext drawK_pur drawK_guard callPv_fn drawK_purv bindD_val bindD_need bindD_br bindD_call bindD_ycall bindD_bad bindX_val bindX_need bindX_br bindX_call guardD_bool guardD_tup grows grows0 List.append_cancel_left_eq List.cons.injEq exists_eq' exists_eq condK_bool guardK_bool guardK_tup sor r0 r1 r2 r3 rC rB rI rP rA rT rS rF rSl rO rbin rcut run1 Env.evals Env.eval Env.get Env.put Env.ins Env.del Env.dels argEnv AV.full AV.cells AV.cell eqCells decide_true decide_false decide_eq_true_eq decide_eq_false_iff_not Bool.not_eq_true' Bool.not_eq_false' true_and and_true false_implies true_implies forall_const Bool.not_true Bool.not_false Bool.false_eq_true Bool.true_eq_false List.getElem?_cons_zero List.getElem?_cons_succ List.length_cons List.length_nil List.length_append List.all_cons List.all_nil Bool.and_true Bool.and_self implies_true List.append_assoc List.cons_append List.nil_append List.append_nil i64_in imin_eq imax_eq cast3 cast0 cast1 cast2 Option.map_none ite_self and_false false_and Option.isSome_some or_true true_or Int.sub_zero Int.mul_one Nat.sub_zero Nat.zero_le Int.cast_ofNat_Int Int.natCast_nonneg Int.toNat_natCast ne_eq not_false_eq_true not_true_eq_false strC blkAt_app blkAt_app0 blkAt_zero blkAt_succ List.set_cons_zero List.set_cons_succ set_app set_app0 Option.map_some Option.bind_some rd setCells lay rdS szOk rapp ownAt lenAt Option.any_some Option.getD_some List.drop_zero List.drop_succ_cons List.take_succ_cons List.take_zero List.drop_nil List.take_nil Nat.lt_irrefl Nat.zero_add Nat.add_zero Nat.mul_one Nat.one_mul Nat.add_assoc Option.some.injEq eq_self
set_option maxHeartbeats 4000000
set_option linter.unusedSimpArgs false
set_option linter.unusedVariables false
/-! slices.Chunk: the function that is ranged over. -/
theorem f75_loop {b bs bn p off L : Nat} {cp : Option Nat} {Inv : Nat → Heap → Prop} {Q : Post} (hs : ∀ k H, Inv k H → (∃ o, blkAt H bs = some ⟨[.sl p off L 1 cp], o⟩) ∧ ∃ o, blkAt H bn = some ⟨[.int .i64 8], o⟩) (hL : L ≤ 4611686018427387904)
    (hy : ∀ k H, 8 * k < L → Inv k H → ∃ H', AYield Try.prog b [.sl p (off + 8 * k) (min 8 (L - 8 * k)) 1 (some (min 8 (L - 8 * k)))] H (.bool true) H' ∧ Inv (k + 1) H')
    (hq : ∀ T H, Inv ((L + 7) / 8) H → Q .normal T H) : ∀ (r k : Nat) (H : Heap), (L + 7) / 8 = k + r → Inv k H →
    acs Try.prog [.lp c75l0, .blk 0] [(0, .yld b), (1, .ptr bs 0), (2, .ptr bn 0), (4, .int .i64 ((8 * k : Nat) : Int))] H Q := by
  intro r
  induction r with
  | zero =>
    intro k H hr h
    obtain ⟨⟨o1, b1⟩, o2, b2⟩ := hs k H h
    have hge : ¬ ((8 * k : Nat) : Int) < (L : Int) := by omega
    have hk : (L + 7) / 8 = k := by omega
    rw [hk] at hq
    rw [acs_lp]; conv in Fr.code c75l0 => unfold c75l0
    simp (maxSteps := 1000000) (disch := omega) only [go_sem, Nat.reduceEqDiff, Nat.reduceLT, Nat.reduceAdd, Nat.reduceSub, Nat.reduceMul, Nat.reduceBEq, Int.reduceLT, Int.reduceAdd, Int.reduceMul, Int.reduceSub, Int.reduceToNat, Int.reduceLE, Int.reduceEq, ↓reduceIte, reduceCtorEq, Int.reduceNeg, Nat.reduceLeDiff,  b1, hge]
    exact hq _ _ h
  | succ r ih =>
    intro k H hr h
    obtain ⟨⟨o1, b1⟩, o2, b2⟩ := hs k H h
    have hlt : ((8 * k : Nat) : Int) < (L : Int) := by omega
    have hkL : 8 * k < L := by omega
    have y := hy k H hkL h
    rw [acs_lp]; conv in Fr.code c75l0 => unfold c75l0
    generalize hi : (8 * k : Nat) = i at *
    have u1 : (i : Int) ≤ (L : Int) := by omega
    have hL0 : ¬ (L = 0) := by omega
    have z := ih (k + 1)
    by_cases hc : 8 ≤ L - i
    · have e1 : min 8 (L - i) = 8 := by omega
      have e2 : imin 8 ((L - i : Nat) : Int) = 8 := by unfold imin; rw [if_neg (by omega)]
      have e3 : IntKind.i64.wrap ((i : Int) + 8) = ((i + 8 : Nat) : Int) := by rw [i64_in _ (by omega)]; omega
      have e4 : i + 8 - i = 8 := by omega
      have e5 : i + 8 ≤ L := by omega
      have e6 : 8 * (k + 1) = i + 8 := by omega
      rw [e1] at y
      rw [e6] at z
      simp (maxSteps := 1000000) (disch := omega) only [go_sem, Nat.reduceEqDiff, Nat.reduceLT, Nat.reduceAdd, Nat.reduceSub, Nat.reduceMul, Nat.reduceBEq, Int.reduceLT, Int.reduceAdd, Int.reduceMul, Int.reduceSub, Int.reduceToNat, Int.reduceLE, Int.reduceEq, ↓reduceIte, reduceCtorEq, Int.reduceNeg, Nat.reduceLeDiff,  b1, b2, hlt, u1, e2, e3, e4, hL0, Int.ofNat_le, e5, Nat.le_add_right, Nat.le_refl]
      refine yldBX y ?_
      intro H' h'
      obtain ⟨⟨o3, b3⟩, o4, b4⟩ := hs _ H' h'
      simp (maxSteps := 1000000) (disch := omega) only [go_sem, Nat.reduceEqDiff, Nat.reduceLT, Nat.reduceAdd, Nat.reduceSub, Nat.reduceMul, Nat.reduceBEq, Int.reduceLT, Int.reduceAdd, Int.reduceMul, Int.reduceSub, Int.reduceToNat, Int.reduceLE, Int.reduceEq, ↓reduceIte, reduceCtorEq, Int.reduceNeg, Nat.reduceLeDiff,  b3, b4, e3]
      exact z H' (by omega) h'
    · have e1 : min 8 (L - i) = L - i := by omega
      have e2 : imin 8 ((L - i : Nat) : Int) = ((L - i : Nat) : Int) := by unfold imin; rw [if_pos (by omega)]
      have e3 : IntKind.i64.wrap ((i : Int) + ((L - i : Nat) : Int)) = (L : Int) := by rw [i64_in _ (by omega)]; omega
      have e5 : IntKind.i64.wrap ((i : Int) + 8) = ((8 * (k + 1) : Nat) : Int) := by rw [i64_in _ (by omega)]; omega
      rw [e1] at y
      simp (maxSteps := 1000000) (disch := omega) only [go_sem, Nat.reduceEqDiff, Nat.reduceLT, Nat.reduceAdd, Nat.reduceSub, Nat.reduceMul, Nat.reduceBEq, Int.reduceLT, Int.reduceAdd, Int.reduceMul, Int.reduceSub, Int.reduceToNat, Int.reduceLE, Int.reduceEq, ↓reduceIte, reduceCtorEq, Int.reduceNeg, Nat.reduceLeDiff,  b1, b2, hlt, u1, e2, e3, hL0, Nat.le_refl, Int.le_refl]
      refine yldBX y ?_
      intro H' h'
      obtain ⟨⟨o3, b3⟩, o4, b4⟩ := hs _ H' h'
      simp (maxSteps := 1000000) (disch := omega) only [go_sem, Nat.reduceEqDiff, Nat.reduceLT, Nat.reduceAdd, Nat.reduceSub, Nat.reduceMul, Nat.reduceBEq, Int.reduceLT, Int.reduceAdd, Int.reduceMul, Int.reduceSub, Int.reduceToNat, Int.reduceLE, Int.reduceEq, ↓reduceIte, reduceCtorEq, Int.reduceNeg, Nat.reduceLeDiff,  b3, b4, e5]
      exact z H' (by omega) h'
theorem f75 {b bs bn p off L : Nat} {cp : Option Nat} {Inv : Nat → Heap → Prop} {H : Heap} (hs : ∀ k H, Inv k H → (∃ o, blkAt H bs = some ⟨[.sl p off L 1 cp], o⟩) ∧ ∃ o, blkAt H bn = some ⟨[.int .i64 8], o⟩) (hL : L ≤ 4611686018427387904)
    (hy : ∀ k H, 8 * k < L → Inv k H → ∃ H', AYield Try.prog b [.sl p (off + 8 * k) (min 8 (L - 8 * k)) 1 (some (min 8 (L - 8 * k)))] H (.bool true) H' ∧ Inv (k + 1) H') (h0 : Inv 0 H) :
    ACallX Try.prog 75 [.yld b, .ptr bs 0, .ptr bn 0] H fun v H' => v = .tup [] ∧ Inv ((L + 7) / 8) H' := by
  refine acallX (fun v Hf h => acallK75 (by simp) h) (acs_start ?_)
  unfold c75
  simp (maxSteps := 1000000) (disch := omega) only [go_sem, Nat.reduceEqDiff, Nat.reduceLT, Nat.reduceAdd, Nat.reduceSub, Nat.reduceMul, Nat.reduceBEq, Int.reduceLT, Int.reduceAdd, Int.reduceMul, Int.reduceSub, Int.reduceToNat, Int.reduceLE, Int.reduceEq, ↓reduceIte, reduceCtorEq, Int.reduceNeg, Nat.reduceLeDiff]
  refine f75_loop hs hL hy ?_ ((L + 7) / 8) 0 H (by omega) h0
  intro T H' h'
  refine fin_x (by simp) (by simp (maxSteps := 1000000) (disch := omega) only [resVal, resAll, resOne, rs75, Env.get, go_sem, Nat.reduceEqDiff, Nat.reduceLT, Nat.reduceAdd, Nat.reduceSub, Nat.reduceMul, Nat.reduceBEq, Int.reduceLT, Int.reduceAdd, Int.reduceMul, Int.reduceSub, Int.reduceToNat, Int.reduceLE, Int.reduceEq, ↓reduceIte, reduceCtorEq, Int.reduceNeg, Nat.reduceLeDiff, ] <;> rfl) ⟨rfl, h'⟩
theorem hb75 : hasBody Try.prog 75 = true := by kernel_rfl
theorem f61 {p off L : Nat} {cp : Option Nat} {H : Heap} : ACall Try.prog 61 [.sl p off L 1 cp, .int .i64 8] H (.fn (.func 75) [] [.ptr H.length 0, .ptr (H.length + 1) 0]) (H ++ [some ⟨[.sl p off L 1 cp], true⟩, some ⟨[.int .i64 8], true⟩]) := by
  refine acallK61 (by simp) (acs_start ?_)
  unfold c61
  simp (maxSteps := 1000000) (disch := omega) only [go_sem, Nat.reduceEqDiff, Nat.reduceLT, Nat.reduceAdd, Nat.reduceSub, Nat.reduceMul, Nat.reduceBEq, Int.reduceLT, Int.reduceAdd, Int.reduceMul, Int.reduceSub, Int.reduceToNat, Int.reduceLE, Int.reduceEq, ↓reduceIte, reduceCtorEq, Int.reduceNeg, Nat.reduceLeDiff]
  refine ⟨by simp, rfl, ?_⟩
  simp only [resVal, resAll, resOne, rs61, Env.get, go_sem, Nat.reduceEqDiff, Nat.reduceLT, Nat.reduceAdd, Nat.reduceSub, Nat.reduceMul, Nat.reduceBEq, Int.reduceLT, Int.reduceAdd, Int.reduceMul, Int.reduceSub, Int.reduceToNat, Int.reduceLE, Int.reduceEq, ↓reduceIte, reduceCtorEq, Int.reduceNeg, Nat.reduceLeDiff]
end Go.Proofs.Ytbjlbcihhleclaa.Ah
