/- V10v: a part of the proof: contracts of functions, or plain laws. Conditions: none. -/
import Derived.Test.YtjibcbfdfambeaaV10u
namespace Go.Proofs.Ytjibcbfdfambeaa.Ah
open Go Go.WideShapes
attribute [local irreducible] acs aopsK drawK leave condK bindR bindD bindX guardK guardD callB callD callX callP callPv
attribute [local go_sem] acs_nil acs_blk acs_skip acs_reg acs_dreg acs_seq acs_cond acs_block acs_exit acs_ret acs_kl acs_loop leave_nil leave_code leave_lp leave_blk aopsK_nil aopsK_cons aopsK_guard bindR_val bindR_need bindR_br bindR_call bindR_bad drawK_nil drawK_cons drawK_ext drawK_pur drawK_guard callPv_fn drawK_purv bindD_val bindD_need bindD_br bindD_call bindD_bad bindX_val bindX_need bindX_br bindX_call guardD_bool guardD_tup grows grows0 List.append_cancel_left_eq List.cons.injEq exists_eq' exists_eq condK_bool guardK_bool guardK_tup sor r0 r1 r2 r3 rC rB rI rP rA rT rS rF rSl rO rbin rcut run1 Env.evals Env.eval Env.get Env.put Env.ins Env.del Env.dels argEnv AV.full AV.cells AV.cell eqCells decide_true decide_false decide_eq_true_eq decide_eq_false_iff_not Bool.not_eq_true' Bool.not_eq_false' true_and and_true false_implies true_implies forall_const Bool.not_true Bool.not_false Bool.false_eq_true Bool.true_eq_false List.getElem?_cons_zero List.getElem?_cons_succ List.length_cons List.length_nil List.length_append List.all_cons List.all_nil Bool.and_true Bool.and_self implies_true List.append_assoc List.cons_append List.nil_append List.append_nil i64_in imin_eq imax_eq cast3 cast0 cast1 cast2 Option.map_none ite_self and_false false_and Option.isSome_some or_true true_or Int.sub_zero Int.mul_one Nat.sub_zero Nat.zero_le Int.cast_ofNat_Int Int.natCast_nonneg Int.toNat_natCast ne_eq not_false_eq_true not_true_eq_false strC blkAt_app blkAt_app0 blkAt_zero blkAt_succ List.set_cons_zero List.set_cons_succ set_app set_app0 Option.map_some Option.bind_some rd setCells lay rdS szOk rapp ownAt lenAt Option.any_some Option.getD_some List.drop_zero List.drop_succ_cons List.take_succ_cons List.take_zero List.drop_nil List.take_nil Nat.lt_irrefl Nat.zero_add Nat.add_zero Nat.mul_one Nat.one_mul Nat.add_assoc Option.some.injEq eq_self
set_option maxHeartbeats 4000000
set_option linter.unusedSimpArgs false
set_option linter.unusedVariables false
/-! Rows that are the same; stores that are the same. -/
theorem drop_cons {α : Type} {xs : List α} {j : Nat} {x : α} {r : List α} (h : xs.drop j = x :: r) : xs[j]? = some x ∧ xs.drop (j + 1) = r ∧ j < xs.length := by
  have h1 : xs[j]? = some x := by have := congrArg (·[0]?) h; simpa using this
  exact ⟨h1, by rw [← List.drop_drop, h]; rfl, (List.getElem?_eq_some_iff.1 h1).1⟩
theorem f33 {xs ys : List Int} {p q off off2 : Nat} {c1 c2 : Option Nat} {H : Heap} (hx : Sl i64 H p off xs) (hy : Sl i64 H q off2 ys) (hl : xs.length ≤ 4611686018427387904) :
    ACall Try.prog 33 [.sl p off xs.length 1 c1, .sl q off2 ys.length 1 c2] H (.bool (decide (xs = ys))) H := by
  refine acall33 (by simp) (acs_start ?_)
  unfold c33
  by_cases he : xs.length = ys.length
  rotate_left
  · have hne : ¬ (xs.length : Int) = (ys.length : Int) := by omega
    have e0 : decide (xs = ys) = false := decide_eq_false (fun e => he (by rw [e]))
    rw [e0]
    simp (maxSteps := 1000000) (disch := omega) only [go_sem, Nat.reduceEqDiff, Nat.reduceLT, Nat.reduceAdd, Nat.reduceSub, Nat.reduceMul, Nat.reduceBEq, Int.reduceLT, Int.reduceAdd, Int.reduceMul, Int.reduceSub, Int.reduceToNat, Int.reduceLE, Int.reduceEq, ↓reduceIte, reduceCtorEq, Int.reduceNeg, Nat.reduceLeDiff,  hne]
    exact fin_same (by simp) _ (by first | exact (List.append_nil _).symm | rfl) (by simp (maxSteps := 1000000) (disch := omega) only [resVal, resAll, resOne, rs33, Env.get, go_sem, Nat.reduceEqDiff, Nat.reduceLT, Nat.reduceAdd, Nat.reduceSub, Nat.reduceMul, Nat.reduceBEq, Int.reduceLT, Int.reduceAdd, Int.reduceMul, Int.reduceSub, Int.reduceToNat, Int.reduceLE, Int.reduceEq, ↓reduceIte, reduceCtorEq, Int.reduceNeg, Nat.reduceLeDiff]) (by simp only [AV.und, AV.unds, and_self])
  obtain ⟨cs, o, hp, hle, hcs⟩ := hx
  obtain ⟨ds, o2, hq, hle2, hds⟩ := hy
  rw [← he]
  simp (maxSteps := 1000000) (disch := omega) only [go_sem, Nat.reduceEqDiff, Nat.reduceLT, Nat.reduceAdd, Nat.reduceSub, Nat.reduceMul, Nat.reduceBEq, Int.reduceLT, Int.reduceAdd, Int.reduceMul, Int.reduceSub, Int.reduceToNat, Int.reduceLE, Int.reduceEq, ↓reduceIte, reduceCtorEq, Int.reduceNeg, Nat.reduceLeDiff]
  refine loop_list (fun r T H' => ∃ (j : Nat) (s : List Int), T = [(0, .sl p off xs.length 1 c1), (1, .sl q off2 xs.length 1 c2), (12, .int .i64 (xs.length : Nat)), (13, .int .i64 (j : Nat))] ∧ H' = H ∧ xs.drop j = r ∧ ys.drop j = s ∧ j + r.length = xs.length ∧ r.length = s.length ∧ decide (xs = ys) = decide (r = s)) ?_ ?_ xs _ _ ⟨0, ys, rfl, rfl, rfl, rfl, by simp, he, rfl⟩
  · rintro x r T H' ⟨j, s, rfl, rfl, hr, hs, hj, hrs, hd⟩ next
    obtain ⟨g1, g2, g3⟩ := drop_cons hr
    cases s with
    | nil => simp at hrs
    | cons y s =>
      obtain ⟨k1, k2, k3⟩ := drop_cons hs
      have fx := sl_get hcs g1
      have fy := sl_get hds k1
      simp only [i64] at fx fy
      have hlt : (j : Int) < (xs.length : Int) := by omega
      have hj2 : j ≤ 4611686018427387904 := by omega
      by_cases hxy : x = y
      · subst hxy
        rw [acs_lp]; conv in Fr.code c33l0 => unfold c33l0
        simp (maxSteps := 1000000) (disch := omega) only [go_sem, Nat.reduceEqDiff, Nat.reduceLT, Nat.reduceAdd, Nat.reduceSub, Nat.reduceMul, Nat.reduceBEq, Int.reduceLT, Int.reduceAdd, Int.reduceMul, Int.reduceSub, Int.reduceToNat, Int.reduceLE, Int.reduceEq, ↓reduceIte, reduceCtorEq, Int.reduceNeg, Nat.reduceLeDiff,  hlt, hp, hq, fx, fy]
        exact next _ _ ⟨j + 1, s, rfl, rfl, g2, k2, by simp at hj; omega, by simpa using hrs, by rw [hd]; simp⟩
      · have e0 : decide (x :: r = y :: s) = false := by simp [hxy]
        rw [hd, e0]
        clear next
        rw [acs_lp]; conv in Fr.code c33l0 => unfold c33l0
        simp (maxSteps := 1000000) (disch := omega) only [go_sem, Nat.reduceEqDiff, Nat.reduceLT, Nat.reduceAdd, Nat.reduceSub, Nat.reduceMul, Nat.reduceBEq, Int.reduceLT, Int.reduceAdd, Int.reduceMul, Int.reduceSub, Int.reduceToNat, Int.reduceLE, Int.reduceEq, ↓reduceIte, reduceCtorEq, Int.reduceNeg, Nat.reduceLeDiff,  hlt, hp, hq, fx, fy, hxy]
        exact fin_same (by simp) _ (by first | exact (List.append_nil _).symm | rfl) (by simp (maxSteps := 1000000) (disch := omega) only [resVal, resAll, resOne, rs33, Env.get, go_sem, Nat.reduceEqDiff, Nat.reduceLT, Nat.reduceAdd, Nat.reduceSub, Nat.reduceMul, Nat.reduceBEq, Int.reduceLT, Int.reduceAdd, Int.reduceMul, Int.reduceSub, Int.reduceToNat, Int.reduceLE, Int.reduceEq, ↓reduceIte, reduceCtorEq, Int.reduceNeg, Nat.reduceLeDiff]) (by simp only [AV.und, AV.unds, and_self])
  · rintro T H' ⟨j, s, rfl, rfl, hr, hs, hj, hrs, hd⟩
    rw [hd]
    obtain rfl : s = [] := List.eq_nil_of_length_eq_zero hrs.symm
    have hlt : ¬ (j : Int) < (xs.length : Int) := by simp at hj; omega
    rw [acs_lp]; conv in Fr.code c33l0 => unfold c33l0
    simp (maxSteps := 1000000) (disch := omega) only [go_sem, Nat.reduceEqDiff, Nat.reduceLT, Nat.reduceAdd, Nat.reduceSub, Nat.reduceMul, Nat.reduceBEq, Int.reduceLT, Int.reduceAdd, Int.reduceMul, Int.reduceSub, Int.reduceToNat, Int.reduceLE, Int.reduceEq, ↓reduceIte, reduceCtorEq, Int.reduceNeg, Nat.reduceLeDiff,  hlt]
    exact fin_same (by simp) _ (by first | exact (List.append_nil _).symm | rfl) (by simp (maxSteps := 1000000) (disch := omega) only [resVal, resAll, resOne, rs33, Env.get, go_sem, Nat.reduceEqDiff, Nat.reduceLT, Nat.reduceAdd, Nat.reduceSub, Nat.reduceMul, Nat.reduceBEq, Int.reduceLT, Int.reduceAdd, Int.reduceMul, Int.reduceSub, Int.reduceToNat, Int.reduceLE, Int.reduceEq, ↓reduceIte, reduceCtorEq, Int.reduceNeg, Nat.reduceLeDiff]) (by simp only [AV.und, AV.unds, and_self])
theorem f32 {S : List Int × Int} {R : List Int × Int} {p q off off2 : Nat} {c1 c2 : Option Nat} {H : Heap} (hx : Sl i64 H p off S.1) (hy : Sl i64 H q off2 R.1) (hl : S.1.length ≤ 1000) :
    ACall Try.prog 32 [.agg [.sl p off S.1.length 1 c1, .int .i64 S.2], .agg [.sl q off2 R.1.length 1 c2, .int .i64 R.2]] H (.bool (decide (S = R))) H := by
  refine acall32 (by simp) (acs_start ?_)
  obtain ⟨xs, a⟩ := S
  obtain ⟨ys, b⟩ := R
  have g := fun G => f33 (c1 := c1) (c2 := c2) (hx.app G) (hy.app G) (by omega)
  unfold c32
  by_cases hab : a = b
  · have e : decide ((xs, a) = (ys, b)) = decide (xs = ys) := by simp [hab]
    rw [e]
    simp (maxSteps := 1000000) (disch := omega) only [go_sem, Nat.reduceEqDiff, Nat.reduceLT, Nat.reduceAdd, Nat.reduceSub, Nat.reduceMul, Nat.reduceBEq, Int.reduceLT, Int.reduceAdd, Int.reduceMul, Int.reduceSub, Int.reduceToNat, Int.reduceLE, Int.reduceEq, ↓reduceIte, reduceCtorEq, Int.reduceNeg, Nat.reduceLeDiff,  hab]
    first | refine callB_intro (g _) ?_ | refine callD_intro (g _) ?_ | refine callP_intro (fun _ => (g _)) ?_ | refine callX_pure (g _) ?_
    simp (maxSteps := 1000000) (disch := omega) only [go_sem, Nat.reduceEqDiff, Nat.reduceLT, Nat.reduceAdd, Nat.reduceSub, Nat.reduceMul, Nat.reduceBEq, Int.reduceLT, Int.reduceAdd, Int.reduceMul, Int.reduceSub, Int.reduceToNat, Int.reduceLE, Int.reduceEq, ↓reduceIte, reduceCtorEq, Int.reduceNeg, Nat.reduceLeDiff]
    exact fin_same (by simp) _ (by first | exact (List.append_nil _).symm | rfl) (by simp (maxSteps := 1000000) (disch := omega) only [resVal, resAll, resOne, rs32, Env.get, go_sem, Nat.reduceEqDiff, Nat.reduceLT, Nat.reduceAdd, Nat.reduceSub, Nat.reduceMul, Nat.reduceBEq, Int.reduceLT, Int.reduceAdd, Int.reduceMul, Int.reduceSub, Int.reduceToNat, Int.reduceLE, Int.reduceEq, ↓reduceIte, reduceCtorEq, Int.reduceNeg, Nat.reduceLeDiff]) (by simp only [AV.und, AV.unds, and_self])
  · have e : decide ((xs, a) = (ys, b)) = false := by simp [hab]
    rw [e]
    simp (maxSteps := 1000000) (disch := omega) only [go_sem, Nat.reduceEqDiff, Nat.reduceLT, Nat.reduceAdd, Nat.reduceSub, Nat.reduceMul, Nat.reduceBEq, Int.reduceLT, Int.reduceAdd, Int.reduceMul, Int.reduceSub, Int.reduceToNat, Int.reduceLE, Int.reduceEq, ↓reduceIte, reduceCtorEq, Int.reduceNeg, Nat.reduceLeDiff,  hab]
    exact fin_same (by simp) _ (by first | exact (List.append_nil _).symm | rfl) (by simp (maxSteps := 1000000) (disch := omega) only [resVal, resAll, resOne, rs32, Env.get, go_sem, Nat.reduceEqDiff, Nat.reduceLT, Nat.reduceAdd, Nat.reduceSub, Nat.reduceMul, Nat.reduceBEq, Int.reduceLT, Int.reduceAdd, Int.reduceMul, Int.reduceSub, Int.reduceToNat, Int.reduceLE, Int.reduceEq, ↓reduceIte, reduceCtorEq, Int.reduceNeg, Nat.reduceLeDiff]) (by simp only [AV.und, AV.unds, and_self])
theorem hb32 : hasBody Try.prog 32 = true := by kernel_rfl
theorem f31 {S R : Stt} {p q : Nat} {H : Heap} {o1 o2 : Bool} (hS : S.ok H) (hR : R.ok H) (hp : blkAt H p = some ⟨S.av, o1⟩) (hq : blkAt H q = some ⟨R.av, o2⟩) :
    ACall Try.prog 31 [.sl p 0 2 2 (some 2), .sl q 0 2 2 (some 2), .fn (.func 32) [] []] H (.bool (decide (S.pu = R.pu))) H := by
  refine acall31 (by simp) (acs_start ?_)
  obtain ⟨a0, a1, l0, l1⟩ := hS
  obtain ⟨b0, b1, m0, m1⟩ := hR
  have g0 := fun G => f32 (S := (S.ws, S.c0)) (R := (R.ws, R.c0)) (c1 := S.k0) (c2 := R.k0) (a0.app G) (b0.app G) l0
  have g1 := fun G => f32 (S := (S.vs, S.c1)) (R := (R.vs, R.c1)) (c1 := S.k1) (c2 := R.k1) (a1.app G) (b1.app G) l1
  have hpl := blkAt_lt hp
  have hql := blkAt_lt hq
  unfold Stt.av nvc at hp hq
  unfold c31
  unfold Stt.pu
  by_cases h0 : (S.ws, S.c0) = (R.ws, R.c0)
  · by_cases h1 : (S.vs, S.c1) = (R.vs, R.c1)
    · have e : decide (((S.ws, S.c0), (S.vs, S.c1)) = ((R.ws, R.c0), (R.vs, R.c1))) = true := by rw [h0, h1]; simp
      rw [e]
      rw [decide_eq_true h0] at g0
      rw [decide_eq_true h1] at g1
      simp (maxSteps := 1000000) (disch := omega) only [go_sem, Nat.reduceEqDiff, Nat.reduceLT, Nat.reduceAdd, Nat.reduceSub, Nat.reduceMul, Nat.reduceBEq, Int.reduceLT, Int.reduceAdd, Int.reduceMul, Int.reduceSub, Int.reduceToNat, Int.reduceLE, Int.reduceEq, ↓reduceIte, reduceCtorEq, Int.reduceNeg, Nat.reduceLeDiff]
      rw [acs_lp]; conv in Fr.code c31l0 => unfold c31l0
      simp (maxSteps := 1000000) (disch := omega) only [go_sem, Nat.reduceEqDiff, Nat.reduceLT, Nat.reduceAdd, Nat.reduceSub, Nat.reduceMul, Nat.reduceBEq, Int.reduceLT, Int.reduceAdd, Int.reduceMul, Int.reduceSub, Int.reduceToNat, Int.reduceLE, Int.reduceEq, ↓reduceIte, reduceCtorEq, Int.reduceNeg, Nat.reduceLeDiff,  blkAt_lo, hpl, hql, hp, hq, hb32]
      first | refine callB_intro (g0 _) ?_ | refine callD_intro (g0 _) ?_ | refine callP_intro (fun _ => (g0 _)) ?_ | refine callX_pure (g0 _) ?_
      simp (maxSteps := 1000000) (disch := omega) only [go_sem, Nat.reduceEqDiff, Nat.reduceLT, Nat.reduceAdd, Nat.reduceSub, Nat.reduceMul, Nat.reduceBEq, Int.reduceLT, Int.reduceAdd, Int.reduceMul, Int.reduceSub, Int.reduceToNat, Int.reduceLE, Int.reduceEq, ↓reduceIte, reduceCtorEq, Int.reduceNeg, Nat.reduceLeDiff]
      rw [acs_lp]; conv in Fr.code c31l0 => unfold c31l0
      simp (maxSteps := 1000000) (disch := omega) only [go_sem, Nat.reduceEqDiff, Nat.reduceLT, Nat.reduceAdd, Nat.reduceSub, Nat.reduceMul, Nat.reduceBEq, Int.reduceLT, Int.reduceAdd, Int.reduceMul, Int.reduceSub, Int.reduceToNat, Int.reduceLE, Int.reduceEq, ↓reduceIte, reduceCtorEq, Int.reduceNeg, Nat.reduceLeDiff,  blkAt_lo, hpl, hql, hp, hq, hb32]
      first | refine callB_intro (g1 _) ?_ | refine callD_intro (g1 _) ?_ | refine callP_intro (fun _ => (g1 _)) ?_ | refine callX_pure (g1 _) ?_
      simp (maxSteps := 1000000) (disch := omega) only [go_sem, Nat.reduceEqDiff, Nat.reduceLT, Nat.reduceAdd, Nat.reduceSub, Nat.reduceMul, Nat.reduceBEq, Int.reduceLT, Int.reduceAdd, Int.reduceMul, Int.reduceSub, Int.reduceToNat, Int.reduceLE, Int.reduceEq, ↓reduceIte, reduceCtorEq, Int.reduceNeg, Nat.reduceLeDiff]
      rw [acs_lp]; conv in Fr.code c31l0 => unfold c31l0
      simp (maxSteps := 1000000) (disch := omega) only [go_sem, Nat.reduceEqDiff, Nat.reduceLT, Nat.reduceAdd, Nat.reduceSub, Nat.reduceMul, Nat.reduceBEq, Int.reduceLT, Int.reduceAdd, Int.reduceMul, Int.reduceSub, Int.reduceToNat, Int.reduceLE, Int.reduceEq, ↓reduceIte, reduceCtorEq, Int.reduceNeg, Nat.reduceLeDiff]
      exact fin_same (by simp) _ (by first | exact (List.append_nil _).symm | rfl) (by simp (maxSteps := 1000000) (disch := omega) only [resVal, resAll, resOne, rs31, Env.get, go_sem, Nat.reduceEqDiff, Nat.reduceLT, Nat.reduceAdd, Nat.reduceSub, Nat.reduceMul, Nat.reduceBEq, Int.reduceLT, Int.reduceAdd, Int.reduceMul, Int.reduceSub, Int.reduceToNat, Int.reduceLE, Int.reduceEq, ↓reduceIte, reduceCtorEq, Int.reduceNeg, Nat.reduceLeDiff]) (by simp only [AV.und, AV.unds, and_self])
    · have e : decide (((S.ws, S.c0), (S.vs, S.c1)) = ((R.ws, R.c0), (R.vs, R.c1))) = false := decide_eq_false fun h => h1 (Prod.mk.inj h).2
      rw [e]
      rw [decide_eq_true h0] at g0
      rw [decide_eq_false h1] at g1
      simp (maxSteps := 1000000) (disch := omega) only [go_sem, Nat.reduceEqDiff, Nat.reduceLT, Nat.reduceAdd, Nat.reduceSub, Nat.reduceMul, Nat.reduceBEq, Int.reduceLT, Int.reduceAdd, Int.reduceMul, Int.reduceSub, Int.reduceToNat, Int.reduceLE, Int.reduceEq, ↓reduceIte, reduceCtorEq, Int.reduceNeg, Nat.reduceLeDiff]
      rw [acs_lp]; conv in Fr.code c31l0 => unfold c31l0
      simp (maxSteps := 1000000) (disch := omega) only [go_sem, Nat.reduceEqDiff, Nat.reduceLT, Nat.reduceAdd, Nat.reduceSub, Nat.reduceMul, Nat.reduceBEq, Int.reduceLT, Int.reduceAdd, Int.reduceMul, Int.reduceSub, Int.reduceToNat, Int.reduceLE, Int.reduceEq, ↓reduceIte, reduceCtorEq, Int.reduceNeg, Nat.reduceLeDiff,  blkAt_lo, hpl, hql, hp, hq, hb32]
      first | refine callB_intro (g0 _) ?_ | refine callD_intro (g0 _) ?_ | refine callP_intro (fun _ => (g0 _)) ?_ | refine callX_pure (g0 _) ?_
      simp (maxSteps := 1000000) (disch := omega) only [go_sem, Nat.reduceEqDiff, Nat.reduceLT, Nat.reduceAdd, Nat.reduceSub, Nat.reduceMul, Nat.reduceBEq, Int.reduceLT, Int.reduceAdd, Int.reduceMul, Int.reduceSub, Int.reduceToNat, Int.reduceLE, Int.reduceEq, ↓reduceIte, reduceCtorEq, Int.reduceNeg, Nat.reduceLeDiff]
      rw [acs_lp]; conv in Fr.code c31l0 => unfold c31l0
      simp (maxSteps := 1000000) (disch := omega) only [go_sem, Nat.reduceEqDiff, Nat.reduceLT, Nat.reduceAdd, Nat.reduceSub, Nat.reduceMul, Nat.reduceBEq, Int.reduceLT, Int.reduceAdd, Int.reduceMul, Int.reduceSub, Int.reduceToNat, Int.reduceLE, Int.reduceEq, ↓reduceIte, reduceCtorEq, Int.reduceNeg, Nat.reduceLeDiff,  blkAt_lo, hpl, hql, hp, hq, hb32]
      first | refine callB_intro (g1 _) ?_ | refine callD_intro (g1 _) ?_ | refine callP_intro (fun _ => (g1 _)) ?_ | refine callX_pure (g1 _) ?_
      simp (maxSteps := 1000000) (disch := omega) only [go_sem, Nat.reduceEqDiff, Nat.reduceLT, Nat.reduceAdd, Nat.reduceSub, Nat.reduceMul, Nat.reduceBEq, Int.reduceLT, Int.reduceAdd, Int.reduceMul, Int.reduceSub, Int.reduceToNat, Int.reduceLE, Int.reduceEq, ↓reduceIte, reduceCtorEq, Int.reduceNeg, Nat.reduceLeDiff]
      exact fin_same (by simp) _ (by first | exact (List.append_nil _).symm | rfl) (by simp (maxSteps := 1000000) (disch := omega) only [resVal, resAll, resOne, rs31, Env.get, go_sem, Nat.reduceEqDiff, Nat.reduceLT, Nat.reduceAdd, Nat.reduceSub, Nat.reduceMul, Nat.reduceBEq, Int.reduceLT, Int.reduceAdd, Int.reduceMul, Int.reduceSub, Int.reduceToNat, Int.reduceLE, Int.reduceEq, ↓reduceIte, reduceCtorEq, Int.reduceNeg, Nat.reduceLeDiff]) (by simp only [AV.und, AV.unds, and_self])
  · have e : decide (((S.ws, S.c0), (S.vs, S.c1)) = ((R.ws, R.c0), (R.vs, R.c1))) = false := decide_eq_false fun h => h0 (Prod.mk.inj h).1
    rw [e]
    rw [decide_eq_false h0] at g0
    simp (maxSteps := 1000000) (disch := omega) only [go_sem, Nat.reduceEqDiff, Nat.reduceLT, Nat.reduceAdd, Nat.reduceSub, Nat.reduceMul, Nat.reduceBEq, Int.reduceLT, Int.reduceAdd, Int.reduceMul, Int.reduceSub, Int.reduceToNat, Int.reduceLE, Int.reduceEq, ↓reduceIte, reduceCtorEq, Int.reduceNeg, Nat.reduceLeDiff]
    rw [acs_lp]; conv in Fr.code c31l0 => unfold c31l0
    simp (maxSteps := 1000000) (disch := omega) only [go_sem, Nat.reduceEqDiff, Nat.reduceLT, Nat.reduceAdd, Nat.reduceSub, Nat.reduceMul, Nat.reduceBEq, Int.reduceLT, Int.reduceAdd, Int.reduceMul, Int.reduceSub, Int.reduceToNat, Int.reduceLE, Int.reduceEq, ↓reduceIte, reduceCtorEq, Int.reduceNeg, Nat.reduceLeDiff,  blkAt_lo, hpl, hql, hp, hq, hb32]
    first | refine callB_intro (g0 _) ?_ | refine callD_intro (g0 _) ?_ | refine callP_intro (fun _ => (g0 _)) ?_ | refine callX_pure (g0 _) ?_
    simp (maxSteps := 1000000) (disch := omega) only [go_sem, Nat.reduceEqDiff, Nat.reduceLT, Nat.reduceAdd, Nat.reduceSub, Nat.reduceMul, Nat.reduceBEq, Int.reduceLT, Int.reduceAdd, Int.reduceMul, Int.reduceSub, Int.reduceToNat, Int.reduceLE, Int.reduceEq, ↓reduceIte, reduceCtorEq, Int.reduceNeg, Nat.reduceLeDiff]
    exact fin_same (by simp) _ (by first | exact (List.append_nil _).symm | rfl) (by simp (maxSteps := 1000000) (disch := omega) only [resVal, resAll, resOne, rs31, Env.get, go_sem, Nat.reduceEqDiff, Nat.reduceLT, Nat.reduceAdd, Nat.reduceSub, Nat.reduceMul, Nat.reduceBEq, Int.reduceLT, Int.reduceAdd, Int.reduceMul, Int.reduceSub, Int.reduceToNat, Int.reduceLE, Int.reduceEq, ↓reduceIte, reduceCtorEq, Int.reduceNeg, Nat.reduceLeDiff]) (by simp only [AV.und, AV.unds, and_self])
theorem f23 {S R : Stt} {H : Heap} (hS : S.ok H) (hR : R.ok H) : ACall Try.prog 23 [.agg S.av, .agg R.av] H (.bool (decide (S.pu = R.pu))) H := by
  refine acall23 (by simp) (acs_start ?_)
  have g := fun G h1 h2 => f31 (p := H.length) (q := H.length + 1) (o1 := true) (o2 := true) (hS.app G) (hR.app G) h1 h2
  have av1 := av_len S
  have av2 := av_all S
  have w1 := av_len R
  have w2 := av_all R
  generalize S.av = X at *
  generalize R.av = Y at *
  unfold c23
  simp (maxSteps := 1000000) (disch := omega) only [go_sem, Nat.reduceEqDiff, Nat.reduceLT, Nat.reduceAdd, Nat.reduceSub, Nat.reduceMul, Nat.reduceBEq, Int.reduceLT, Int.reduceAdd, Int.reduceMul, Int.reduceSub, Int.reduceToNat, Int.reduceLE, Int.reduceEq, ↓reduceIte, reduceCtorEq, Int.reduceNeg, Nat.reduceLeDiff,  av1, av2, w1, w2]
  first | refine callB_intro (g _ (by simp only [go_sem, Nat.reduceEqDiff, Nat.reduceLT, Nat.reduceAdd, Nat.reduceSub, Nat.reduceMul, Nat.reduceBEq, Int.reduceLT, Int.reduceAdd, Int.reduceMul, Int.reduceSub, Int.reduceToNat, Int.reduceLE, Int.reduceEq, ↓reduceIte, reduceCtorEq, Int.reduceNeg, Nat.reduceLeDiff]) (by simp only [go_sem, Nat.reduceEqDiff, Nat.reduceLT, Nat.reduceAdd, Nat.reduceSub, Nat.reduceMul, Nat.reduceBEq, Int.reduceLT, Int.reduceAdd, Int.reduceMul, Int.reduceSub, Int.reduceToNat, Int.reduceLE, Int.reduceEq, ↓reduceIte, reduceCtorEq, Int.reduceNeg, Nat.reduceLeDiff])) ?_ | refine callD_intro (g _ (by simp only [go_sem, Nat.reduceEqDiff, Nat.reduceLT, Nat.reduceAdd, Nat.reduceSub, Nat.reduceMul, Nat.reduceBEq, Int.reduceLT, Int.reduceAdd, Int.reduceMul, Int.reduceSub, Int.reduceToNat, Int.reduceLE, Int.reduceEq, ↓reduceIte, reduceCtorEq, Int.reduceNeg, Nat.reduceLeDiff]) (by simp only [go_sem, Nat.reduceEqDiff, Nat.reduceLT, Nat.reduceAdd, Nat.reduceSub, Nat.reduceMul, Nat.reduceBEq, Int.reduceLT, Int.reduceAdd, Int.reduceMul, Int.reduceSub, Int.reduceToNat, Int.reduceLE, Int.reduceEq, ↓reduceIte, reduceCtorEq, Int.reduceNeg, Nat.reduceLeDiff])) ?_ | refine callP_intro (fun _ => (g _ (by simp only [go_sem, Nat.reduceEqDiff, Nat.reduceLT, Nat.reduceAdd, Nat.reduceSub, Nat.reduceMul, Nat.reduceBEq, Int.reduceLT, Int.reduceAdd, Int.reduceMul, Int.reduceSub, Int.reduceToNat, Int.reduceLE, Int.reduceEq, ↓reduceIte, reduceCtorEq, Int.reduceNeg, Nat.reduceLeDiff]) (by simp only [go_sem, Nat.reduceEqDiff, Nat.reduceLT, Nat.reduceAdd, Nat.reduceSub, Nat.reduceMul, Nat.reduceBEq, Int.reduceLT, Int.reduceAdd, Int.reduceMul, Int.reduceSub, Int.reduceToNat, Int.reduceLE, Int.reduceEq, ↓reduceIte, reduceCtorEq, Int.reduceNeg, Nat.reduceLeDiff]))) ?_ | refine callX_pure (g _ (by simp only [go_sem, Nat.reduceEqDiff, Nat.reduceLT, Nat.reduceAdd, Nat.reduceSub, Nat.reduceMul, Nat.reduceBEq, Int.reduceLT, Int.reduceAdd, Int.reduceMul, Int.reduceSub, Int.reduceToNat, Int.reduceLE, Int.reduceEq, ↓reduceIte, reduceCtorEq, Int.reduceNeg, Nat.reduceLeDiff]) (by simp only [go_sem, Nat.reduceEqDiff, Nat.reduceLT, Nat.reduceAdd, Nat.reduceSub, Nat.reduceMul, Nat.reduceBEq, Int.reduceLT, Int.reduceAdd, Int.reduceMul, Int.reduceSub, Int.reduceToNat, Int.reduceLE, Int.reduceEq, ↓reduceIte, reduceCtorEq, Int.reduceNeg, Nat.reduceLeDiff])) ?_
  simp (maxSteps := 1000000) (disch := omega) only [go_sem, Nat.reduceEqDiff, Nat.reduceLT, Nat.reduceAdd, Nat.reduceSub, Nat.reduceMul, Nat.reduceBEq, Int.reduceLT, Int.reduceAdd, Int.reduceMul, Int.reduceSub, Int.reduceToNat, Int.reduceLE, Int.reduceEq, ↓reduceIte, reduceCtorEq, Int.reduceNeg, Nat.reduceLeDiff]
  exact fin_same (by simp) _ (by first | exact (List.append_nil _).symm | rfl) (by simp (maxSteps := 1000000) (disch := omega) only [resVal, resAll, resOne, rs23, Env.get, go_sem, Nat.reduceEqDiff, Nat.reduceLT, Nat.reduceAdd, Nat.reduceSub, Nat.reduceMul, Nat.reduceBEq, Int.reduceLT, Int.reduceAdd, Int.reduceMul, Int.reduceSub, Int.reduceToNat, Int.reduceLE, Int.reduceEq, ↓reduceIte, reduceCtorEq, Int.reduceNeg, Nat.reduceLeDiff]) (by simp only [AV.und, AV.unds, and_self])
theorem f14 {S R : Stt} {H : Heap} (hS : S.ok H) (hR : R.ok H) : ACall Try.prog 14 [.agg S.av, .agg R.av] H (.bool (decide (S.pu = R.pu))) H := by
  refine acall14 (by simp) (acs_start ?_)
  obtain ⟨a0, a1, l0, l1⟩ := hS
  obtain ⟨b0, b1, m0, m1⟩ := hR
  have g0 := fun G => f15 (c1 := S.k0) (c2 := R.k0) (a0.app G) (b0.app G) (by omega)
  have g1 := fun G => f15 (c1 := S.k1) (c2 := R.k1) (a1.app G) (b1.app G) (by omega)
  unfold Stt.av nvc Stt.pu
  unfold c14
  by_cases h0 : S.ws = R.ws
  · rw [decide_eq_true h0] at g0
    by_cases k0 : S.c0 = R.c0
    · by_cases h1 : S.vs = R.vs
      · rw [decide_eq_true h1] at g1
        by_cases k1 : S.c1 = R.c1
        · have e : decide (((S.ws, S.c0), (S.vs, S.c1)) = ((R.ws, R.c0), (R.vs, R.c1))) = true := by rw [h0, h1, k0, k1]; simp
          rw [e]
          simp (maxSteps := 1000000) (disch := omega) only [go_sem, Nat.reduceEqDiff, Nat.reduceLT, Nat.reduceAdd, Nat.reduceSub, Nat.reduceMul, Nat.reduceBEq, Int.reduceLT, Int.reduceAdd, Int.reduceMul, Int.reduceSub, Int.reduceToNat, Int.reduceLE, Int.reduceEq, ↓reduceIte, reduceCtorEq, Int.reduceNeg, Nat.reduceLeDiff]
          rw [acs_lp]; conv in Fr.code c14l0 => unfold c14l0
          simp (maxSteps := 1000000) (disch := omega) only [go_sem, Nat.reduceEqDiff, Nat.reduceLT, Nat.reduceAdd, Nat.reduceSub, Nat.reduceMul, Nat.reduceBEq, Int.reduceLT, Int.reduceAdd, Int.reduceMul, Int.reduceSub, Int.reduceToNat, Int.reduceLE, Int.reduceEq, ↓reduceIte, reduceCtorEq, Int.reduceNeg, Nat.reduceLeDiff]
          first | refine callB_intro (g0 _) ?_ | refine callD_intro (g0 _) ?_ | refine callP_intro (fun _ => (g0 _)) ?_ | refine callX_pure (g0 _) ?_
          simp (maxSteps := 1000000) (disch := omega) only [go_sem, Nat.reduceEqDiff, Nat.reduceLT, Nat.reduceAdd, Nat.reduceSub, Nat.reduceMul, Nat.reduceBEq, Int.reduceLT, Int.reduceAdd, Int.reduceMul, Int.reduceSub, Int.reduceToNat, Int.reduceLE, Int.reduceEq, ↓reduceIte, reduceCtorEq, Int.reduceNeg, Nat.reduceLeDiff,  k0]
          rw [acs_lp]; conv in Fr.code c14l0 => unfold c14l0
          simp (maxSteps := 1000000) (disch := omega) only [go_sem, Nat.reduceEqDiff, Nat.reduceLT, Nat.reduceAdd, Nat.reduceSub, Nat.reduceMul, Nat.reduceBEq, Int.reduceLT, Int.reduceAdd, Int.reduceMul, Int.reduceSub, Int.reduceToNat, Int.reduceLE, Int.reduceEq, ↓reduceIte, reduceCtorEq, Int.reduceNeg, Nat.reduceLeDiff]
          first | refine callB_intro (g1 _) ?_ | refine callD_intro (g1 _) ?_ | refine callP_intro (fun _ => (g1 _)) ?_ | refine callX_pure (g1 _) ?_
          simp (maxSteps := 1000000) (disch := omega) only [go_sem, Nat.reduceEqDiff, Nat.reduceLT, Nat.reduceAdd, Nat.reduceSub, Nat.reduceMul, Nat.reduceBEq, Int.reduceLT, Int.reduceAdd, Int.reduceMul, Int.reduceSub, Int.reduceToNat, Int.reduceLE, Int.reduceEq, ↓reduceIte, reduceCtorEq, Int.reduceNeg, Nat.reduceLeDiff,  k1]
          rw [acs_lp]; conv in Fr.code c14l0 => unfold c14l0
          simp (maxSteps := 1000000) (disch := omega) only [go_sem, Nat.reduceEqDiff, Nat.reduceLT, Nat.reduceAdd, Nat.reduceSub, Nat.reduceMul, Nat.reduceBEq, Int.reduceLT, Int.reduceAdd, Int.reduceMul, Int.reduceSub, Int.reduceToNat, Int.reduceLE, Int.reduceEq, ↓reduceIte, reduceCtorEq, Int.reduceNeg, Nat.reduceLeDiff]
          exact fin_same (by simp) _ (by first | exact (List.append_nil _).symm | rfl) (by simp (maxSteps := 1000000) (disch := omega) only [resVal, resAll, resOne, rs14, Env.get, go_sem, Nat.reduceEqDiff, Nat.reduceLT, Nat.reduceAdd, Nat.reduceSub, Nat.reduceMul, Nat.reduceBEq, Int.reduceLT, Int.reduceAdd, Int.reduceMul, Int.reduceSub, Int.reduceToNat, Int.reduceLE, Int.reduceEq, ↓reduceIte, reduceCtorEq, Int.reduceNeg, Nat.reduceLeDiff]) (by simp only [AV.und, AV.unds, and_self])
        · have e : decide (((S.ws, S.c0), (S.vs, S.c1)) = ((R.ws, R.c0), (R.vs, R.c1))) = false := decide_eq_false fun h => k1 (Prod.mk.inj (Prod.mk.inj h).2).2
          rw [e]
          simp (maxSteps := 1000000) (disch := omega) only [go_sem, Nat.reduceEqDiff, Nat.reduceLT, Nat.reduceAdd, Nat.reduceSub, Nat.reduceMul, Nat.reduceBEq, Int.reduceLT, Int.reduceAdd, Int.reduceMul, Int.reduceSub, Int.reduceToNat, Int.reduceLE, Int.reduceEq, ↓reduceIte, reduceCtorEq, Int.reduceNeg, Nat.reduceLeDiff]
          rw [acs_lp]; conv in Fr.code c14l0 => unfold c14l0
          simp (maxSteps := 1000000) (disch := omega) only [go_sem, Nat.reduceEqDiff, Nat.reduceLT, Nat.reduceAdd, Nat.reduceSub, Nat.reduceMul, Nat.reduceBEq, Int.reduceLT, Int.reduceAdd, Int.reduceMul, Int.reduceSub, Int.reduceToNat, Int.reduceLE, Int.reduceEq, ↓reduceIte, reduceCtorEq, Int.reduceNeg, Nat.reduceLeDiff]
          first | refine callB_intro (g0 _) ?_ | refine callD_intro (g0 _) ?_ | refine callP_intro (fun _ => (g0 _)) ?_ | refine callX_pure (g0 _) ?_
          simp (maxSteps := 1000000) (disch := omega) only [go_sem, Nat.reduceEqDiff, Nat.reduceLT, Nat.reduceAdd, Nat.reduceSub, Nat.reduceMul, Nat.reduceBEq, Int.reduceLT, Int.reduceAdd, Int.reduceMul, Int.reduceSub, Int.reduceToNat, Int.reduceLE, Int.reduceEq, ↓reduceIte, reduceCtorEq, Int.reduceNeg, Nat.reduceLeDiff,  k0]
          rw [acs_lp]; conv in Fr.code c14l0 => unfold c14l0
          simp (maxSteps := 1000000) (disch := omega) only [go_sem, Nat.reduceEqDiff, Nat.reduceLT, Nat.reduceAdd, Nat.reduceSub, Nat.reduceMul, Nat.reduceBEq, Int.reduceLT, Int.reduceAdd, Int.reduceMul, Int.reduceSub, Int.reduceToNat, Int.reduceLE, Int.reduceEq, ↓reduceIte, reduceCtorEq, Int.reduceNeg, Nat.reduceLeDiff]
          first | refine callB_intro (g1 _) ?_ | refine callD_intro (g1 _) ?_ | refine callP_intro (fun _ => (g1 _)) ?_ | refine callX_pure (g1 _) ?_
          simp (maxSteps := 1000000) (disch := omega) only [go_sem, Nat.reduceEqDiff, Nat.reduceLT, Nat.reduceAdd, Nat.reduceSub, Nat.reduceMul, Nat.reduceBEq, Int.reduceLT, Int.reduceAdd, Int.reduceMul, Int.reduceSub, Int.reduceToNat, Int.reduceLE, Int.reduceEq, ↓reduceIte, reduceCtorEq, Int.reduceNeg, Nat.reduceLeDiff,  k1]
          exact fin_same (by simp) _ (by first | exact (List.append_nil _).symm | rfl) (by simp (maxSteps := 1000000) (disch := omega) only [resVal, resAll, resOne, rs14, Env.get, go_sem, Nat.reduceEqDiff, Nat.reduceLT, Nat.reduceAdd, Nat.reduceSub, Nat.reduceMul, Nat.reduceBEq, Int.reduceLT, Int.reduceAdd, Int.reduceMul, Int.reduceSub, Int.reduceToNat, Int.reduceLE, Int.reduceEq, ↓reduceIte, reduceCtorEq, Int.reduceNeg, Nat.reduceLeDiff]) (by simp only [AV.und, AV.unds, and_self])
      · have e : decide (((S.ws, S.c0), (S.vs, S.c1)) = ((R.ws, R.c0), (R.vs, R.c1))) = false := decide_eq_false fun h => h1 (Prod.mk.inj (Prod.mk.inj h).2).1
        rw [e]
        rw [decide_eq_false h1] at g1
        simp (maxSteps := 1000000) (disch := omega) only [go_sem, Nat.reduceEqDiff, Nat.reduceLT, Nat.reduceAdd, Nat.reduceSub, Nat.reduceMul, Nat.reduceBEq, Int.reduceLT, Int.reduceAdd, Int.reduceMul, Int.reduceSub, Int.reduceToNat, Int.reduceLE, Int.reduceEq, ↓reduceIte, reduceCtorEq, Int.reduceNeg, Nat.reduceLeDiff]
        rw [acs_lp]; conv in Fr.code c14l0 => unfold c14l0
        simp (maxSteps := 1000000) (disch := omega) only [go_sem, Nat.reduceEqDiff, Nat.reduceLT, Nat.reduceAdd, Nat.reduceSub, Nat.reduceMul, Nat.reduceBEq, Int.reduceLT, Int.reduceAdd, Int.reduceMul, Int.reduceSub, Int.reduceToNat, Int.reduceLE, Int.reduceEq, ↓reduceIte, reduceCtorEq, Int.reduceNeg, Nat.reduceLeDiff]
        first | refine callB_intro (g0 _) ?_ | refine callD_intro (g0 _) ?_ | refine callP_intro (fun _ => (g0 _)) ?_ | refine callX_pure (g0 _) ?_
        simp (maxSteps := 1000000) (disch := omega) only [go_sem, Nat.reduceEqDiff, Nat.reduceLT, Nat.reduceAdd, Nat.reduceSub, Nat.reduceMul, Nat.reduceBEq, Int.reduceLT, Int.reduceAdd, Int.reduceMul, Int.reduceSub, Int.reduceToNat, Int.reduceLE, Int.reduceEq, ↓reduceIte, reduceCtorEq, Int.reduceNeg, Nat.reduceLeDiff,  k0]
        rw [acs_lp]; conv in Fr.code c14l0 => unfold c14l0
        simp (maxSteps := 1000000) (disch := omega) only [go_sem, Nat.reduceEqDiff, Nat.reduceLT, Nat.reduceAdd, Nat.reduceSub, Nat.reduceMul, Nat.reduceBEq, Int.reduceLT, Int.reduceAdd, Int.reduceMul, Int.reduceSub, Int.reduceToNat, Int.reduceLE, Int.reduceEq, ↓reduceIte, reduceCtorEq, Int.reduceNeg, Nat.reduceLeDiff]
        first | refine callB_intro (g1 _) ?_ | refine callD_intro (g1 _) ?_ | refine callP_intro (fun _ => (g1 _)) ?_ | refine callX_pure (g1 _) ?_
        simp (maxSteps := 1000000) (disch := omega) only [go_sem, Nat.reduceEqDiff, Nat.reduceLT, Nat.reduceAdd, Nat.reduceSub, Nat.reduceMul, Nat.reduceBEq, Int.reduceLT, Int.reduceAdd, Int.reduceMul, Int.reduceSub, Int.reduceToNat, Int.reduceLE, Int.reduceEq, ↓reduceIte, reduceCtorEq, Int.reduceNeg, Nat.reduceLeDiff]
        exact fin_same (by simp) _ (by first | exact (List.append_nil _).symm | rfl) (by simp (maxSteps := 1000000) (disch := omega) only [resVal, resAll, resOne, rs14, Env.get, go_sem, Nat.reduceEqDiff, Nat.reduceLT, Nat.reduceAdd, Nat.reduceSub, Nat.reduceMul, Nat.reduceBEq, Int.reduceLT, Int.reduceAdd, Int.reduceMul, Int.reduceSub, Int.reduceToNat, Int.reduceLE, Int.reduceEq, ↓reduceIte, reduceCtorEq, Int.reduceNeg, Nat.reduceLeDiff]) (by simp only [AV.und, AV.unds, and_self])
    · have e : decide (((S.ws, S.c0), (S.vs, S.c1)) = ((R.ws, R.c0), (R.vs, R.c1))) = false := decide_eq_false fun h => k0 (Prod.mk.inj (Prod.mk.inj h).1).2
      rw [e]
      simp (maxSteps := 1000000) (disch := omega) only [go_sem, Nat.reduceEqDiff, Nat.reduceLT, Nat.reduceAdd, Nat.reduceSub, Nat.reduceMul, Nat.reduceBEq, Int.reduceLT, Int.reduceAdd, Int.reduceMul, Int.reduceSub, Int.reduceToNat, Int.reduceLE, Int.reduceEq, ↓reduceIte, reduceCtorEq, Int.reduceNeg, Nat.reduceLeDiff]
      rw [acs_lp]; conv in Fr.code c14l0 => unfold c14l0
      simp (maxSteps := 1000000) (disch := omega) only [go_sem, Nat.reduceEqDiff, Nat.reduceLT, Nat.reduceAdd, Nat.reduceSub, Nat.reduceMul, Nat.reduceBEq, Int.reduceLT, Int.reduceAdd, Int.reduceMul, Int.reduceSub, Int.reduceToNat, Int.reduceLE, Int.reduceEq, ↓reduceIte, reduceCtorEq, Int.reduceNeg, Nat.reduceLeDiff]
      first | refine callB_intro (g0 _) ?_ | refine callD_intro (g0 _) ?_ | refine callP_intro (fun _ => (g0 _)) ?_ | refine callX_pure (g0 _) ?_
      simp (maxSteps := 1000000) (disch := omega) only [go_sem, Nat.reduceEqDiff, Nat.reduceLT, Nat.reduceAdd, Nat.reduceSub, Nat.reduceMul, Nat.reduceBEq, Int.reduceLT, Int.reduceAdd, Int.reduceMul, Int.reduceSub, Int.reduceToNat, Int.reduceLE, Int.reduceEq, ↓reduceIte, reduceCtorEq, Int.reduceNeg, Nat.reduceLeDiff,  k0]
      exact fin_same (by simp) _ (by first | exact (List.append_nil _).symm | rfl) (by simp (maxSteps := 1000000) (disch := omega) only [resVal, resAll, resOne, rs14, Env.get, go_sem, Nat.reduceEqDiff, Nat.reduceLT, Nat.reduceAdd, Nat.reduceSub, Nat.reduceMul, Nat.reduceBEq, Int.reduceLT, Int.reduceAdd, Int.reduceMul, Int.reduceSub, Int.reduceToNat, Int.reduceLE, Int.reduceEq, ↓reduceIte, reduceCtorEq, Int.reduceNeg, Nat.reduceLeDiff]) (by simp only [AV.und, AV.unds, and_self])
  · have e : decide (((S.ws, S.c0), (S.vs, S.c1)) = ((R.ws, R.c0), (R.vs, R.c1))) = false := decide_eq_false fun h => h0 (Prod.mk.inj (Prod.mk.inj h).1).1
    rw [e]
    rw [decide_eq_false h0] at g0
    simp (maxSteps := 1000000) (disch := omega) only [go_sem, Nat.reduceEqDiff, Nat.reduceLT, Nat.reduceAdd, Nat.reduceSub, Nat.reduceMul, Nat.reduceBEq, Int.reduceLT, Int.reduceAdd, Int.reduceMul, Int.reduceSub, Int.reduceToNat, Int.reduceLE, Int.reduceEq, ↓reduceIte, reduceCtorEq, Int.reduceNeg, Nat.reduceLeDiff]
    rw [acs_lp]; conv in Fr.code c14l0 => unfold c14l0
    simp (maxSteps := 1000000) (disch := omega) only [go_sem, Nat.reduceEqDiff, Nat.reduceLT, Nat.reduceAdd, Nat.reduceSub, Nat.reduceMul, Nat.reduceBEq, Int.reduceLT, Int.reduceAdd, Int.reduceMul, Int.reduceSub, Int.reduceToNat, Int.reduceLE, Int.reduceEq, ↓reduceIte, reduceCtorEq, Int.reduceNeg, Nat.reduceLeDiff]
    first | refine callB_intro (g0 _) ?_ | refine callD_intro (g0 _) ?_ | refine callP_intro (fun _ => (g0 _)) ?_ | refine callX_pure (g0 _) ?_
    simp (maxSteps := 1000000) (disch := omega) only [go_sem, Nat.reduceEqDiff, Nat.reduceLT, Nat.reduceAdd, Nat.reduceSub, Nat.reduceMul, Nat.reduceBEq, Int.reduceLT, Int.reduceAdd, Int.reduceMul, Int.reduceSub, Int.reduceToNat, Int.reduceLE, Int.reduceEq, ↓reduceIte, reduceCtorEq, Int.reduceNeg, Nat.reduceLeDiff]
    exact fin_same (by simp) _ (by first | exact (List.append_nil _).symm | rfl) (by simp (maxSteps := 1000000) (disch := omega) only [resVal, resAll, resOne, rs14, Env.get, go_sem, Nat.reduceEqDiff, Nat.reduceLT, Nat.reduceAdd, Nat.reduceSub, Nat.reduceMul, Nat.reduceBEq, Int.reduceLT, Int.reduceAdd, Int.reduceMul, Int.reduceSub, Int.reduceToNat, Int.reduceLE, Int.reduceEq, ↓reduceIte, reduceCtorEq, Int.reduceNeg, Nat.reduceLeDiff]) (by simp only [AV.und, AV.unds, and_self])
theorem f24 {n : Nat} {p off : Nat} {k : Option Nat} {H : Heap} (hn : n ≤ 4611686018427387904) : ACall Try.prog 24 [.sl p off n 1 k] H (.int .i64 ((n : Int) + 3)) H := by
  refine acall24 (by simp) (acs_start ?_)
  have e3 : (3 : Int) + (n : Int) = (n : Int) + 3 := by omega
  unfold c24
  simp (maxSteps := 1000000) (disch := omega) only [go_sem, Nat.reduceEqDiff, Nat.reduceLT, Nat.reduceAdd, Nat.reduceSub, Nat.reduceMul, Nat.reduceBEq, Int.reduceLT, Int.reduceAdd, Int.reduceMul, Int.reduceSub, Int.reduceToNat, Int.reduceLE, Int.reduceEq, ↓reduceIte, reduceCtorEq, Int.reduceNeg, Nat.reduceLeDiff,  e3]
  exact fin_same (by simp) _ (by first | exact (List.append_nil _).symm | rfl) (by simp (maxSteps := 1000000) (disch := omega) only [resVal, resAll, resOne, rs24, Env.get, go_sem, Nat.reduceEqDiff, Nat.reduceLT, Nat.reduceAdd, Nat.reduceSub, Nat.reduceMul, Nat.reduceBEq, Int.reduceLT, Int.reduceAdd, Int.reduceMul, Int.reduceSub, Int.reduceToNat, Int.reduceLE, Int.reduceEq, ↓reduceIte, reduceCtorEq, Int.reduceNeg, Nat.reduceLeDiff]) (by simp only [AV.und, AV.unds, and_self])
end Go.Proofs.Ytjibcbfdfambeaa.Ah
