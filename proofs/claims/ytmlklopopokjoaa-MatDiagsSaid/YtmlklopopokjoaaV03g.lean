/- V03g: a part of the proof: contracts of functions, or plain laws. Conditions: none. -/
import Derived.Test.YtmlklopopokjoaaV03f
namespace Go.Proofs.Ytmlklopopokjoaa.Ah
open Go Go.WideShapes
attribute [local irreducible] acs aopsK drawK leave condK bindR bindD bindX guardK guardD callB callD callX callP callPv
attribute [local go_sem] acs_nil acs_blk acs_skip acs_reg acs_dreg acs_freg acs_nam0 acs_nam nones acs_seq acs_cond acs_block acs_exit acs_ret acs_kl acs_loop leave_nil leave_code leave_lp leave_blk aopsK_nil aopsK_cons aopsK_guard bindR_val bindR_need bindR_br bindR_call bindR_bad drawK_nil drawK_cons drawK_ext drawK_pur drawK_guard callPv_fn drawK_purv bindD_val bindD_need bindD_br bindD_call bindD_bad bindX_val bindX_need bindX_br bindX_call guardD_bool guardD_tup grows grows0 List.append_cancel_left_eq List.cons.injEq exists_eq' exists_eq condK_bool guardK_bool guardK_tup sor r0 r1 r2 r3 rC rB rI rP rA rT rS rF rSl rO rbin rcut run1 Env.evals Env.eval Env.get Env.put Env.ins Env.del Env.dels argEnv AV.full AV.cells AV.cell eqCells decide_true decide_false decide_eq_true_eq decide_eq_false_iff_not Bool.not_eq_true' Bool.not_eq_false' true_and and_true false_implies true_implies forall_const Bool.not_true Bool.not_false Bool.false_eq_true Bool.true_eq_false List.getElem?_cons_zero List.getElem?_cons_succ List.length_cons List.length_nil List.length_append List.all_cons List.all_nil Bool.and_true Bool.and_self implies_true List.append_assoc List.cons_append List.nil_append List.append_nil i64_in imin_eq imax_eq cast3 cast0 cast1 cast2 Option.map_none ite_self and_false false_and Option.isSome_some or_true true_or Int.sub_zero Int.mul_one Nat.sub_zero Nat.zero_le Int.cast_ofNat_Int Int.natCast_nonneg Int.toNat_natCast ne_eq not_false_eq_true not_true_eq_false strC blkAt_app blkAt_app0 blkAt_zero blkAt_succ List.set_cons_zero List.set_cons_succ set_app set_app0 Option.map_some Option.bind_some rd setCells lay rdS szOk rapp ownAt lenAt Option.any_some Option.getD_some List.drop_zero List.drop_succ_cons List.take_succ_cons List.take_zero List.drop_nil List.take_nil Nat.lt_irrefl Nat.zero_add Nat.add_zero Nat.mul_one Nat.one_mul Nat.add_assoc Option.some.injEq eq_self
set_option maxHeartbeats 4000000
set_option linter.unusedSimpArgs false
set_option linter.unusedVariables false
/-! Which matrices are right. -/
theorem drop_cons {α : Type} {xs : List α} {j : Nat} {x : α} {r : List α} (h : xs.drop j = x :: r) : xs[j]? = some x ∧ xs.drop (j + 1) = r ∧ j < xs.length := by
  refine ⟨by have := congrArg (·[0]?) h; simpa using this, by rw [← List.drop_drop, h]; rfl, ?_⟩
  rcases Nat.lt_or_ge j xs.length with g | g
  · exact g
  · rw [List.drop_of_length_le g] at h; cases h
def ixo : List Int → Int → Int
  | [], _ => -1
  | x :: r, j => if inb x then ixo r (j + 1) else j
theorem ixo_nil (j : Int) : ixo [] j = -1 := rfl
theorem ixo_cons (x : Int) (r : List Int) (j : Int) : ixo (x :: r) j = if inb x then ixo r (j + 1) else j := rfl
theorem ixo_all : ∀ (l : List Int) (j : Int), 0 ≤ j → (decide (0 ≤ ixo l j)) = !(l.all inb)
  | [], j, h => rfl
  | x :: r, j, h => by
    unfold ixo
    cases hx : inb x with
    | true => rw [if_pos rfl, ixo_all r (j + 1) (by omega)]; simp [hx]
    | false => rw [if_neg (by simp)]; simp [hx, h]
theorem hb47 : hasBody Try.prog 47 = true := by kernel_rfl
theorem f57 {l : List Int} {p off : Nat} {k : Option Nat} {H : Heap} (hs : Sl i64 H p off l) (hl : l.length ≤ 4611686018427387904) : ACall Try.prog 57 [.sl p off l.length 1 k, .fn (.func 47) [] []] H (.int .i64 (ixo l 0)) H := by
  refine acall57 (by simp) (acs_start ?_)
  obtain ⟨cs, o, hp, hle, hcs⟩ := hs
  have hpl := blkAt_lt hp
  have g := fun x => f47 (a := x) (H := H)
  unfold c57
  simp (maxSteps := 1000000) (disch := omega) only [go_sem, Nat.reduceEqDiff, Nat.reduceLT, Nat.reduceAdd, Nat.reduceSub, Nat.reduceMul, Nat.reduceBEq, Int.reduceLT, Int.reduceAdd, Int.reduceMul, Int.reduceSub, Int.reduceToNat, Int.reduceLE, Int.reduceEq, ↓reduceIte, reduceCtorEq, Int.reduceNeg, Nat.reduceLeDiff]
  refine loop_list (fun r T H' => ∃ j : Nat, T = [(0, .sl p off l.length 1 k), (1, .fn (.func 47) [] []), (7, .int .i64 (l.length : Nat)), (8, .int .i64 (j : Nat))] ∧ H' = H ∧ l.drop j = r ∧ j + r.length = l.length ∧ ixo l 0 = ixo r j) ?_ ?_ l _ _ ⟨0, rfl, rfl, rfl, by simp, rfl⟩
  · rintro x r T H' ⟨j, rfl, rfl, hd, hj, hi⟩ nx
    obtain ⟨h1, h2, h3⟩ := drop_cons hd
    have hjl : (j : Int) < (l.length : Int) := by omega
    have fx : cs[off + j]? = some (.int .i64 x) := sl_get hcs h1
    have hi0 := hi
    rw [hi]
    rw [acs_lp]; conv in Fr.code c57l0 => unfold c57l0
    simp (maxSteps := 1000000) (disch := omega) only [go_sem, Nat.reduceEqDiff, Nat.reduceLT, Nat.reduceAdd, Nat.reduceSub, Nat.reduceMul, Nat.reduceBEq, Int.reduceLT, Int.reduceAdd, Int.reduceMul, Int.reduceSub, Int.reduceToNat, Int.reduceLE, Int.reduceEq, ↓reduceIte, reduceCtorEq, Int.reduceNeg, Nat.reduceLeDiff,  hjl, hpl, hp, fx, hb47]
    first | refine callB_intro (g _) ?_ | refine callD_intro (g _) ?_ | refine callP_intro (fun _ => (g _)) ?_ | refine callX_pure (g _) ?_
    cases hx : inb x with
    | true =>
      have e1 : ixo (x :: r) (j : Int) = ixo r ((j + 1 : Nat) : Int) := by rw [ixo_cons, hx]; rfl
      rw [e1]
      rw [e1] at hi
      simp (maxSteps := 1000000) (disch := omega) only [go_sem, Nat.reduceEqDiff, Nat.reduceLT, Nat.reduceAdd, Nat.reduceSub, Nat.reduceMul, Nat.reduceBEq, Int.reduceLT, Int.reduceAdd, Int.reduceMul, Int.reduceSub, Int.reduceToNat, Int.reduceLE, Int.reduceEq, ↓reduceIte, reduceCtorEq, Int.reduceNeg, Nat.reduceLeDiff]
      rw [← hi]
      refine nx _ _ ⟨j + 1, ?_, rfl, h2, by simp at hj; omega, hi⟩
      simp
    | false =>
      have e1 : ixo (x :: r) (j : Int) = (j : Int) := by rw [ixo_cons, hx]; rfl
      rw [e1]
      simp (maxSteps := 1000000) (disch := omega) only [go_sem, Nat.reduceEqDiff, Nat.reduceLT, Nat.reduceAdd, Nat.reduceSub, Nat.reduceMul, Nat.reduceBEq, Int.reduceLT, Int.reduceAdd, Int.reduceMul, Int.reduceSub, Int.reduceToNat, Int.reduceLE, Int.reduceEq, ↓reduceIte, reduceCtorEq, Int.reduceNeg, Nat.reduceLeDiff]
      exact fin_same (by simp) _ (by first | exact (List.append_nil _).symm | rfl) (by simp (maxSteps := 1000000) (disch := omega) only [resVal, resAll, resOne, rs57, Env.get, go_sem, Nat.reduceEqDiff, Nat.reduceLT, Nat.reduceAdd, Nat.reduceSub, Nat.reduceMul, Nat.reduceBEq, Int.reduceLT, Int.reduceAdd, Int.reduceMul, Int.reduceSub, Int.reduceToNat, Int.reduceLE, Int.reduceEq, ↓reduceIte, reduceCtorEq, Int.reduceNeg, Nat.reduceLeDiff]) (by simp only [AV.und, AV.unds, and_self])
  · rintro T H' ⟨j, rfl, rfl, hd, hj, hi⟩
    obtain rfl : j = l.length := by simpa using hj
    rw [hi, ixo_nil]
    rw [acs_lp]; conv in Fr.code c57l0 => unfold c57l0
    simp (maxSteps := 1000000) (disch := omega) only [go_sem, Nat.reduceEqDiff, Nat.reduceLT, Nat.reduceAdd, Nat.reduceSub, Nat.reduceMul, Nat.reduceBEq, Int.reduceLT, Int.reduceAdd, Int.reduceMul, Int.reduceSub, Int.reduceToNat, Int.reduceLE, Int.reduceEq, ↓reduceIte, reduceCtorEq, Int.reduceNeg, Nat.reduceLeDiff,  Int.lt_irrefl]
    exact fin_same (by simp) _ (by first | exact (List.append_nil _).symm | rfl) (by simp (maxSteps := 1000000) (disch := omega) only [resVal, resAll, resOne, rs57, Env.get, go_sem, Nat.reduceEqDiff, Nat.reduceLT, Nat.reduceAdd, Nat.reduceSub, Nat.reduceMul, Nat.reduceBEq, Int.reduceLT, Int.reduceAdd, Int.reduceMul, Int.reduceSub, Int.reduceToNat, Int.reduceLE, Int.reduceEq, ↓reduceIte, reduceCtorEq, Int.reduceNeg, Nat.reduceLeDiff]) (by simp only [AV.und, AV.unds, and_self])
theorem f48 {l : List Int} {p off : Nat} {k : Option Nat} {H : Heap} (hs : Sl i64 H p off l) (hl : l.length ≤ 4611686018427387904) : ACall Try.prog 48 [.sl p off l.length 1 k, .fn (.func 47) [] []] H (.bool (!(l.all inb))) H := by
  refine acall48 (by simp) (acs_start ?_)
  have g := f57 (k := k) hs hl
  have e := ixo_all l 0 (Int.le_refl _)
  unfold c48
  simp (maxSteps := 1000000) (disch := omega) only [go_sem, Nat.reduceEqDiff, Nat.reduceLT, Nat.reduceAdd, Nat.reduceSub, Nat.reduceMul, Nat.reduceBEq, Int.reduceLT, Int.reduceAdd, Int.reduceMul, Int.reduceSub, Int.reduceToNat, Int.reduceLE, Int.reduceEq, ↓reduceIte, reduceCtorEq, Int.reduceNeg, Nat.reduceLeDiff]
  first | refine callB_intro (g) ?_ | refine callD_intro (g) ?_ | refine callP_intro (fun _ => (g)) ?_ | refine callX_pure (g) ?_
  simp (maxSteps := 1000000) (disch := omega) only [go_sem, Nat.reduceEqDiff, Nat.reduceLT, Nat.reduceAdd, Nat.reduceSub, Nat.reduceMul, Nat.reduceBEq, Int.reduceLT, Int.reduceAdd, Int.reduceMul, Int.reduceSub, Int.reduceToNat, Int.reduceLE, Int.reduceEq, ↓reduceIte, reduceCtorEq, Int.reduceNeg, Nat.reduceLeDiff,  e]
  exact fin_same (by simp) _ (by first | exact (List.append_nil _).symm | rfl) (by simp (maxSteps := 1000000) (disch := omega) only [resVal, resAll, resOne, rs48, Env.get, go_sem, Nat.reduceEqDiff, Nat.reduceLT, Nat.reduceAdd, Nat.reduceSub, Nat.reduceMul, Nat.reduceBEq, Int.reduceLT, Int.reduceAdd, Int.reduceMul, Int.reduceSub, Int.reduceToNat, Int.reduceLE, Int.reduceEq, ↓reduceIte, reduceCtorEq, Int.reduceNeg, Nat.reduceLeDiff]) (by simp only [AV.und, AV.unds, and_self])
def rightB (R C : Int) (l : List Int) : Bool := decide (1 ≤ R ∧ R ≤ 8 ∧ 1 ≤ C ∧ C ≤ 8 ∧ (l.length : Int) = R * C) && l.all inb
theorem mul64 {R C : Int} (h1 : 1 ≤ R) (h2 : R ≤ 8) (h3 : 1 ≤ C) (h4 : C ≤ 8) : IntKind.i64.wrap (R * C) = R * C := by
  have a := Int.mul_le_mul h2 h4 (by omega) (by omega)
  have b := Int.mul_nonneg (show 0 ≤ R by omega) (show 0 ≤ C by omega)
  exact i64_in _ (by omega)
theorem f24 {R C : Int} {l : List Int} {p off : Nat} {k : Option Nat} {H : Heap} (hs : Sl i64 H p off l) (hl : l.length ≤ 4611686018427387904) : ACall Try.prog 24 [.agg [.int .i64 R, .int .i64 C, .sl p off l.length 1 k]] H (.bool (rightB R C l)) H := by
  refine acall24 (by simp) (acs_start ?_)
  have g := fun G => f48 (k := k) (hs.app G) hl
  have no : ¬ (1 ≤ R ∧ R ≤ 8 ∧ 1 ≤ C ∧ C ≤ 8 ∧ (l.length : Int) = R * C) → rightB R C l = false := fun h => by unfold rightB; rw [decide_eq_false h]; rfl
  unfold c24
  by_cases h1 : 1 ≤ R
  rotate_left
  · rw [no (by omega)]
    simp (maxSteps := 1000000) (disch := omega) only [go_sem, Nat.reduceEqDiff, Nat.reduceLT, Nat.reduceAdd, Nat.reduceSub, Nat.reduceMul, Nat.reduceBEq, Int.reduceLT, Int.reduceAdd, Int.reduceMul, Int.reduceSub, Int.reduceToNat, Int.reduceLE, Int.reduceEq, ↓reduceIte, reduceCtorEq, Int.reduceNeg, Nat.reduceLeDiff,  h1]
    exact fin_same (by simp) _ (by first | exact (List.append_nil _).symm | rfl) (by simp (maxSteps := 1000000) (disch := omega) only [resVal, resAll, resOne, rs24, Env.get, go_sem, Nat.reduceEqDiff, Nat.reduceLT, Nat.reduceAdd, Nat.reduceSub, Nat.reduceMul, Nat.reduceBEq, Int.reduceLT, Int.reduceAdd, Int.reduceMul, Int.reduceSub, Int.reduceToNat, Int.reduceLE, Int.reduceEq, ↓reduceIte, reduceCtorEq, Int.reduceNeg, Nat.reduceLeDiff]) (by simp only [AV.und, AV.unds, and_self])
  by_cases h2 : R ≤ 8
  rotate_left
  · rw [no (by omega)]
    simp (maxSteps := 1000000) (disch := omega) only [go_sem, Nat.reduceEqDiff, Nat.reduceLT, Nat.reduceAdd, Nat.reduceSub, Nat.reduceMul, Nat.reduceBEq, Int.reduceLT, Int.reduceAdd, Int.reduceMul, Int.reduceSub, Int.reduceToNat, Int.reduceLE, Int.reduceEq, ↓reduceIte, reduceCtorEq, Int.reduceNeg, Nat.reduceLeDiff,  h1, h2]
    exact fin_same (by simp) _ (by first | exact (List.append_nil _).symm | rfl) (by simp (maxSteps := 1000000) (disch := omega) only [resVal, resAll, resOne, rs24, Env.get, go_sem, Nat.reduceEqDiff, Nat.reduceLT, Nat.reduceAdd, Nat.reduceSub, Nat.reduceMul, Nat.reduceBEq, Int.reduceLT, Int.reduceAdd, Int.reduceMul, Int.reduceSub, Int.reduceToNat, Int.reduceLE, Int.reduceEq, ↓reduceIte, reduceCtorEq, Int.reduceNeg, Nat.reduceLeDiff]) (by simp only [AV.und, AV.unds, and_self])
  by_cases h3 : 1 ≤ C
  rotate_left
  · rw [no (by omega)]
    simp (maxSteps := 1000000) (disch := omega) only [go_sem, Nat.reduceEqDiff, Nat.reduceLT, Nat.reduceAdd, Nat.reduceSub, Nat.reduceMul, Nat.reduceBEq, Int.reduceLT, Int.reduceAdd, Int.reduceMul, Int.reduceSub, Int.reduceToNat, Int.reduceLE, Int.reduceEq, ↓reduceIte, reduceCtorEq, Int.reduceNeg, Nat.reduceLeDiff,  h1, h2, h3]
    exact fin_same (by simp) _ (by first | exact (List.append_nil _).symm | rfl) (by simp (maxSteps := 1000000) (disch := omega) only [resVal, resAll, resOne, rs24, Env.get, go_sem, Nat.reduceEqDiff, Nat.reduceLT, Nat.reduceAdd, Nat.reduceSub, Nat.reduceMul, Nat.reduceBEq, Int.reduceLT, Int.reduceAdd, Int.reduceMul, Int.reduceSub, Int.reduceToNat, Int.reduceLE, Int.reduceEq, ↓reduceIte, reduceCtorEq, Int.reduceNeg, Nat.reduceLeDiff]) (by simp only [AV.und, AV.unds, and_self])
  by_cases h4 : C ≤ 8
  rotate_left
  · rw [no (by omega)]
    simp (maxSteps := 1000000) (disch := omega) only [go_sem, Nat.reduceEqDiff, Nat.reduceLT, Nat.reduceAdd, Nat.reduceSub, Nat.reduceMul, Nat.reduceBEq, Int.reduceLT, Int.reduceAdd, Int.reduceMul, Int.reduceSub, Int.reduceToNat, Int.reduceLE, Int.reduceEq, ↓reduceIte, reduceCtorEq, Int.reduceNeg, Nat.reduceLeDiff,  h1, h2, h3, h4]
    exact fin_same (by simp) _ (by first | exact (List.append_nil _).symm | rfl) (by simp (maxSteps := 1000000) (disch := omega) only [resVal, resAll, resOne, rs24, Env.get, go_sem, Nat.reduceEqDiff, Nat.reduceLT, Nat.reduceAdd, Nat.reduceSub, Nat.reduceMul, Nat.reduceBEq, Int.reduceLT, Int.reduceAdd, Int.reduceMul, Int.reduceSub, Int.reduceToNat, Int.reduceLE, Int.reduceEq, ↓reduceIte, reduceCtorEq, Int.reduceNeg, Nat.reduceLeDiff]) (by simp only [AV.und, AV.unds, and_self])
  have e := mul64 h1 h2 h3 h4
  by_cases h5 : (l.length : Int) = R * C
  rotate_left
  · rw [no (fun h => h5 h.2.2.2.2)]
    simp (maxSteps := 1000000) (disch := omega) only [go_sem, Nat.reduceEqDiff, Nat.reduceLT, Nat.reduceAdd, Nat.reduceSub, Nat.reduceMul, Nat.reduceBEq, Int.reduceLT, Int.reduceAdd, Int.reduceMul, Int.reduceSub, Int.reduceToNat, Int.reduceLE, Int.reduceEq, ↓reduceIte, reduceCtorEq, Int.reduceNeg, Nat.reduceLeDiff,  h1, h2, h3, h4, e, h5]
    exact fin_same (by simp) _ (by first | exact (List.append_nil _).symm | rfl) (by simp (maxSteps := 1000000) (disch := omega) only [resVal, resAll, resOne, rs24, Env.get, go_sem, Nat.reduceEqDiff, Nat.reduceLT, Nat.reduceAdd, Nat.reduceSub, Nat.reduceMul, Nat.reduceBEq, Int.reduceLT, Int.reduceAdd, Int.reduceMul, Int.reduceSub, Int.reduceToNat, Int.reduceLE, Int.reduceEq, ↓reduceIte, reduceCtorEq, Int.reduceNeg, Nat.reduceLeDiff]) (by simp only [AV.und, AV.unds, and_self])
  have yes : rightB R C l = l.all inb := by unfold rightB; rw [decide_eq_true ⟨h1, h2, h3, h4, h5⟩]; rfl
  rw [yes]
  simp (maxSteps := 1000000) (disch := omega) only [go_sem, Nat.reduceEqDiff, Nat.reduceLT, Nat.reduceAdd, Nat.reduceSub, Nat.reduceMul, Nat.reduceBEq, Int.reduceLT, Int.reduceAdd, Int.reduceMul, Int.reduceSub, Int.reduceToNat, Int.reduceLE, Int.reduceEq, ↓reduceIte, reduceCtorEq, Int.reduceNeg, Nat.reduceLeDiff,  h1, h2, h3, h4, e, h5]
  first | refine callB_intro (g _) ?_ | refine callD_intro (g _) ?_ | refine callP_intro (fun _ => (g _)) ?_ | refine callX_pure (g _) ?_
  simp (maxSteps := 1000000) (disch := omega) only [go_sem, Nat.reduceEqDiff, Nat.reduceLT, Nat.reduceAdd, Nat.reduceSub, Nat.reduceMul, Nat.reduceBEq, Int.reduceLT, Int.reduceAdd, Int.reduceMul, Int.reduceSub, Int.reduceToNat, Int.reduceLE, Int.reduceEq, ↓reduceIte, reduceCtorEq, Int.reduceNeg, Nat.reduceLeDiff,  Bool.not_not, Bool.true_and]
  exact fin_same (by simp) _ (by first | exact (List.append_nil _).symm | rfl) (by simp (maxSteps := 1000000) (disch := omega) only [resVal, resAll, resOne, rs24, Env.get, go_sem, Nat.reduceEqDiff, Nat.reduceLT, Nat.reduceAdd, Nat.reduceSub, Nat.reduceMul, Nat.reduceBEq, Int.reduceLT, Int.reduceAdd, Int.reduceMul, Int.reduceSub, Int.reduceToNat, Int.reduceLE, Int.reduceEq, ↓reduceIte, reduceCtorEq, Int.reduceNeg, Nat.reduceLeDiff]) (by simp only [AV.und, AV.unds, and_self])
end Go.Proofs.Ytmlklopopokjoaa.Ah
